/-
  No cell of these rows narrows 'for every input' (looked for: loops, veiled, ifaces, maps, wideKeys, modest, calm, conditions, laid).
  DERIVED. THE GIVEN ROWS OF THIS SEAT. 10 by the template 'for every input the law returns true; each argument reads behind the call as it read before'; 0 by the template 'total and deterministic' (their statements: YtofkdfodehfpdaaTotals.lean).
  GIVEN WITH THE SEED: the statements are not yours to turn. If you find one false, say at which input.
  Laid BY PROGRAM, IN A SANDBOX (cutbox-rows.mjs): the forced cells as the released guide's own fill.sh prints them over the translation 7c16899edd53c35c… (all of the seat's roots in one cut). By AI agents, Wed Nov 11 2026. No macro, syntax, notation, axiom, sorry.
-/
import Derived.Test.YtofkdfodehfpdaaChecked
import GoSem.Claim
import GoSem.ClaimJoined
import GoSem.ClaimMapViews
import Derived.JoinedTies
import Derived.KernelRfl
namespace Go.Proofs.Ytofkdfodehfpdaa
/- THE CELL 'sum', in the pinned program and in every row, IS THE sha256 OF THE DUMP (.gsa) THAT YtofkdfodehfpdaaProg.lean LOADS. Nothing in Lean hashes anything: it is a label: what it is worth is what the hold of that sum in a sandbox is worth. -/
noncomputable def Try.pinned : Pinned := { name := "ytofkdfodehfpdaa", sum := "7c16899edd53c35ca1c577b75bab232e07c54b1af3c04ee6dc2fbf4a2d80217f", checked := Try.checked }
namespace Rows
def none {H : Type} : Left H := { results := [], args := [] }

/-- 'offertorylaw16.SealLocks': WHATEVER THE INPUT: true; the input reads as it did. -/
def sealLocksSpec : ChangeSpec := { name := "sealLocks", fn := fun _ => fun
  | [d1, d2, d3, d4, d5] => { results := [.lit (.bool true)], args := [d1, d2, d3, d4, d5] }
  | _ => none }
def sealLocksRow : OpenClaim := { program := "ytofkdfodehfpdaa", sum := "7c16899edd53c35ca1c577b75bab232e07c54b1af3c04ee6dc2fbf4a2d80217f", func := "offertory/offertorylaw16.SealLocks", spec := "sealLocks", unfollowed := true, recurses := true, apart := false }
def SealLocksSaid : Prop := sealLocksRow.holds Try.pinned (OpenSpec.ofChange sealLocksSpec)

/-- ITS FALSE NEIGHBOUR: 'it returns false'. Refute it at one input. -/
def sealLocksWrong : ChangeSpec := { name := "sealLocks", fn := fun _ => fun
  | [d1, d2, d3, d4, d5] => { results := [.lit (.bool false)], args := [d1, d2, d3, d4, d5] }
  | _ => none }
def SealLocksWrongFalsely : Prop := sealLocksRow.holds Try.pinned (OpenSpec.ofChange sealLocksWrong)

/-- 'offertorylaw16.SealOpens': WHATEVER THE INPUT: true; the input reads as it did. -/
def sealOpensSpec : ChangeSpec := { name := "sealOpens", fn := fun _ => fun
  | [d1, d2, d3, d4, d5] => { results := [.lit (.bool true)], args := [d1, d2, d3, d4, d5] }
  | _ => none }
def sealOpensRow : OpenClaim := { program := "ytofkdfodehfpdaa", sum := "7c16899edd53c35ca1c577b75bab232e07c54b1af3c04ee6dc2fbf4a2d80217f", func := "offertory/offertorylaw16.SealOpens", spec := "sealOpens", unfollowed := true, recurses := true, apart := false }
def SealOpensSaid : Prop := sealOpensRow.holds Try.pinned (OpenSpec.ofChange sealOpensSpec)

/-- ITS FALSE NEIGHBOUR: 'it returns false'. Refute it at one input. -/
def sealOpensWrong : ChangeSpec := { name := "sealOpens", fn := fun _ => fun
  | [d1, d2, d3, d4, d5] => { results := [.lit (.bool false)], args := [d1, d2, d3, d4, d5] }
  | _ => none }
def SealOpensWrongFalsely : Prop := sealOpensRow.holds Try.pinned (OpenSpec.ofChange sealOpensWrong)

/-- 'offertorylaw16.SealBack': WHATEVER THE INPUT: true; the input reads as it did. -/
def sealBackSpec : ChangeSpec := { name := "sealBack", fn := fun _ => fun
  | [d1, d2, d3, d4, d5] => { results := [.lit (.bool true)], args := [d1, d2, d3, d4, d5] }
  | _ => none }
def sealBackRow : OpenClaim := { program := "ytofkdfodehfpdaa", sum := "7c16899edd53c35ca1c577b75bab232e07c54b1af3c04ee6dc2fbf4a2d80217f", func := "offertory/offertorylaw16.SealBack", spec := "sealBack", unfollowed := true, recurses := true, apart := false }
def SealBackSaid : Prop := sealBackRow.holds Try.pinned (OpenSpec.ofChange sealBackSpec)

/-- ITS FALSE NEIGHBOUR: 'it returns false'. Refute it at one input. -/
def sealBackWrong : ChangeSpec := { name := "sealBack", fn := fun _ => fun
  | [d1, d2, d3, d4, d5] => { results := [.lit (.bool false)], args := [d1, d2, d3, d4, d5] }
  | _ => none }
def SealBackWrongFalsely : Prop := sealBackRow.holds Try.pinned (OpenSpec.ofChange sealBackWrong)

/-- 'offertorylaw17.MaskPairs': WHATEVER THE INPUT: true; the input reads as it did. -/
def maskPairsSpec : ChangeSpec := { name := "maskPairs", fn := fun _ => fun
  | [d1, d2, d3, d4] => { results := [.lit (.bool true)], args := [d1, d2, d3, d4] }
  | _ => none }
def maskPairsRow : OpenClaim := { program := "ytofkdfodehfpdaa", sum := "7c16899edd53c35ca1c577b75bab232e07c54b1af3c04ee6dc2fbf4a2d80217f", func := "offertory/offertorylaw17.MaskPairs", spec := "maskPairs", unfollowed := true, recurses := true, apart := false }
def MaskPairsSaid : Prop := maskPairsRow.holds Try.pinned (OpenSpec.ofChange maskPairsSpec)

/-- ITS FALSE NEIGHBOUR: 'it returns false'. Refute it at one input. -/
def maskPairsWrong : ChangeSpec := { name := "maskPairs", fn := fun _ => fun
  | [d1, d2, d3, d4] => { results := [.lit (.bool false)], args := [d1, d2, d3, d4] }
  | _ => none }
def MaskPairsWrongFalsely : Prop := maskPairsRow.holds Try.pinned (OpenSpec.ofChange maskPairsWrong)

/-- 'offertorylaw17.MaskHides': WHATEVER THE INPUT: true; the input reads as it did. -/
def maskHidesSpec : ChangeSpec := { name := "maskHides", fn := fun _ => fun
  | [d1, d2, d3, d4, d5] => { results := [.lit (.bool true)], args := [d1, d2, d3, d4, d5] }
  | _ => none }
def maskHidesRow : OpenClaim := { program := "ytofkdfodehfpdaa", sum := "7c16899edd53c35ca1c577b75bab232e07c54b1af3c04ee6dc2fbf4a2d80217f", func := "offertory/offertorylaw17.MaskHides", spec := "maskHides", unfollowed := true, recurses := true, apart := false }
def MaskHidesSaid : Prop := maskHidesRow.holds Try.pinned (OpenSpec.ofChange maskHidesSpec)

/-- ITS FALSE NEIGHBOUR: 'it returns false'. Refute it at one input. -/
def maskHidesWrong : ChangeSpec := { name := "maskHides", fn := fun _ => fun
  | [d1, d2, d3, d4, d5] => { results := [.lit (.bool false)], args := [d1, d2, d3, d4, d5] }
  | _ => none }
def MaskHidesWrongFalsely : Prop := maskHidesRow.holds Try.pinned (OpenSpec.ofChange maskHidesWrong)

/-- 'offertorylaw17.MaskLeft': WHATEVER THE INPUT: true; the input reads as it did. -/
def maskLeftSpec : ChangeSpec := { name := "maskLeft", fn := fun _ => fun
  | [d1, d2, d3, d4] => { results := [.lit (.bool true)], args := [d1, d2, d3, d4] }
  | _ => none }
def maskLeftRow : OpenClaim := { program := "ytofkdfodehfpdaa", sum := "7c16899edd53c35ca1c577b75bab232e07c54b1af3c04ee6dc2fbf4a2d80217f", func := "offertory/offertorylaw17.MaskLeft", spec := "maskLeft", unfollowed := true, recurses := true, apart := false }
def MaskLeftSaid : Prop := maskLeftRow.holds Try.pinned (OpenSpec.ofChange maskLeftSpec)

/-- ITS FALSE NEIGHBOUR: 'it returns false'. Refute it at one input. -/
def maskLeftWrong : ChangeSpec := { name := "maskLeft", fn := fun _ => fun
  | [d1, d2, d3, d4] => { results := [.lit (.bool false)], args := [d1, d2, d3, d4] }
  | _ => none }
def MaskLeftWrongFalsely : Prop := maskLeftRow.holds Try.pinned (OpenSpec.ofChange maskLeftWrong)

/-- 'offertorylaw17.MaskGoes': WHATEVER THE INPUT: true; the input reads as it did. -/
def maskGoesSpec : ChangeSpec := { name := "maskGoes", fn := fun _ => fun
  | [d1, d2, d3] => { results := [.lit (.bool true)], args := [d1, d2, d3] }
  | _ => none }
def maskGoesRow : OpenClaim := { program := "ytofkdfodehfpdaa", sum := "7c16899edd53c35ca1c577b75bab232e07c54b1af3c04ee6dc2fbf4a2d80217f", func := "offertory/offertorylaw17.MaskGoes", spec := "maskGoes", unfollowed := true, recurses := true, apart := false }
def MaskGoesSaid : Prop := maskGoesRow.holds Try.pinned (OpenSpec.ofChange maskGoesSpec)

/-- ITS FALSE NEIGHBOUR: 'it returns false'. Refute it at one input. -/
def maskGoesWrong : ChangeSpec := { name := "maskGoes", fn := fun _ => fun
  | [d1, d2, d3] => { results := [.lit (.bool false)], args := [d1, d2, d3] }
  | _ => none }
def MaskGoesWrongFalsely : Prop := maskGoesRow.holds Try.pinned (OpenSpec.ofChange maskGoesWrong)

/-- 'offertorylaw17.MaskBegins': WHATEVER THE INPUT: true; the input reads as it did. -/
def maskBeginsSpec : ChangeSpec := { name := "maskBegins", fn := fun _ => fun
  | [d1, d2, d3, d4, d5] => { results := [.lit (.bool true)], args := [d1, d2, d3, d4, d5] }
  | _ => none }
def maskBeginsRow : OpenClaim := { program := "ytofkdfodehfpdaa", sum := "7c16899edd53c35ca1c577b75bab232e07c54b1af3c04ee6dc2fbf4a2d80217f", func := "offertory/offertorylaw17.MaskBegins", spec := "maskBegins", unfollowed := true, recurses := true, apart := false }
def MaskBeginsSaid : Prop := maskBeginsRow.holds Try.pinned (OpenSpec.ofChange maskBeginsSpec)

/-- ITS FALSE NEIGHBOUR: 'it returns false'. Refute it at one input. -/
def maskBeginsWrong : ChangeSpec := { name := "maskBegins", fn := fun _ => fun
  | [d1, d2, d3, d4, d5] => { results := [.lit (.bool false)], args := [d1, d2, d3, d4, d5] }
  | _ => none }
def MaskBeginsWrongFalsely : Prop := maskBeginsRow.holds Try.pinned (OpenSpec.ofChange maskBeginsWrong)

/-- 'offertorylaw07.ShareHides': WHATEVER THE INPUT: true; the input reads as it did. -/
def shareHidesSpec : ChangeSpec := { name := "shareHides", fn := fun _ => fun
  | [d1, d2, d3] => { results := [.lit (.bool true)], args := [d1, d2, d3] }
  | _ => none }
def shareHidesRow : OpenClaim := { program := "ytofkdfodehfpdaa", sum := "7c16899edd53c35ca1c577b75bab232e07c54b1af3c04ee6dc2fbf4a2d80217f", func := "offertory/offertorylaw07.ShareHides", spec := "shareHides", unfollowed := true, recurses := true, apart := false }
def ShareHidesSaid : Prop := shareHidesRow.holds Try.pinned (OpenSpec.ofChange shareHidesSpec)

/-- ITS FALSE NEIGHBOUR: 'it returns false'. Refute it at one input. -/
def shareHidesWrong : ChangeSpec := { name := "shareHides", fn := fun _ => fun
  | [d1, d2, d3] => { results := [.lit (.bool false)], args := [d1, d2, d3] }
  | _ => none }
def ShareHidesWrongFalsely : Prop := shareHidesRow.holds Try.pinned (OpenSpec.ofChange shareHidesWrong)

/-- 'offertorylaw07.ShareOnce': WHATEVER THE INPUT: true; the input reads as it did. -/
def shareOnceSpec : ChangeSpec := { name := "shareOnce", fn := fun _ => fun
  | [d1, d2, d3, d4] => { results := [.lit (.bool true)], args := [d1, d2, d3, d4] }
  | _ => none }
def shareOnceRow : OpenClaim := { program := "ytofkdfodehfpdaa", sum := "7c16899edd53c35ca1c577b75bab232e07c54b1af3c04ee6dc2fbf4a2d80217f", func := "offertory/offertorylaw07.ShareOnce", spec := "shareOnce", unfollowed := true, recurses := true, apart := false }
def ShareOnceSaid : Prop := shareOnceRow.holds Try.pinned (OpenSpec.ofChange shareOnceSpec)

/-- ITS FALSE NEIGHBOUR: 'it returns false'. Refute it at one input. -/
def shareOnceWrong : ChangeSpec := { name := "shareOnce", fn := fun _ => fun
  | [d1, d2, d3, d4] => { results := [.lit (.bool false)], args := [d1, d2, d3, d4] }
  | _ => none }
def ShareOnceWrongFalsely : Prop := shareOnceRow.holds Try.pinned (OpenSpec.ofChange shareOnceWrong)

/- THE SECOND FORM. 'bulk': how many values and letters a reading holds, each counted each time it is reached (what is shared counts as often as it is met; a slice's spare places count too). A statement '..UptoSaid' is the law's where the arguments, and the package variables that the reading takes, are together of bulk at most 1048576: NARROWER than '..Said'. Prove '..Said' where nothing that the law and all that it calls make is longer than what came in: it says more and counts as full. Else prove '..UptoSaid'. A law counts once. -/
mutual
def uptoBulk {H : Type} : DataW H → Nat
  | .lit (.string bytes) => bytes.length + 1
  | .lit _ => 1
  | .nil => 1
  | .ptr d => uptoBulk d + 1
  | .slice elems spare => uptoBulkAll elems + uptoBulkAll spare + 1
  | .agg parts => uptoBulkAll parts + 1
  | .iface _ d => uptoBulk d + 1
  | .map entries => uptoBulkEntries entries + 1
  | .held _ => 1
def uptoBulkAll {H : Type} : List (DataW H) → Nat
  | [] => 0
  | d :: r => uptoBulk d + uptoBulkAll r
def uptoBulkEntries {H : Type} : List (Lit × DataW H) → Nat
  | [] => 0
  | x :: r => uptoBulkEntry x + uptoBulkEntries r
def uptoBulkEntry {H : Type} : Lit × DataW H → Nat
  | (.string bytes, d) => bytes.length + uptoBulk d + 1
  | (_, d) => uptoBulk d + 1
 end
def uptoSmall : (H : Type) → List (DataW H) → Bool := fun _ ds => decide (uptoBulkAll ds ≤ 1048576)
def OpenSpec.upto (s : _root_.Go.ChangeSpec) : _root_.Go.OpenSpec := { _root_.Go.OpenSpec.ofChange s with cond := some uptoSmall }

/-- 'offertorylaw16.SealLocks', WHERE WHAT IT READS IS OF BULK AT MOST 1048576: true; the input reads as it did. -/
def sealLocksUptoRow : OpenClaim := { program := "ytofkdfodehfpdaa", sum := "7c16899edd53c35ca1c577b75bab232e07c54b1af3c04ee6dc2fbf4a2d80217f", func := "offertory/offertorylaw16.SealLocks", spec := "sealLocks", unfollowed := true, recurses := true, apart := false, narrowed := true }
def SealLocksUptoSaid : Prop := sealLocksUptoRow.holds Try.pinned (OpenSpec.upto sealLocksSpec)

/-- 'offertorylaw16.SealOpens', WHERE WHAT IT READS IS OF BULK AT MOST 1048576: true; the input reads as it did. -/
def sealOpensUptoRow : OpenClaim := { program := "ytofkdfodehfpdaa", sum := "7c16899edd53c35ca1c577b75bab232e07c54b1af3c04ee6dc2fbf4a2d80217f", func := "offertory/offertorylaw16.SealOpens", spec := "sealOpens", unfollowed := true, recurses := true, apart := false, narrowed := true }
def SealOpensUptoSaid : Prop := sealOpensUptoRow.holds Try.pinned (OpenSpec.upto sealOpensSpec)

/-- 'offertorylaw16.SealBack', WHERE WHAT IT READS IS OF BULK AT MOST 1048576: true; the input reads as it did. -/
def sealBackUptoRow : OpenClaim := { program := "ytofkdfodehfpdaa", sum := "7c16899edd53c35ca1c577b75bab232e07c54b1af3c04ee6dc2fbf4a2d80217f", func := "offertory/offertorylaw16.SealBack", spec := "sealBack", unfollowed := true, recurses := true, apart := false, narrowed := true }
def SealBackUptoSaid : Prop := sealBackUptoRow.holds Try.pinned (OpenSpec.upto sealBackSpec)

/-- 'offertorylaw17.MaskPairs', WHERE WHAT IT READS IS OF BULK AT MOST 1048576: true; the input reads as it did. -/
def maskPairsUptoRow : OpenClaim := { program := "ytofkdfodehfpdaa", sum := "7c16899edd53c35ca1c577b75bab232e07c54b1af3c04ee6dc2fbf4a2d80217f", func := "offertory/offertorylaw17.MaskPairs", spec := "maskPairs", unfollowed := true, recurses := true, apart := false, narrowed := true }
def MaskPairsUptoSaid : Prop := maskPairsUptoRow.holds Try.pinned (OpenSpec.upto maskPairsSpec)

/-- 'offertorylaw17.MaskHides', WHERE WHAT IT READS IS OF BULK AT MOST 1048576: true; the input reads as it did. -/
def maskHidesUptoRow : OpenClaim := { program := "ytofkdfodehfpdaa", sum := "7c16899edd53c35ca1c577b75bab232e07c54b1af3c04ee6dc2fbf4a2d80217f", func := "offertory/offertorylaw17.MaskHides", spec := "maskHides", unfollowed := true, recurses := true, apart := false, narrowed := true }
def MaskHidesUptoSaid : Prop := maskHidesUptoRow.holds Try.pinned (OpenSpec.upto maskHidesSpec)

/-- 'offertorylaw17.MaskLeft', WHERE WHAT IT READS IS OF BULK AT MOST 1048576: true; the input reads as it did. -/
def maskLeftUptoRow : OpenClaim := { program := "ytofkdfodehfpdaa", sum := "7c16899edd53c35ca1c577b75bab232e07c54b1af3c04ee6dc2fbf4a2d80217f", func := "offertory/offertorylaw17.MaskLeft", spec := "maskLeft", unfollowed := true, recurses := true, apart := false, narrowed := true }
def MaskLeftUptoSaid : Prop := maskLeftUptoRow.holds Try.pinned (OpenSpec.upto maskLeftSpec)

/-- 'offertorylaw17.MaskGoes', WHERE WHAT IT READS IS OF BULK AT MOST 1048576: true; the input reads as it did. -/
def maskGoesUptoRow : OpenClaim := { program := "ytofkdfodehfpdaa", sum := "7c16899edd53c35ca1c577b75bab232e07c54b1af3c04ee6dc2fbf4a2d80217f", func := "offertory/offertorylaw17.MaskGoes", spec := "maskGoes", unfollowed := true, recurses := true, apart := false, narrowed := true }
def MaskGoesUptoSaid : Prop := maskGoesUptoRow.holds Try.pinned (OpenSpec.upto maskGoesSpec)

/-- 'offertorylaw17.MaskBegins', WHERE WHAT IT READS IS OF BULK AT MOST 1048576: true; the input reads as it did. -/
def maskBeginsUptoRow : OpenClaim := { program := "ytofkdfodehfpdaa", sum := "7c16899edd53c35ca1c577b75bab232e07c54b1af3c04ee6dc2fbf4a2d80217f", func := "offertory/offertorylaw17.MaskBegins", spec := "maskBegins", unfollowed := true, recurses := true, apart := false, narrowed := true }
def MaskBeginsUptoSaid : Prop := maskBeginsUptoRow.holds Try.pinned (OpenSpec.upto maskBeginsSpec)

/-- 'offertorylaw07.ShareHides', WHERE WHAT IT READS IS OF BULK AT MOST 1048576: true; the input reads as it did. -/
def shareHidesUptoRow : OpenClaim := { program := "ytofkdfodehfpdaa", sum := "7c16899edd53c35ca1c577b75bab232e07c54b1af3c04ee6dc2fbf4a2d80217f", func := "offertory/offertorylaw07.ShareHides", spec := "shareHides", unfollowed := true, recurses := true, apart := false, narrowed := true }
def ShareHidesUptoSaid : Prop := shareHidesUptoRow.holds Try.pinned (OpenSpec.upto shareHidesSpec)

/-- 'offertorylaw07.ShareOnce', WHERE WHAT IT READS IS OF BULK AT MOST 1048576: true; the input reads as it did. -/
def shareOnceUptoRow : OpenClaim := { program := "ytofkdfodehfpdaa", sum := "7c16899edd53c35ca1c577b75bab232e07c54b1af3c04ee6dc2fbf4a2d80217f", func := "offertory/offertorylaw07.ShareOnce", spec := "shareOnce", unfollowed := true, recurses := true, apart := false, narrowed := true }
def ShareOnceUptoSaid : Prop := shareOnceUptoRow.holds Try.pinned (OpenSpec.upto shareOnceSpec)

end Rows
end Go.Proofs.Ytofkdfodehfpdaa
