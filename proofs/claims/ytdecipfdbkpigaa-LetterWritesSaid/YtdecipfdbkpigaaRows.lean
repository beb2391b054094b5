/-
  No cell of these rows narrows 'for every input' (looked for: loops, veiled, ifaces, maps, wideKeys, modest, calm, conditions, laid).
  DERIVED. THE GIVEN ROWS OF THIS SEAT. 9 by the template 'for every input the law returns true; each argument reads behind the call as it read before'; 0 by the template 'total and deterministic' (their statements: YtdecipfdbkpigaaTotals.lean).
  GIVEN WITH THE SEED: the statements are not yours to turn. If you find one false, say at which input.
  Laid BY PROGRAM, IN A SANDBOX (cutbox-rows.mjs): the forced cells as the released guide's own fill.sh prints them over the translation ce14346affa51582… (all of the seat's roots in one cut). By AI agents, Wed Nov 11 2026. No macro, syntax, notation, axiom, sorry.
-/
import Derived.Test.YtdecipfdbkpigaaChecked
import GoSem.Claim
import GoSem.ClaimJoined
import GoSem.ClaimMapViews
import Derived.JoinedTies
import Derived.KernelRfl
namespace Go.Proofs.Ytdecipfdbkpigaa
/- THE CELL 'sum', in the pinned program and in every row, IS THE sha256 OF THE DUMP (.gsa) THAT YtdecipfdbkpigaaProg.lean LOADS. Nothing in Lean hashes anything: it is a label: what it is worth is what the hold of that sum in a sandbox is worth. -/
noncomputable def Try.pinned : Pinned := { name := "ytdecipfdbkpigaa", sum := "ce14346affa51582ba82cd9fa7989c825b1f6be3eea3d517a016a7e0b1f8500d", checked := Try.checked }
namespace Rows
def none {H : Type} : Left H := { results := [], args := [] }

/-- 'offertorylaw23.RoadPlays': WHATEVER THE INPUT: true; the input reads as it did. -/
def roadPlaysSpec : ChangeSpec := { name := "roadPlays", fn := fun _ => fun
  | [d] => { results := [.lit (.bool true)], args := [d] }
  | _ => none }
def roadPlaysRow : OpenClaim := { program := "ytdecipfdbkpigaa", sum := "ce14346affa51582ba82cd9fa7989c825b1f6be3eea3d517a016a7e0b1f8500d", func := "offertory/offertorylaw23.RoadPlays", spec := "roadPlays", apart := false }
def RoadPlaysSaid : Prop := roadPlaysRow.holds Try.pinned (OpenSpec.ofChange roadPlaysSpec)

/-- ITS FALSE NEIGHBOUR: 'it returns false'. Refute it at one input. -/
def roadPlaysWrong : ChangeSpec := { name := "roadPlays", fn := fun _ => fun
  | [d] => { results := [.lit (.bool false)], args := [d] }
  | _ => none }
def RoadPlaysWrongFalsely : Prop := roadPlaysRow.holds Try.pinned (OpenSpec.ofChange roadPlaysWrong)

/-- 'offertorylaw23.RoadFull': WHATEVER THE INPUT: true; the input reads as it did. -/
def roadFullSpec : ChangeSpec := { name := "roadFull", fn := fun _ => fun
  | [d1, d2] => { results := [.lit (.bool true)], args := [d1, d2] }
  | _ => none }
def roadFullRow : OpenClaim := { program := "ytdecipfdbkpigaa", sum := "ce14346affa51582ba82cd9fa7989c825b1f6be3eea3d517a016a7e0b1f8500d", func := "offertory/offertorylaw23.RoadFull", spec := "roadFull", apart := false }
def RoadFullSaid : Prop := roadFullRow.holds Try.pinned (OpenSpec.ofChange roadFullSpec)

/-- ITS FALSE NEIGHBOUR: 'it returns false'. Refute it at one input. -/
def roadFullWrong : ChangeSpec := { name := "roadFull", fn := fun _ => fun
  | [d1, d2] => { results := [.lit (.bool false)], args := [d1, d2] }
  | _ => none }
def RoadFullWrongFalsely : Prop := roadFullRow.holds Try.pinned (OpenSpec.ofChange roadFullWrong)

/-- 'offertorylaw23.RoadOwn': WHATEVER THE INPUT: true; the input reads as it did. -/
def roadOwnSpec : ChangeSpec := { name := "roadOwn", fn := fun _ => fun
  | [d] => { results := [.lit (.bool true)], args := [d] }
  | _ => none }
def roadOwnRow : OpenClaim := { program := "ytdecipfdbkpigaa", sum := "ce14346affa51582ba82cd9fa7989c825b1f6be3eea3d517a016a7e0b1f8500d", func := "offertory/offertorylaw23.RoadOwn", spec := "roadOwn", apart := false }
def RoadOwnSaid : Prop := roadOwnRow.holds Try.pinned (OpenSpec.ofChange roadOwnSpec)

/-- ITS FALSE NEIGHBOUR: 'it returns false'. Refute it at one input. -/
def roadOwnWrong : ChangeSpec := { name := "roadOwn", fn := fun _ => fun
  | [d] => { results := [.lit (.bool false)], args := [d] }
  | _ => none }
def RoadOwnWrongFalsely : Prop := roadOwnRow.holds Try.pinned (OpenSpec.ofChange roadOwnWrong)

/-- 'offertorylaw23.RoadNone': WHATEVER THE INPUT: true; the input reads as it did. -/
def roadNoneSpec : ChangeSpec := { name := "roadNone", fn := fun _ => fun
  | [d1, d2] => { results := [.lit (.bool true)], args := [d1, d2] }
  | _ => none }
def roadNoneRow : OpenClaim := { program := "ytdecipfdbkpigaa", sum := "ce14346affa51582ba82cd9fa7989c825b1f6be3eea3d517a016a7e0b1f8500d", func := "offertory/offertorylaw23.RoadNone", spec := "roadNone", apart := false }
def RoadNoneSaid : Prop := roadNoneRow.holds Try.pinned (OpenSpec.ofChange roadNoneSpec)

/-- ITS FALSE NEIGHBOUR: 'it returns false'. Refute it at one input. -/
def roadNoneWrong : ChangeSpec := { name := "roadNone", fn := fun _ => fun
  | [d1, d2] => { results := [.lit (.bool false)], args := [d1, d2] }
  | _ => none }
def RoadNoneWrongFalsely : Prop := roadNoneRow.holds Try.pinned (OpenSpec.ofChange roadNoneWrong)

/-- 'offertorylaw14.LetterWrites': WHATEVER THE INPUT: true; the input reads as it did. -/
def letterWritesSpec : ChangeSpec := { name := "letterWrites", fn := fun _ => fun
  | [d] => { results := [.lit (.bool true)], args := [d] }
  | _ => none }
def letterWritesRow : OpenClaim := { program := "ytdecipfdbkpigaa", sum := "ce14346affa51582ba82cd9fa7989c825b1f6be3eea3d517a016a7e0b1f8500d", func := "offertory/offertorylaw14.LetterWrites", spec := "letterWrites", apart := false }
def LetterWritesSaid : Prop := letterWritesRow.holds Try.pinned (OpenSpec.ofChange letterWritesSpec)

/-- ITS FALSE NEIGHBOUR: 'it returns false'. Refute it at one input. -/
def letterWritesWrong : ChangeSpec := { name := "letterWrites", fn := fun _ => fun
  | [d] => { results := [.lit (.bool false)], args := [d] }
  | _ => none }
def LetterWritesWrongFalsely : Prop := letterWritesRow.holds Try.pinned (OpenSpec.ofChange letterWritesWrong)

/-- 'offertorylaw14.LetterReads': WHATEVER THE INPUT: true; the input reads as it did. -/
def letterReadsSpec : ChangeSpec := { name := "letterReads", fn := fun _ => fun
  | [d1, d2] => { results := [.lit (.bool true)], args := [d1, d2] }
  | _ => none }
def letterReadsRow : OpenClaim := { program := "ytdecipfdbkpigaa", sum := "ce14346affa51582ba82cd9fa7989c825b1f6be3eea3d517a016a7e0b1f8500d", func := "offertory/offertorylaw14.LetterReads", spec := "letterReads", apart := false }
def LetterReadsSaid : Prop := letterReadsRow.holds Try.pinned (OpenSpec.ofChange letterReadsSpec)

/-- ITS FALSE NEIGHBOUR: 'it returns false'. Refute it at one input. -/
def letterReadsWrong : ChangeSpec := { name := "letterReads", fn := fun _ => fun
  | [d1, d2] => { results := [.lit (.bool false)], args := [d1, d2] }
  | _ => none }
def LetterReadsWrongFalsely : Prop := letterReadsRow.holds Try.pinned (OpenSpec.ofChange letterReadsWrong)

/-- 'offertorylaw14.LetterChecks': WHATEVER THE INPUT: true; the input reads as it did. -/
def letterChecksSpec : ChangeSpec := { name := "letterChecks", fn := fun _ => fun
  | [d] => { results := [.lit (.bool true)], args := [d] }
  | _ => none }
def letterChecksRow : OpenClaim := { program := "ytdecipfdbkpigaa", sum := "ce14346affa51582ba82cd9fa7989c825b1f6be3eea3d517a016a7e0b1f8500d", func := "offertory/offertorylaw14.LetterChecks", spec := "letterChecks", apart := false }
def LetterChecksSaid : Prop := letterChecksRow.holds Try.pinned (OpenSpec.ofChange letterChecksSpec)

/-- ITS FALSE NEIGHBOUR: 'it returns false'. Refute it at one input. -/
def letterChecksWrong : ChangeSpec := { name := "letterChecks", fn := fun _ => fun
  | [d] => { results := [.lit (.bool false)], args := [d] }
  | _ => none }
def LetterChecksWrongFalsely : Prop := letterChecksRow.holds Try.pinned (OpenSpec.ofChange letterChecksWrong)

/-- 'offertorylaw14.LetterBent': WHATEVER THE INPUT: true; the input reads as it did. -/
def letterBentSpec : ChangeSpec := { name := "letterBent", fn := fun _ => fun
  | [d1, d2] => { results := [.lit (.bool true)], args := [d1, d2] }
  | _ => none }
def letterBentRow : OpenClaim := { program := "ytdecipfdbkpigaa", sum := "ce14346affa51582ba82cd9fa7989c825b1f6be3eea3d517a016a7e0b1f8500d", func := "offertory/offertorylaw14.LetterBent", spec := "letterBent", apart := false }
def LetterBentSaid : Prop := letterBentRow.holds Try.pinned (OpenSpec.ofChange letterBentSpec)

/-- ITS FALSE NEIGHBOUR: 'it returns false'. Refute it at one input. -/
def letterBentWrong : ChangeSpec := { name := "letterBent", fn := fun _ => fun
  | [d1, d2] => { results := [.lit (.bool false)], args := [d1, d2] }
  | _ => none }
def LetterBentWrongFalsely : Prop := letterBentRow.holds Try.pinned (OpenSpec.ofChange letterBentWrong)

/-- 'offertorylaw14.LetterNone': WHATEVER THE INPUT: true; the input reads as it did. -/
def letterNoneSpec : ChangeSpec := { name := "letterNone", fn := fun _ => fun
  | [d1, d2, d3] => { results := [.lit (.bool true)], args := [d1, d2, d3] }
  | _ => none }
def letterNoneRow : OpenClaim := { program := "ytdecipfdbkpigaa", sum := "ce14346affa51582ba82cd9fa7989c825b1f6be3eea3d517a016a7e0b1f8500d", func := "offertory/offertorylaw14.LetterNone", spec := "letterNone", apart := false }
def LetterNoneSaid : Prop := letterNoneRow.holds Try.pinned (OpenSpec.ofChange letterNoneSpec)

/-- ITS FALSE NEIGHBOUR: 'it returns false'. Refute it at one input. -/
def letterNoneWrong : ChangeSpec := { name := "letterNone", fn := fun _ => fun
  | [d1, d2, d3] => { results := [.lit (.bool false)], args := [d1, d2, d3] }
  | _ => none }
def LetterNoneWrongFalsely : Prop := letterNoneRow.holds Try.pinned (OpenSpec.ofChange letterNoneWrong)

/- THE SECOND FORM. 'bulk': how many values and letters a reading holds, each counted each time it is reached (what is shared counts as often as it is met; a slice's spare places count too). A statement '..UptoSaid' is the law's where the arguments, and the package variables that the reading takes, are together of bulk at most 1048576: NARROWER than '..Said'. Prove '..Said' where nothing that the law and all that it calls make is longer than what came in: it says more and counts as full. Else prove '..UptoSaid'. A law counts once. -/
mutual
def uptoBulk {H : Type} : DataW H → Nat
  | .lit (.string bytes) => bytes.length + 1
  | .lit _ => 1
  | .nil => 1
  | .ptr d => uptoBulk d + 1
  | .slice elems spare => uptoBulkAll elems + uptoBulkAll spare + 1
  | .agg parts => uptoBulkAll parts + 1
  | .iface _ d => uptoBulk d + 1
  | .map entries => uptoBulkEntries entries + 1
  | .held _ => 1
def uptoBulkAll {H : Type} : List (DataW H) → Nat
  | [] => 0
  | d :: r => uptoBulk d + uptoBulkAll r
def uptoBulkEntries {H : Type} : List (Lit × DataW H) → Nat
  | [] => 0
  | x :: r => uptoBulkEntry x + uptoBulkEntries r
def uptoBulkEntry {H : Type} : Lit × DataW H → Nat
  | (.string bytes, d) => bytes.length + uptoBulk d + 1
  | (_, d) => uptoBulk d + 1
 end
def uptoSmall : (H : Type) → List (DataW H) → Bool := fun _ ds => decide (uptoBulkAll ds ≤ 1048576)
def OpenSpec.upto (s : _root_.Go.ChangeSpec) : _root_.Go.OpenSpec := { _root_.Go.OpenSpec.ofChange s with cond := some uptoSmall }

/-- 'offertorylaw23.RoadPlays', WHERE WHAT IT READS IS OF BULK AT MOST 1048576: true; the input reads as it did. -/
def roadPlaysUptoRow : OpenClaim := { program := "ytdecipfdbkpigaa", sum := "ce14346affa51582ba82cd9fa7989c825b1f6be3eea3d517a016a7e0b1f8500d", func := "offertory/offertorylaw23.RoadPlays", spec := "roadPlays", apart := false, narrowed := true }
def RoadPlaysUptoSaid : Prop := roadPlaysUptoRow.holds Try.pinned (OpenSpec.upto roadPlaysSpec)

/-- 'offertorylaw23.RoadFull', WHERE WHAT IT READS IS OF BULK AT MOST 1048576: true; the input reads as it did. -/
def roadFullUptoRow : OpenClaim := { program := "ytdecipfdbkpigaa", sum := "ce14346affa51582ba82cd9fa7989c825b1f6be3eea3d517a016a7e0b1f8500d", func := "offertory/offertorylaw23.RoadFull", spec := "roadFull", apart := false, narrowed := true }
def RoadFullUptoSaid : Prop := roadFullUptoRow.holds Try.pinned (OpenSpec.upto roadFullSpec)

/-- 'offertorylaw23.RoadOwn', WHERE WHAT IT READS IS OF BULK AT MOST 1048576: true; the input reads as it did. -/
def roadOwnUptoRow : OpenClaim := { program := "ytdecipfdbkpigaa", sum := "ce14346affa51582ba82cd9fa7989c825b1f6be3eea3d517a016a7e0b1f8500d", func := "offertory/offertorylaw23.RoadOwn", spec := "roadOwn", apart := false, narrowed := true }
def RoadOwnUptoSaid : Prop := roadOwnUptoRow.holds Try.pinned (OpenSpec.upto roadOwnSpec)

/-- 'offertorylaw23.RoadNone', WHERE WHAT IT READS IS OF BULK AT MOST 1048576: true; the input reads as it did. -/
def roadNoneUptoRow : OpenClaim := { program := "ytdecipfdbkpigaa", sum := "ce14346affa51582ba82cd9fa7989c825b1f6be3eea3d517a016a7e0b1f8500d", func := "offertory/offertorylaw23.RoadNone", spec := "roadNone", apart := false, narrowed := true }
def RoadNoneUptoSaid : Prop := roadNoneUptoRow.holds Try.pinned (OpenSpec.upto roadNoneSpec)

/-- 'offertorylaw14.LetterWrites', WHERE WHAT IT READS IS OF BULK AT MOST 1048576: true; the input reads as it did. -/
def letterWritesUptoRow : OpenClaim := { program := "ytdecipfdbkpigaa", sum := "ce14346affa51582ba82cd9fa7989c825b1f6be3eea3d517a016a7e0b1f8500d", func := "offertory/offertorylaw14.LetterWrites", spec := "letterWrites", apart := false, narrowed := true }
def LetterWritesUptoSaid : Prop := letterWritesUptoRow.holds Try.pinned (OpenSpec.upto letterWritesSpec)

/-- 'offertorylaw14.LetterReads', WHERE WHAT IT READS IS OF BULK AT MOST 1048576: true; the input reads as it did. -/
def letterReadsUptoRow : OpenClaim := { program := "ytdecipfdbkpigaa", sum := "ce14346affa51582ba82cd9fa7989c825b1f6be3eea3d517a016a7e0b1f8500d", func := "offertory/offertorylaw14.LetterReads", spec := "letterReads", apart := false, narrowed := true }
def LetterReadsUptoSaid : Prop := letterReadsUptoRow.holds Try.pinned (OpenSpec.upto letterReadsSpec)

/-- 'offertorylaw14.LetterChecks', WHERE WHAT IT READS IS OF BULK AT MOST 1048576: true; the input reads as it did. -/
def letterChecksUptoRow : OpenClaim := { program := "ytdecipfdbkpigaa", sum := "ce14346affa51582ba82cd9fa7989c825b1f6be3eea3d517a016a7e0b1f8500d", func := "offertory/offertorylaw14.LetterChecks", spec := "letterChecks", apart := false, narrowed := true }
def LetterChecksUptoSaid : Prop := letterChecksUptoRow.holds Try.pinned (OpenSpec.upto letterChecksSpec)

/-- 'offertorylaw14.LetterBent', WHERE WHAT IT READS IS OF BULK AT MOST 1048576: true; the input reads as it did. -/
def letterBentUptoRow : OpenClaim := { program := "ytdecipfdbkpigaa", sum := "ce14346affa51582ba82cd9fa7989c825b1f6be3eea3d517a016a7e0b1f8500d", func := "offertory/offertorylaw14.LetterBent", spec := "letterBent", apart := false, narrowed := true }
def LetterBentUptoSaid : Prop := letterBentUptoRow.holds Try.pinned (OpenSpec.upto letterBentSpec)

/-- 'offertorylaw14.LetterNone', WHERE WHAT IT READS IS OF BULK AT MOST 1048576: true; the input reads as it did. -/
def letterNoneUptoRow : OpenClaim := { program := "ytdecipfdbkpigaa", sum := "ce14346affa51582ba82cd9fa7989c825b1f6be3eea3d517a016a7e0b1f8500d", func := "offertory/offertorylaw14.LetterNone", spec := "letterNone", apart := false, narrowed := true }
def LetterNoneUptoSaid : Prop := letterNoneUptoRow.holds Try.pinned (OpenSpec.upto letterNoneSpec)

end Rows
end Go.Proofs.Ytdecipfdbkpigaa
