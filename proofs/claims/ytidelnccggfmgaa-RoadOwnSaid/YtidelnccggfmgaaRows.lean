/-
  No cell of these rows narrows 'for every input' (looked for: loops, veiled, ifaces, maps, wideKeys, modest, calm, conditions, laid).
  DERIVED. THE GIVEN ROWS OF THIS SEAT. 9 by the template 'for every input the law returns true; each argument reads behind the call as it read before'; 0 by the template 'total and deterministic' (their statements: YtidelnccggfmgaaTotals.lean).
  GIVEN WITH THE SEED: the statements are not yours to turn. If you find one false, say at which input.
  Laid BY PROGRAM, IN A SANDBOX (cutbox-rows.mjs): the forced cells as the released guide's own fill.sh prints them over the translation be972f32a52050d5… (all of the seat's roots in one cut). By AI agents, Wed Nov 11 2026. No macro, syntax, notation, axiom, sorry.
-/
import Derived.Test.YtidelnccggfmgaaChecked
import GoSem.Claim
import GoSem.ClaimJoined
import GoSem.ClaimMapViews
import Derived.JoinedTies
import Derived.KernelRfl
namespace Go.Proofs.Ytidelnccggfmgaa
/- THE CELL 'sum', in the pinned program and in every row, IS THE sha256 OF THE DUMP (.gsa) THAT YtidelnccggfmgaaProg.lean LOADS. Nothing in Lean hashes anything: it is a label: what it is worth is what the hold of that sum in a sandbox is worth. -/
noncomputable def Try.pinned : Pinned := { name := "ytidelnccggfmgaa", sum := "be972f32a52050d558b0fc52df96dbf29971f6c69ffd058eb8b4f61d55a2dd48", checked := Try.checked }
namespace Rows
def none {H : Type} : Left H := { results := [], args := [] }

/-- 'offertorylaw23.RoadPlays': WHATEVER THE INPUT: true; the input reads as it did. -/
def roadPlaysSpec : ChangeSpec := { name := "roadPlays", fn := fun _ => fun
  | [d] => { results := [.lit (.bool true)], args := [d] }
  | _ => none }
def roadPlaysRow : OpenClaim := { program := "ytidelnccggfmgaa", sum := "be972f32a52050d558b0fc52df96dbf29971f6c69ffd058eb8b4f61d55a2dd48", func := "offertory/offertorylaw23.RoadPlays", spec := "roadPlays", apart := false }
def RoadPlaysSaid : Prop := roadPlaysRow.holds Try.pinned (OpenSpec.ofChange roadPlaysSpec)

/-- ITS FALSE NEIGHBOUR: 'it returns false'. Refute it at one input. -/
def roadPlaysWrong : ChangeSpec := { name := "roadPlays", fn := fun _ => fun
  | [d] => { results := [.lit (.bool false)], args := [d] }
  | _ => none }
def RoadPlaysWrongFalsely : Prop := roadPlaysRow.holds Try.pinned (OpenSpec.ofChange roadPlaysWrong)

/-- 'offertorylaw23.RoadFull': WHATEVER THE INPUT: true; the input reads as it did. -/
def roadFullSpec : ChangeSpec := { name := "roadFull", fn := fun _ => fun
  | [d1, d2] => { results := [.lit (.bool true)], args := [d1, d2] }
  | _ => none }
def roadFullRow : OpenClaim := { program := "ytidelnccggfmgaa", sum := "be972f32a52050d558b0fc52df96dbf29971f6c69ffd058eb8b4f61d55a2dd48", func := "offertory/offertorylaw23.RoadFull", spec := "roadFull", apart := false }
def RoadFullSaid : Prop := roadFullRow.holds Try.pinned (OpenSpec.ofChange roadFullSpec)

/-- ITS FALSE NEIGHBOUR: 'it returns false'. Refute it at one input. -/
def roadFullWrong : ChangeSpec := { name := "roadFull", fn := fun _ => fun
  | [d1, d2] => { results := [.lit (.bool false)], args := [d1, d2] }
  | _ => none }
def RoadFullWrongFalsely : Prop := roadFullRow.holds Try.pinned (OpenSpec.ofChange roadFullWrong)

/-- 'offertorylaw23.RoadOwn': WHATEVER THE INPUT: true; the input reads as it did. -/
def roadOwnSpec : ChangeSpec := { name := "roadOwn", fn := fun _ => fun
  | [d] => { results := [.lit (.bool true)], args := [d] }
  | _ => none }
def roadOwnRow : OpenClaim := { program := "ytidelnccggfmgaa", sum := "be972f32a52050d558b0fc52df96dbf29971f6c69ffd058eb8b4f61d55a2dd48", func := "offertory/offertorylaw23.RoadOwn", spec := "roadOwn", apart := false }
def RoadOwnSaid : Prop := roadOwnRow.holds Try.pinned (OpenSpec.ofChange roadOwnSpec)

/-- ITS FALSE NEIGHBOUR: 'it returns false'. Refute it at one input. -/
def roadOwnWrong : ChangeSpec := { name := "roadOwn", fn := fun _ => fun
  | [d] => { results := [.lit (.bool false)], args := [d] }
  | _ => none }
def RoadOwnWrongFalsely : Prop := roadOwnRow.holds Try.pinned (OpenSpec.ofChange roadOwnWrong)

/-- 'offertorylaw23.RoadNone': WHATEVER THE INPUT: true; the input reads as it did. -/
def roadNoneSpec : ChangeSpec := { name := "roadNone", fn := fun _ => fun
  | [d1, d2] => { results := [.lit (.bool true)], args := [d1, d2] }
  | _ => none }
def roadNoneRow : OpenClaim := { program := "ytidelnccggfmgaa", sum := "be972f32a52050d558b0fc52df96dbf29971f6c69ffd058eb8b4f61d55a2dd48", func := "offertory/offertorylaw23.RoadNone", spec := "roadNone", apart := false }
def RoadNoneSaid : Prop := roadNoneRow.holds Try.pinned (OpenSpec.ofChange roadNoneSpec)

/-- ITS FALSE NEIGHBOUR: 'it returns false'. Refute it at one input. -/
def roadNoneWrong : ChangeSpec := { name := "roadNone", fn := fun _ => fun
  | [d1, d2] => { results := [.lit (.bool false)], args := [d1, d2] }
  | _ => none }
def RoadNoneWrongFalsely : Prop := roadNoneRow.holds Try.pinned (OpenSpec.ofChange roadNoneWrong)

/-- 'offertorylaw15.WordsGood': WHATEVER THE INPUT: true; the input reads as it did. -/
def wordsGoodSpec : ChangeSpec := { name := "wordsGood", fn := fun _ => fun
  | [d] => { results := [.lit (.bool true)], args := [d] }
  | _ => none }
def wordsGoodRow : OpenClaim := { program := "ytidelnccggfmgaa", sum := "be972f32a52050d558b0fc52df96dbf29971f6c69ffd058eb8b4f61d55a2dd48", func := "offertory/offertorylaw15.WordsGood", spec := "wordsGood", unfollowed := true, recurses := true, apart := false }
def WordsGoodSaid : Prop := wordsGoodRow.holds Try.pinned (OpenSpec.ofChange wordsGoodSpec)

/-- ITS FALSE NEIGHBOUR: 'it returns false'. Refute it at one input. -/
def wordsGoodWrong : ChangeSpec := { name := "wordsGood", fn := fun _ => fun
  | [d] => { results := [.lit (.bool false)], args := [d] }
  | _ => none }
def WordsGoodWrongFalsely : Prop := wordsGoodRow.holds Try.pinned (OpenSpec.ofChange wordsGoodWrong)

/-- 'offertorylaw15.WordsWrites': WHATEVER THE INPUT: true; the input reads as it did. -/
def wordsWritesSpec : ChangeSpec := { name := "wordsWrites", fn := fun _ => fun
  | [d] => { results := [.lit (.bool true)], args := [d] }
  | _ => none }
def wordsWritesRow : OpenClaim := { program := "ytidelnccggfmgaa", sum := "be972f32a52050d558b0fc52df96dbf29971f6c69ffd058eb8b4f61d55a2dd48", func := "offertory/offertorylaw15.WordsWrites", spec := "wordsWrites", unfollowed := true, recurses := true, apart := false }
def WordsWritesSaid : Prop := wordsWritesRow.holds Try.pinned (OpenSpec.ofChange wordsWritesSpec)

/-- ITS FALSE NEIGHBOUR: 'it returns false'. Refute it at one input. -/
def wordsWritesWrong : ChangeSpec := { name := "wordsWrites", fn := fun _ => fun
  | [d] => { results := [.lit (.bool false)], args := [d] }
  | _ => none }
def WordsWritesWrongFalsely : Prop := wordsWritesRow.holds Try.pinned (OpenSpec.ofChange wordsWritesWrong)

/-- 'offertorylaw15.WordsReads': WHATEVER THE INPUT: true; the input reads as it did. -/
def wordsReadsSpec : ChangeSpec := { name := "wordsReads", fn := fun _ => fun
  | [d] => { results := [.lit (.bool true)], args := [d] }
  | _ => none }
def wordsReadsRow : OpenClaim := { program := "ytidelnccggfmgaa", sum := "be972f32a52050d558b0fc52df96dbf29971f6c69ffd058eb8b4f61d55a2dd48", func := "offertory/offertorylaw15.WordsReads", spec := "wordsReads", unfollowed := true, recurses := true, apart := false }
def WordsReadsSaid : Prop := wordsReadsRow.holds Try.pinned (OpenSpec.ofChange wordsReadsSpec)

/-- ITS FALSE NEIGHBOUR: 'it returns false'. Refute it at one input. -/
def wordsReadsWrong : ChangeSpec := { name := "wordsReads", fn := fun _ => fun
  | [d] => { results := [.lit (.bool false)], args := [d] }
  | _ => none }
def WordsReadsWrongFalsely : Prop := wordsReadsRow.holds Try.pinned (OpenSpec.ofChange wordsReadsWrong)

/-- 'offertorylaw15.WordsBent': WHATEVER THE INPUT: true; the input reads as it did. -/
def wordsBentSpec : ChangeSpec := { name := "wordsBent", fn := fun _ => fun
  | [d1, d2] => { results := [.lit (.bool true)], args := [d1, d2] }
  | _ => none }
def wordsBentRow : OpenClaim := { program := "ytidelnccggfmgaa", sum := "be972f32a52050d558b0fc52df96dbf29971f6c69ffd058eb8b4f61d55a2dd48", func := "offertory/offertorylaw15.WordsBent", spec := "wordsBent", unfollowed := true, recurses := true, apart := false }
def WordsBentSaid : Prop := wordsBentRow.holds Try.pinned (OpenSpec.ofChange wordsBentSpec)

/-- ITS FALSE NEIGHBOUR: 'it returns false'. Refute it at one input. -/
def wordsBentWrong : ChangeSpec := { name := "wordsBent", fn := fun _ => fun
  | [d1, d2] => { results := [.lit (.bool false)], args := [d1, d2] }
  | _ => none }
def WordsBentWrongFalsely : Prop := wordsBentRow.holds Try.pinned (OpenSpec.ofChange wordsBentWrong)

/-- 'offertorylaw15.WordsSame': WHATEVER THE INPUT: true; the input reads as it did. -/
def wordsSameSpec : ChangeSpec := { name := "wordsSame", fn := fun _ => fun
  | [d1, d2] => { results := [.lit (.bool true)], args := [d1, d2] }
  | _ => none }
def wordsSameRow : OpenClaim := { program := "ytidelnccggfmgaa", sum := "be972f32a52050d558b0fc52df96dbf29971f6c69ffd058eb8b4f61d55a2dd48", func := "offertory/offertorylaw15.WordsSame", spec := "wordsSame", unfollowed := true, recurses := true, apart := false }
def WordsSameSaid : Prop := wordsSameRow.holds Try.pinned (OpenSpec.ofChange wordsSameSpec)

/-- ITS FALSE NEIGHBOUR: 'it returns false'. Refute it at one input. -/
def wordsSameWrong : ChangeSpec := { name := "wordsSame", fn := fun _ => fun
  | [d1, d2] => { results := [.lit (.bool false)], args := [d1, d2] }
  | _ => none }
def WordsSameWrongFalsely : Prop := wordsSameRow.holds Try.pinned (OpenSpec.ofChange wordsSameWrong)

/- THE SECOND FORM. 'bulk': how many values and letters a reading holds, each counted each time it is reached (what is shared counts as often as it is met; a slice's spare places count too). A statement '..UptoSaid' is the law's where the arguments, and the package variables that the reading takes, are together of bulk at most 1048576: NARROWER than '..Said'. Prove '..Said' where nothing that the law and all that it calls make is longer than what came in: it says more and counts as full. Else prove '..UptoSaid'. A law counts once. -/
mutual
def uptoBulk {H : Type} : DataW H → Nat
  | .lit (.string bytes) => bytes.length + 1
  | .lit _ => 1
  | .nil => 1
  | .ptr d => uptoBulk d + 1
  | .slice elems spare => uptoBulkAll elems + uptoBulkAll spare + 1
  | .agg parts => uptoBulkAll parts + 1
  | .iface _ d => uptoBulk d + 1
  | .map entries => uptoBulkEntries entries + 1
  | .held _ => 1
def uptoBulkAll {H : Type} : List (DataW H) → Nat
  | [] => 0
  | d :: r => uptoBulk d + uptoBulkAll r
def uptoBulkEntries {H : Type} : List (Lit × DataW H) → Nat
  | [] => 0
  | x :: r => uptoBulkEntry x + uptoBulkEntries r
def uptoBulkEntry {H : Type} : Lit × DataW H → Nat
  | (.string bytes, d) => bytes.length + uptoBulk d + 1
  | (_, d) => uptoBulk d + 1
 end
def uptoSmall : (H : Type) → List (DataW H) → Bool := fun _ ds => decide (uptoBulkAll ds ≤ 1048576)
def OpenSpec.upto (s : _root_.Go.ChangeSpec) : _root_.Go.OpenSpec := { _root_.Go.OpenSpec.ofChange s with cond := some uptoSmall }

/-- 'offertorylaw23.RoadPlays', WHERE WHAT IT READS IS OF BULK AT MOST 1048576: true; the input reads as it did. -/
def roadPlaysUptoRow : OpenClaim := { program := "ytidelnccggfmgaa", sum := "be972f32a52050d558b0fc52df96dbf29971f6c69ffd058eb8b4f61d55a2dd48", func := "offertory/offertorylaw23.RoadPlays", spec := "roadPlays", apart := false, narrowed := true }
def RoadPlaysUptoSaid : Prop := roadPlaysUptoRow.holds Try.pinned (OpenSpec.upto roadPlaysSpec)

/-- 'offertorylaw23.RoadFull', WHERE WHAT IT READS IS OF BULK AT MOST 1048576: true; the input reads as it did. -/
def roadFullUptoRow : OpenClaim := { program := "ytidelnccggfmgaa", sum := "be972f32a52050d558b0fc52df96dbf29971f6c69ffd058eb8b4f61d55a2dd48", func := "offertory/offertorylaw23.RoadFull", spec := "roadFull", apart := false, narrowed := true }
def RoadFullUptoSaid : Prop := roadFullUptoRow.holds Try.pinned (OpenSpec.upto roadFullSpec)

/-- 'offertorylaw23.RoadOwn', WHERE WHAT IT READS IS OF BULK AT MOST 1048576: true; the input reads as it did. -/
def roadOwnUptoRow : OpenClaim := { program := "ytidelnccggfmgaa", sum := "be972f32a52050d558b0fc52df96dbf29971f6c69ffd058eb8b4f61d55a2dd48", func := "offertory/offertorylaw23.RoadOwn", spec := "roadOwn", apart := false, narrowed := true }
def RoadOwnUptoSaid : Prop := roadOwnUptoRow.holds Try.pinned (OpenSpec.upto roadOwnSpec)

/-- 'offertorylaw23.RoadNone', WHERE WHAT IT READS IS OF BULK AT MOST 1048576: true; the input reads as it did. -/
def roadNoneUptoRow : OpenClaim := { program := "ytidelnccggfmgaa", sum := "be972f32a52050d558b0fc52df96dbf29971f6c69ffd058eb8b4f61d55a2dd48", func := "offertory/offertorylaw23.RoadNone", spec := "roadNone", apart := false, narrowed := true }
def RoadNoneUptoSaid : Prop := roadNoneUptoRow.holds Try.pinned (OpenSpec.upto roadNoneSpec)

/-- 'offertorylaw15.WordsGood', WHERE WHAT IT READS IS OF BULK AT MOST 1048576: true; the input reads as it did. -/
def wordsGoodUptoRow : OpenClaim := { program := "ytidelnccggfmgaa", sum := "be972f32a52050d558b0fc52df96dbf29971f6c69ffd058eb8b4f61d55a2dd48", func := "offertory/offertorylaw15.WordsGood", spec := "wordsGood", unfollowed := true, recurses := true, apart := false, narrowed := true }
def WordsGoodUptoSaid : Prop := wordsGoodUptoRow.holds Try.pinned (OpenSpec.upto wordsGoodSpec)

/-- 'offertorylaw15.WordsWrites', WHERE WHAT IT READS IS OF BULK AT MOST 1048576: true; the input reads as it did. -/
def wordsWritesUptoRow : OpenClaim := { program := "ytidelnccggfmgaa", sum := "be972f32a52050d558b0fc52df96dbf29971f6c69ffd058eb8b4f61d55a2dd48", func := "offertory/offertorylaw15.WordsWrites", spec := "wordsWrites", unfollowed := true, recurses := true, apart := false, narrowed := true }
def WordsWritesUptoSaid : Prop := wordsWritesUptoRow.holds Try.pinned (OpenSpec.upto wordsWritesSpec)

/-- 'offertorylaw15.WordsReads', WHERE WHAT IT READS IS OF BULK AT MOST 1048576: true; the input reads as it did. -/
def wordsReadsUptoRow : OpenClaim := { program := "ytidelnccggfmgaa", sum := "be972f32a52050d558b0fc52df96dbf29971f6c69ffd058eb8b4f61d55a2dd48", func := "offertory/offertorylaw15.WordsReads", spec := "wordsReads", unfollowed := true, recurses := true, apart := false, narrowed := true }
def WordsReadsUptoSaid : Prop := wordsReadsUptoRow.holds Try.pinned (OpenSpec.upto wordsReadsSpec)

/-- 'offertorylaw15.WordsBent', WHERE WHAT IT READS IS OF BULK AT MOST 1048576: true; the input reads as it did. -/
def wordsBentUptoRow : OpenClaim := { program := "ytidelnccggfmgaa", sum := "be972f32a52050d558b0fc52df96dbf29971f6c69ffd058eb8b4f61d55a2dd48", func := "offertory/offertorylaw15.WordsBent", spec := "wordsBent", unfollowed := true, recurses := true, apart := false, narrowed := true }
def WordsBentUptoSaid : Prop := wordsBentUptoRow.holds Try.pinned (OpenSpec.upto wordsBentSpec)

/-- 'offertorylaw15.WordsSame', WHERE WHAT IT READS IS OF BULK AT MOST 1048576: true; the input reads as it did. -/
def wordsSameUptoRow : OpenClaim := { program := "ytidelnccggfmgaa", sum := "be972f32a52050d558b0fc52df96dbf29971f6c69ffd058eb8b4f61d55a2dd48", func := "offertory/offertorylaw15.WordsSame", spec := "wordsSame", unfollowed := true, recurses := true, apart := false, narrowed := true }
def WordsSameUptoSaid : Prop := wordsSameUptoRow.holds Try.pinned (OpenSpec.upto wordsSameSpec)

end Rows
end Go.Proofs.Ytidelnccggfmgaa
