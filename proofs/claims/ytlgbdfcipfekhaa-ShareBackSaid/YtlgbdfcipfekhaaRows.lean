/-
  No cell of these rows narrows 'for every input' (looked for: loops, veiled, ifaces, maps, wideKeys, modest, calm, conditions, laid).
  DERIVED. THE GIVEN ROWS OF THIS SEAT. 11 by the template 'for every input the law returns true; each argument reads behind the call as it read before'; 0 by the template 'total and deterministic' (their statements: YtlgbdfcipfekhaaTotals.lean).
  GIVEN WITH THE SEED: the statements are not yours to turn. If you find one false, say at which input.
  Laid BY PROGRAM, IN A SANDBOX (cutbox-rows.mjs): the forced cells as the released guide's own fill.sh prints them over the translation 418307f996e6f438… (all of the seat's roots in one cut). By AI agents, Wed Nov 11 2026. No macro, syntax, notation, axiom, sorry.
-/
import Derived.Test.YtlgbdfcipfekhaaChecked
import GoSem.Claim
import GoSem.ClaimJoined
import GoSem.ClaimMapViews
import Derived.JoinedTies
import Derived.KernelRfl
namespace Go.Proofs.Ytlgbdfcipfekhaa
/- THE CELL 'sum', in the pinned program and in every row, IS THE sha256 OF THE DUMP (.gsa) THAT YtlgbdfcipfekhaaProg.lean LOADS. Nothing in Lean hashes anything: it is a label: what it is worth is what the hold of that sum in a sandbox is worth. -/
noncomputable def Try.pinned : Pinned := { name := "ytlgbdfcipfekhaa", sum := "418307f996e6f438f426627fb5dfc25995273d13f823c4b7a5c54e7c648cf23e", checked := Try.checked }
namespace Rows
def none {H : Type} : Left H := { results := [], args := [] }

/-- 'offertorylaw06.PolyValues': WHATEVER THE INPUT: true; the input reads as it did. -/
def polyValuesSpec : ChangeSpec := { name := "polyValues", fn := fun _ => fun
  | [d1, d2] => { results := [.lit (.bool true)], args := [d1, d2] }
  | _ => none }
def polyValuesRow : OpenClaim := { program := "ytlgbdfcipfekhaa", sum := "418307f996e6f438f426627fb5dfc25995273d13f823c4b7a5c54e7c648cf23e", func := "offertory/offertorylaw06.PolyValues", spec := "polyValues", unfollowed := true, recurses := true, apart := false }
def PolyValuesSaid : Prop := polyValuesRow.holds Try.pinned (OpenSpec.ofChange polyValuesSpec)

/-- ITS FALSE NEIGHBOUR: 'it returns false'. Refute it at one input. -/
def polyValuesWrong : ChangeSpec := { name := "polyValues", fn := fun _ => fun
  | [d1, d2] => { results := [.lit (.bool false)], args := [d1, d2] }
  | _ => none }
def PolyValuesWrongFalsely : Prop := polyValuesRow.holds Try.pinned (OpenSpec.ofChange polyValuesWrong)

/-- 'offertorylaw06.PolyThrough': WHATEVER THE INPUT: true; the input reads as it did. -/
def polyThroughSpec : ChangeSpec := { name := "polyThrough", fn := fun _ => fun
  | [d1, d2] => { results := [.lit (.bool true)], args := [d1, d2] }
  | _ => none }
def polyThroughRow : OpenClaim := { program := "ytlgbdfcipfekhaa", sum := "418307f996e6f438f426627fb5dfc25995273d13f823c4b7a5c54e7c648cf23e", func := "offertory/offertorylaw06.PolyThrough", spec := "polyThrough", unfollowed := true, recurses := true, apart := false }
def PolyThroughSaid : Prop := polyThroughRow.holds Try.pinned (OpenSpec.ofChange polyThroughSpec)

/-- ITS FALSE NEIGHBOUR: 'it returns false'. Refute it at one input. -/
def polyThroughWrong : ChangeSpec := { name := "polyThrough", fn := fun _ => fun
  | [d1, d2] => { results := [.lit (.bool false)], args := [d1, d2] }
  | _ => none }
def PolyThroughWrongFalsely : Prop := polyThroughRow.holds Try.pinned (OpenSpec.ofChange polyThroughWrong)

/-- 'offertorylaw06.PolyZeros': WHATEVER THE INPUT: true; the input reads as it did. -/
def polyZerosSpec : ChangeSpec := { name := "polyZeros", fn := fun _ => fun
  | [d] => { results := [.lit (.bool true)], args := [d] }
  | _ => none }
def polyZerosRow : OpenClaim := { program := "ytlgbdfcipfekhaa", sum := "418307f996e6f438f426627fb5dfc25995273d13f823c4b7a5c54e7c648cf23e", func := "offertory/offertorylaw06.PolyZeros", spec := "polyZeros", unfollowed := true, recurses := true, apart := false }
def PolyZerosSaid : Prop := polyZerosRow.holds Try.pinned (OpenSpec.ofChange polyZerosSpec)

/-- ITS FALSE NEIGHBOUR: 'it returns false'. Refute it at one input. -/
def polyZerosWrong : ChangeSpec := { name := "polyZeros", fn := fun _ => fun
  | [d] => { results := [.lit (.bool false)], args := [d] }
  | _ => none }
def PolyZerosWrongFalsely : Prop := polyZerosRow.holds Try.pinned (OpenSpec.ofChange polyZerosWrong)

/-- 'offertorylaw06.PolyBack': WHATEVER THE INPUT: true; the input reads as it did. -/
def polyBackSpec : ChangeSpec := { name := "polyBack", fn := fun _ => fun
  | [d1, d2] => { results := [.lit (.bool true)], args := [d1, d2] }
  | _ => none }
def polyBackRow : OpenClaim := { program := "ytlgbdfcipfekhaa", sum := "418307f996e6f438f426627fb5dfc25995273d13f823c4b7a5c54e7c648cf23e", func := "offertory/offertorylaw06.PolyBack", spec := "polyBack", unfollowed := true, recurses := true, apart := false }
def PolyBackSaid : Prop := polyBackRow.holds Try.pinned (OpenSpec.ofChange polyBackSpec)

/-- ITS FALSE NEIGHBOUR: 'it returns false'. Refute it at one input. -/
def polyBackWrong : ChangeSpec := { name := "polyBack", fn := fun _ => fun
  | [d1, d2] => { results := [.lit (.bool false)], args := [d1, d2] }
  | _ => none }
def PolyBackWrongFalsely : Prop := polyBackRow.holds Try.pinned (OpenSpec.ofChange polyBackWrong)

/-- 'offertorylaw06.PolyRoots': WHATEVER THE INPUT: true; the input reads as it did. -/
def polyRootsSpec : ChangeSpec := { name := "polyRoots", fn := fun _ => fun
  | [d1, d2] => { results := [.lit (.bool true)], args := [d1, d2] }
  | _ => none }
def polyRootsRow : OpenClaim := { program := "ytlgbdfcipfekhaa", sum := "418307f996e6f438f426627fb5dfc25995273d13f823c4b7a5c54e7c648cf23e", func := "offertory/offertorylaw06.PolyRoots", spec := "polyRoots", unfollowed := true, recurses := true, apart := false }
def PolyRootsSaid : Prop := polyRootsRow.holds Try.pinned (OpenSpec.ofChange polyRootsSpec)

/-- ITS FALSE NEIGHBOUR: 'it returns false'. Refute it at one input. -/
def polyRootsWrong : ChangeSpec := { name := "polyRoots", fn := fun _ => fun
  | [d1, d2] => { results := [.lit (.bool false)], args := [d1, d2] }
  | _ => none }
def PolyRootsWrongFalsely : Prop := polyRootsRow.holds Try.pinned (OpenSpec.ofChange polyRootsWrong)

/-- 'offertorylaw07.ShareSplits': WHATEVER THE INPUT: true; the input reads as it did. -/
def shareSplitsSpec : ChangeSpec := { name := "shareSplits", fn := fun _ => fun
  | [d1, d2, d3, d4] => { results := [.lit (.bool true)], args := [d1, d2, d3, d4] }
  | _ => none }
def shareSplitsRow : OpenClaim := { program := "ytlgbdfcipfekhaa", sum := "418307f996e6f438f426627fb5dfc25995273d13f823c4b7a5c54e7c648cf23e", func := "offertory/offertorylaw07.ShareSplits", spec := "shareSplits", unfollowed := true, recurses := true, apart := false }
def ShareSplitsSaid : Prop := shareSplitsRow.holds Try.pinned (OpenSpec.ofChange shareSplitsSpec)

/-- ITS FALSE NEIGHBOUR: 'it returns false'. Refute it at one input. -/
def shareSplitsWrong : ChangeSpec := { name := "shareSplits", fn := fun _ => fun
  | [d1, d2, d3, d4] => { results := [.lit (.bool false)], args := [d1, d2, d3, d4] }
  | _ => none }
def ShareSplitsWrongFalsely : Prop := shareSplitsRow.holds Try.pinned (OpenSpec.ofChange shareSplitsWrong)

/-- 'offertorylaw07.ShareJoins': WHATEVER THE INPUT: true; the input reads as it did. -/
def shareJoinsSpec : ChangeSpec := { name := "shareJoins", fn := fun _ => fun
  | [d1, d2] => { results := [.lit (.bool true)], args := [d1, d2] }
  | _ => none }
def shareJoinsRow : OpenClaim := { program := "ytlgbdfcipfekhaa", sum := "418307f996e6f438f426627fb5dfc25995273d13f823c4b7a5c54e7c648cf23e", func := "offertory/offertorylaw07.ShareJoins", spec := "shareJoins", unfollowed := true, recurses := true, apart := false }
def ShareJoinsSaid : Prop := shareJoinsRow.holds Try.pinned (OpenSpec.ofChange shareJoinsSpec)

/-- ITS FALSE NEIGHBOUR: 'it returns false'. Refute it at one input. -/
def shareJoinsWrong : ChangeSpec := { name := "shareJoins", fn := fun _ => fun
  | [d1, d2] => { results := [.lit (.bool false)], args := [d1, d2] }
  | _ => none }
def ShareJoinsWrongFalsely : Prop := shareJoinsRow.holds Try.pinned (OpenSpec.ofChange shareJoinsWrong)

/-- 'offertorylaw07.ShareFits': WHATEVER THE INPUT: true; the input reads as it did. -/
def shareFitsSpec : ChangeSpec := { name := "shareFits", fn := fun _ => fun
  | [d1, d2] => { results := [.lit (.bool true)], args := [d1, d2] }
  | _ => none }
def shareFitsRow : OpenClaim := { program := "ytlgbdfcipfekhaa", sum := "418307f996e6f438f426627fb5dfc25995273d13f823c4b7a5c54e7c648cf23e", func := "offertory/offertorylaw07.ShareFits", spec := "shareFits", unfollowed := true, recurses := true, apart := false }
def ShareFitsSaid : Prop := shareFitsRow.holds Try.pinned (OpenSpec.ofChange shareFitsSpec)

/-- ITS FALSE NEIGHBOUR: 'it returns false'. Refute it at one input. -/
def shareFitsWrong : ChangeSpec := { name := "shareFits", fn := fun _ => fun
  | [d1, d2] => { results := [.lit (.bool false)], args := [d1, d2] }
  | _ => none }
def ShareFitsWrongFalsely : Prop := shareFitsRow.holds Try.pinned (OpenSpec.ofChange shareFitsWrong)

/-- 'offertorylaw07.ShareBack': WHATEVER THE INPUT: true; the input reads as it did. -/
def shareBackSpec : ChangeSpec := { name := "shareBack", fn := fun _ => fun
  | [d1, d2, d3, d4] => { results := [.lit (.bool true)], args := [d1, d2, d3, d4] }
  | _ => none }
def shareBackRow : OpenClaim := { program := "ytlgbdfcipfekhaa", sum := "418307f996e6f438f426627fb5dfc25995273d13f823c4b7a5c54e7c648cf23e", func := "offertory/offertorylaw07.ShareBack", spec := "shareBack", unfollowed := true, recurses := true, apart := false }
def ShareBackSaid : Prop := shareBackRow.holds Try.pinned (OpenSpec.ofChange shareBackSpec)

/-- ITS FALSE NEIGHBOUR: 'it returns false'. Refute it at one input. -/
def shareBackWrong : ChangeSpec := { name := "shareBack", fn := fun _ => fun
  | [d1, d2, d3, d4] => { results := [.lit (.bool false)], args := [d1, d2, d3, d4] }
  | _ => none }
def ShareBackWrongFalsely : Prop := shareBackRow.holds Try.pinned (OpenSpec.ofChange shareBackWrong)

/-- 'offertorylaw07.ShareHides': WHATEVER THE INPUT: true; the input reads as it did. -/
def shareHidesSpec : ChangeSpec := { name := "shareHides", fn := fun _ => fun
  | [d1, d2, d3] => { results := [.lit (.bool true)], args := [d1, d2, d3] }
  | _ => none }
def shareHidesRow : OpenClaim := { program := "ytlgbdfcipfekhaa", sum := "418307f996e6f438f426627fb5dfc25995273d13f823c4b7a5c54e7c648cf23e", func := "offertory/offertorylaw07.ShareHides", spec := "shareHides", unfollowed := true, recurses := true, apart := false }
def ShareHidesSaid : Prop := shareHidesRow.holds Try.pinned (OpenSpec.ofChange shareHidesSpec)

/-- ITS FALSE NEIGHBOUR: 'it returns false'. Refute it at one input. -/
def shareHidesWrong : ChangeSpec := { name := "shareHides", fn := fun _ => fun
  | [d1, d2, d3] => { results := [.lit (.bool false)], args := [d1, d2, d3] }
  | _ => none }
def ShareHidesWrongFalsely : Prop := shareHidesRow.holds Try.pinned (OpenSpec.ofChange shareHidesWrong)

/-- 'offertorylaw07.ShareOnce': WHATEVER THE INPUT: true; the input reads as it did. -/
def shareOnceSpec : ChangeSpec := { name := "shareOnce", fn := fun _ => fun
  | [d1, d2, d3, d4] => { results := [.lit (.bool true)], args := [d1, d2, d3, d4] }
  | _ => none }
def shareOnceRow : OpenClaim := { program := "ytlgbdfcipfekhaa", sum := "418307f996e6f438f426627fb5dfc25995273d13f823c4b7a5c54e7c648cf23e", func := "offertory/offertorylaw07.ShareOnce", spec := "shareOnce", unfollowed := true, recurses := true, apart := false }
def ShareOnceSaid : Prop := shareOnceRow.holds Try.pinned (OpenSpec.ofChange shareOnceSpec)

/-- ITS FALSE NEIGHBOUR: 'it returns false'. Refute it at one input. -/
def shareOnceWrong : ChangeSpec := { name := "shareOnce", fn := fun _ => fun
  | [d1, d2, d3, d4] => { results := [.lit (.bool false)], args := [d1, d2, d3, d4] }
  | _ => none }
def ShareOnceWrongFalsely : Prop := shareOnceRow.holds Try.pinned (OpenSpec.ofChange shareOnceWrong)

/- THE SECOND FORM. 'bulk': how many values and letters a reading holds, each counted each time it is reached (what is shared counts as often as it is met; a slice's spare places count too). A statement '..UptoSaid' is the law's where the arguments, and the package variables that the reading takes, are together of bulk at most 1048576: NARROWER than '..Said'. Prove '..Said' where nothing that the law and all that it calls make is longer than what came in: it says more and counts as full. Else prove '..UptoSaid'. A law counts once. -/
mutual
def uptoBulk {H : Type} : DataW H → Nat
  | .lit (.string bytes) => bytes.length + 1
  | .lit _ => 1
  | .nil => 1
  | .ptr d => uptoBulk d + 1
  | .slice elems spare => uptoBulkAll elems + uptoBulkAll spare + 1
  | .agg parts => uptoBulkAll parts + 1
  | .iface _ d => uptoBulk d + 1
  | .map entries => uptoBulkEntries entries + 1
  | .held _ => 1
def uptoBulkAll {H : Type} : List (DataW H) → Nat
  | [] => 0
  | d :: r => uptoBulk d + uptoBulkAll r
def uptoBulkEntries {H : Type} : List (Lit × DataW H) → Nat
  | [] => 0
  | x :: r => uptoBulkEntry x + uptoBulkEntries r
def uptoBulkEntry {H : Type} : Lit × DataW H → Nat
  | (.string bytes, d) => bytes.length + uptoBulk d + 1
  | (_, d) => uptoBulk d + 1
 end
def uptoSmall : (H : Type) → List (DataW H) → Bool := fun _ ds => decide (uptoBulkAll ds ≤ 1048576)
def OpenSpec.upto (s : _root_.Go.ChangeSpec) : _root_.Go.OpenSpec := { _root_.Go.OpenSpec.ofChange s with cond := some uptoSmall }

/-- 'offertorylaw06.PolyValues', WHERE WHAT IT READS IS OF BULK AT MOST 1048576: true; the input reads as it did. -/
def polyValuesUptoRow : OpenClaim := { program := "ytlgbdfcipfekhaa", sum := "418307f996e6f438f426627fb5dfc25995273d13f823c4b7a5c54e7c648cf23e", func := "offertory/offertorylaw06.PolyValues", spec := "polyValues", unfollowed := true, recurses := true, apart := false, narrowed := true }
def PolyValuesUptoSaid : Prop := polyValuesUptoRow.holds Try.pinned (OpenSpec.upto polyValuesSpec)

/-- 'offertorylaw06.PolyThrough', WHERE WHAT IT READS IS OF BULK AT MOST 1048576: true; the input reads as it did. -/
def polyThroughUptoRow : OpenClaim := { program := "ytlgbdfcipfekhaa", sum := "418307f996e6f438f426627fb5dfc25995273d13f823c4b7a5c54e7c648cf23e", func := "offertory/offertorylaw06.PolyThrough", spec := "polyThrough", unfollowed := true, recurses := true, apart := false, narrowed := true }
def PolyThroughUptoSaid : Prop := polyThroughUptoRow.holds Try.pinned (OpenSpec.upto polyThroughSpec)

/-- 'offertorylaw06.PolyZeros', WHERE WHAT IT READS IS OF BULK AT MOST 1048576: true; the input reads as it did. -/
def polyZerosUptoRow : OpenClaim := { program := "ytlgbdfcipfekhaa", sum := "418307f996e6f438f426627fb5dfc25995273d13f823c4b7a5c54e7c648cf23e", func := "offertory/offertorylaw06.PolyZeros", spec := "polyZeros", unfollowed := true, recurses := true, apart := false, narrowed := true }
def PolyZerosUptoSaid : Prop := polyZerosUptoRow.holds Try.pinned (OpenSpec.upto polyZerosSpec)

/-- 'offertorylaw06.PolyBack', WHERE WHAT IT READS IS OF BULK AT MOST 1048576: true; the input reads as it did. -/
def polyBackUptoRow : OpenClaim := { program := "ytlgbdfcipfekhaa", sum := "418307f996e6f438f426627fb5dfc25995273d13f823c4b7a5c54e7c648cf23e", func := "offertory/offertorylaw06.PolyBack", spec := "polyBack", unfollowed := true, recurses := true, apart := false, narrowed := true }
def PolyBackUptoSaid : Prop := polyBackUptoRow.holds Try.pinned (OpenSpec.upto polyBackSpec)

/-- 'offertorylaw06.PolyRoots', WHERE WHAT IT READS IS OF BULK AT MOST 1048576: true; the input reads as it did. -/
def polyRootsUptoRow : OpenClaim := { program := "ytlgbdfcipfekhaa", sum := "418307f996e6f438f426627fb5dfc25995273d13f823c4b7a5c54e7c648cf23e", func := "offertory/offertorylaw06.PolyRoots", spec := "polyRoots", unfollowed := true, recurses := true, apart := false, narrowed := true }
def PolyRootsUptoSaid : Prop := polyRootsUptoRow.holds Try.pinned (OpenSpec.upto polyRootsSpec)

/-- 'offertorylaw07.ShareSplits', WHERE WHAT IT READS IS OF BULK AT MOST 1048576: true; the input reads as it did. -/
def shareSplitsUptoRow : OpenClaim := { program := "ytlgbdfcipfekhaa", sum := "418307f996e6f438f426627fb5dfc25995273d13f823c4b7a5c54e7c648cf23e", func := "offertory/offertorylaw07.ShareSplits", spec := "shareSplits", unfollowed := true, recurses := true, apart := false, narrowed := true }
def ShareSplitsUptoSaid : Prop := shareSplitsUptoRow.holds Try.pinned (OpenSpec.upto shareSplitsSpec)

/-- 'offertorylaw07.ShareJoins', WHERE WHAT IT READS IS OF BULK AT MOST 1048576: true; the input reads as it did. -/
def shareJoinsUptoRow : OpenClaim := { program := "ytlgbdfcipfekhaa", sum := "418307f996e6f438f426627fb5dfc25995273d13f823c4b7a5c54e7c648cf23e", func := "offertory/offertorylaw07.ShareJoins", spec := "shareJoins", unfollowed := true, recurses := true, apart := false, narrowed := true }
def ShareJoinsUptoSaid : Prop := shareJoinsUptoRow.holds Try.pinned (OpenSpec.upto shareJoinsSpec)

/-- 'offertorylaw07.ShareFits', WHERE WHAT IT READS IS OF BULK AT MOST 1048576: true; the input reads as it did. -/
def shareFitsUptoRow : OpenClaim := { program := "ytlgbdfcipfekhaa", sum := "418307f996e6f438f426627fb5dfc25995273d13f823c4b7a5c54e7c648cf23e", func := "offertory/offertorylaw07.ShareFits", spec := "shareFits", unfollowed := true, recurses := true, apart := false, narrowed := true }
def ShareFitsUptoSaid : Prop := shareFitsUptoRow.holds Try.pinned (OpenSpec.upto shareFitsSpec)

/-- 'offertorylaw07.ShareBack', WHERE WHAT IT READS IS OF BULK AT MOST 1048576: true; the input reads as it did. -/
def shareBackUptoRow : OpenClaim := { program := "ytlgbdfcipfekhaa", sum := "418307f996e6f438f426627fb5dfc25995273d13f823c4b7a5c54e7c648cf23e", func := "offertory/offertorylaw07.ShareBack", spec := "shareBack", unfollowed := true, recurses := true, apart := false, narrowed := true }
def ShareBackUptoSaid : Prop := shareBackUptoRow.holds Try.pinned (OpenSpec.upto shareBackSpec)

/-- 'offertorylaw07.ShareHides', WHERE WHAT IT READS IS OF BULK AT MOST 1048576: true; the input reads as it did. -/
def shareHidesUptoRow : OpenClaim := { program := "ytlgbdfcipfekhaa", sum := "418307f996e6f438f426627fb5dfc25995273d13f823c4b7a5c54e7c648cf23e", func := "offertory/offertorylaw07.ShareHides", spec := "shareHides", unfollowed := true, recurses := true, apart := false, narrowed := true }
def ShareHidesUptoSaid : Prop := shareHidesUptoRow.holds Try.pinned (OpenSpec.upto shareHidesSpec)

/-- 'offertorylaw07.ShareOnce', WHERE WHAT IT READS IS OF BULK AT MOST 1048576: true; the input reads as it did. -/
def shareOnceUptoRow : OpenClaim := { program := "ytlgbdfcipfekhaa", sum := "418307f996e6f438f426627fb5dfc25995273d13f823c4b7a5c54e7c648cf23e", func := "offertory/offertorylaw07.ShareOnce", spec := "shareOnce", unfollowed := true, recurses := true, apart := false, narrowed := true }
def ShareOnceUptoSaid : Prop := shareOnceUptoRow.holds Try.pinned (OpenSpec.upto shareOnceSpec)

end Rows
end Go.Proofs.Ytlgbdfcipfekhaa
