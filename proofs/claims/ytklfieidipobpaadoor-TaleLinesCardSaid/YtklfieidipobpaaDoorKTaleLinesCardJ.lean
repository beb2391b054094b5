/- Texts: a world in which the law's variables lie. -/
import Derived.Test.YtklfieidipobpaaDoorKTaleLinesCardI
import Derived.Test.YtklfieidipobpaaDoorTie
import Derived.Lay
import Derived.LaidMore
import Derived.Deep.DeepLaidRun
set_option linter.unusedVariables false
set_option linter.unusedSimpArgs false
set_option linter.unnecessarySimpa false
set_option linter.unusedSectionVars false
set_option linter.all false
/- Texts: a world in which the law's variables lie. -/
namespace Go.Proofs.YtklfieidipobpaaDoor.Txt
open Go.V Go.RowKit
set_option maxRecDepth 100000
theorem laid_lines (os : Os) (args : Array Value) : laidMet Tryd.prog Rows.taleLinesRow.laid ((World.laidAll Tryd.prog os Rows.taleLinesRow.laid).forCall (fun _ _ => 0) ⟨#[], args, []⟩).memory :=
  laidMet_of_run3 8 (by kernel_rfl) (by kernel_rfl) (by kernel_rfl)
theorem str_bulk {I : Go.Eng.Imm} {H : Type} {b : ByteArray} {s : List UInt8} {d : DataW H} (h : RelD I (.string b) (.str s)) (hd : d = .lit (.string b.data.toList)) (hb : Rows.uptoBulkAll ([d] ++ []) ≤ 1048576) : s.length ≤ 2000000 := by
  cases h
  subst hd
  have e : (Go.Eng.strOf s).data.toList = s := Go.Eng.strOf_data s
  rw [e] at hb
  have e2 : Rows.uptoBulkAll ([DataW.lit (H := H) (.string s)] ++ []) = s.length + 1 := by simp [Rows.uptoBulkAll, Rows.uptoBulk]
  omega
end Go.Proofs.YtklfieidipobpaaDoor.Txt
