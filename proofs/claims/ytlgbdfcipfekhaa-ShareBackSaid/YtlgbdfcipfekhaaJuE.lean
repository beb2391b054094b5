/- The types of this program, as a table. -/
import Derived.Test.YtlgbdfcipfekhaaProg
import Derived.Test.YtlgbdfcipfekhaaJuD
set_option linter.unusedVariables false
set_option linter.unusedSimpArgs false
set_option linter.unnecessarySimpa false
set_option linter.unusedSectionVars false
set_option linter.all false
/- The types of this program, as a table. -/
namespace Go.Proofs.Ytlgbdfcipfekhaa
open Go.V
set_option maxRecDepth 100000
def tabL : List (Nat × TI) := [
  (1, ⟨.func, 1, 8, .nilf⟩),
  (2, ⟨.int .i64, 1, 8, .d (.int .i64 0)⟩),
  (3, ⟨.int .i64, 1, 8, .d (.int .i64 0)⟩),
  (4, ⟨.bool, 1, 1, .d (.bool false)⟩),
  (5, ⟨.int .u8, 1, 1, .d (.int .u8 0)⟩),
  (6, ⟨.int .u8, 1, 1, .d (.int .u8 0)⟩),
  (7, ⟨.struct [(2, 0), (3, 1), (4, 2), (6, 3)], 4, 24, .d (.agg [.int .i64 0, .int .i64 0, .bool false, .int .u8 0])⟩),
  (8, ⟨.struct [(2, 0), (3, 1), (4, 2), (6, 3)], 4, 24, .d (.agg [.int .i64 0, .int .i64 0, .bool false, .int .u8 0])⟩),
  (9, ⟨.string, 1, 16, .d (.str [])⟩),
  (10, ⟨.string, 1, 16, .d (.str [])⟩),
  (11, ⟨.string, 1, 16, .d (.str [])⟩),
  (12, ⟨.int .u64, 1, 8, .d (.int .u64 0)⟩),
  (13, ⟨.struct [(9, 0), (12, 1)], 2, 24, .d (.agg [.str [], .int .u64 0])⟩),
  (14, ⟨.struct [(9, 0), (12, 1)], 2, 24, .d (.agg [.str [], .int .u64 0])⟩),
  (15, ⟨.pointer 87, 1, 8, .d .nilp⟩),
  (16, ⟨.pointer 90, 1, 8, .d .nilp⟩),
  (17, ⟨.pointer 100, 1, 8, .d .nilp⟩),
  (18, ⟨.struct [(17, 0)], 1, 8, .d (.agg [.nilp])⟩),
  (19, ⟨.struct [(17, 0)], 1, 8, .d (.agg [.nilp])⟩),
  (21, ⟨.int .i32, 1, 4, .d (.int .i32 0)⟩),
  (22, ⟨.slice 23, 1, 24, .d .nils⟩),
  (23, ⟨.int .u64, 1, 8, .d (.int .u64 0)⟩),
  (24, ⟨.func, 1, 8, .nilf⟩),
  (25, ⟨.func, 1, 8, .nilf⟩),
  (26, ⟨.func, 1, 8, .nilf⟩),
  (27, ⟨.func, 1, 8, .nilf⟩),
  (28, ⟨.slice 36, 1, 24, .d .nils⟩),
  (29, ⟨.func, 1, 8, .nilf⟩),
  (30, ⟨.int .i64, 1, 8, .d (.int .i64 0)⟩),
  (32, ⟨.func, 1, 8, .nilf⟩),
  (33, ⟨.func, 1, 8, .nilf⟩),
  (34, ⟨.func, 1, 8, .nilf⟩),
  (35, ⟨.struct [(3, 0), (23, 1)], 2, 16, .d (.agg [.int .i64 0, .int .u64 0])⟩),
  (36, ⟨.struct [(3, 0), (23, 1)], 2, 16, .d (.agg [.int .i64 0, .int .u64 0])⟩),
  (37, ⟨.func, 1, 8, .nilf⟩),
  (38, ⟨.func, 1, 8, .nilf⟩),
  (40, ⟨.func, 1, 8, .nilf⟩),
  (41, ⟨.func, 1, 8, .nilf⟩),
  (42, ⟨.func, 1, 8, .nilf⟩),
  (43, ⟨.func, 1, 8, .nilf⟩),
  (44, ⟨.func, 1, 8, .nilf⟩),
  (46, ⟨.func, 1, 8, .nilf⟩),
  (47, ⟨.func, 1, 8, .nilf⟩),
  (48, ⟨.func, 1, 8, .nilf⟩),
  (49, ⟨.func, 1, 8, .nilf⟩),
  (50, ⟨.func, 1, 8, .nilf⟩),
  (52, ⟨.func, 1, 8, .nilf⟩),
  (53, ⟨.func, 1, 8, .nilf⟩),
  (54, ⟨.func, 1, 8, .nilf⟩),
  (55, ⟨.func, 1, 8, .nilf⟩),
  (56, ⟨.func, 1, 8, .nilf⟩),
  (57, ⟨.func, 1, 8, .nilf⟩),
  (58, ⟨.func, 1, 8, .nilf⟩),
  (59, ⟨.func, 1, 8, .nilf⟩),
  (60, ⟨.func, 1, 8, .nilf⟩),
  (61, ⟨.func, 1, 8, .nilf⟩),
  (62, ⟨.func, 1, 8, .nilf⟩),
  (63, ⟨.func, 1, 8, .nilf⟩),
  (64, ⟨.func, 1, 8, .nilf⟩),
  (65, ⟨.func, 1, 8, .nilf⟩),
  (66, ⟨.slice 23, 1, 24, .d .nils⟩),
  (67, ⟨.func, 1, 8, .nilf⟩),
  (69, ⟨.func, 1, 8, .nilf⟩),
  (70, ⟨.func, 1, 8, .nilf⟩),
  (71, ⟨.func, 1, 8, .nilf⟩),
  (72, ⟨.func, 1, 8, .nilf⟩),
  (73, ⟨.func, 1, 8, .nilf⟩),
  (74, ⟨.func, 1, 8, .nilf⟩),
  (75, ⟨.func, 1, 8, .nilf⟩),
  (76, ⟨.int .u64, 1, 8, .d (.int .u64 0)⟩),
  (77, ⟨.int .u64, 1, 8, .d (.int .u64 0)⟩),
  (78, ⟨.func, 1, 8, .nilf⟩),
  (79, ⟨.slice 22, 1, 24, .d .nils⟩),
  (80, ⟨.func, 1, 8, .nilf⟩),
  (81, ⟨.func, 1, 8, .nilf⟩),
  (82, ⟨.func, 1, 8, .nilf⟩),
  (84, ⟨.func, 1, 8, .nilf⟩),
  (85, ⟨.func, 1, 8, .nilf⟩),
  (86, ⟨.struct [(17, 0), (17, 1), (17, 2), (9, 3)], 4, 40, .d (.agg [.nilp, .nilp, .nilp, .str []])⟩),
  (87, ⟨.struct [(17, 0), (17, 1), (17, 2), (9, 3)], 4, 40, .d (.agg [.nilp, .nilp, .nilp, .str []])⟩),
  (91, ⟨.func, 1, 8, .nilf⟩),
  (92, ⟨.int .u32, 1, 4, .d (.int .u32 0)⟩),
  (93, ⟨.int .u8, 1, 1, .d (.int .u8 0)⟩),
  (94, ⟨.int .u8, 1, 1, .d (.int .u8 0)⟩),
  (95, ⟨.func, 1, 8, .nilf⟩),
  (96, ⟨.pointer 5, 1, 8, .d .nilp⟩),
  (97, ⟨.int .i32, 1, 4, .d (.int .i32 0)⟩),
  (98, ⟨.int .i32, 1, 4, .d (.int .i32 0)⟩)]
def tab (t : TypeId) : Option TI := assoc tabL t
theorem tab_ok : TOk Try.prog tab := TOk.ofL rfl (by
  refine TokL.cons ⟨_, _, _, Try.underlying1, rfl, Try.type1, rfl, rfl, rfl, rfl, rfl, (by simp)⟩ ?_
  refine TokL.cons ⟨_, _, _, Try.underlying2, rfl, Try.type2, rfl, rfl, rfl, rfl, rfl, (by simp)⟩ ?_
  refine TokL.cons ⟨_, _, _, Try.underlying3, rfl, Try.type3, rfl, rfl, rfl, rfl, rfl, (by simp)⟩ ?_
  refine TokL.cons ⟨_, _, _, Try.underlying4, rfl, Try.type4, rfl, rfl, rfl, rfl, rfl, (by simp)⟩ ?_
  refine TokL.cons ⟨_, _, _, Try.underlying5, rfl, Try.type5, rfl, rfl, rfl, rfl, rfl, (by simp)⟩ ?_
  refine TokL.cons ⟨_, _, _, Try.underlying6, rfl, Try.type6, rfl, rfl, rfl, rfl, rfl, (by simp)⟩ ?_
  refine TokL.cons ⟨_, _, _, Try.underlying7, rfl, Try.type7, rfl, rfl, rfl, rfl, rfl, (by simp)⟩ ?_
  refine TokL.cons ⟨_, _, _, Try.underlying8, rfl, Try.type8, rfl, rfl, rfl, rfl, rfl, (by simp)⟩ ?_
  refine TokL.cons ⟨_, _, _, Try.underlying9, rfl, Try.type9, rfl, rfl, rfl, rfl, rfl, (by simp)⟩ ?_
  refine TokL.cons ⟨_, _, _, Try.underlying10, rfl, Try.type10, rfl, rfl, rfl, rfl, rfl, (by simp)⟩ ?_
  refine TokL.cons ⟨_, _, _, Try.underlying11, rfl, Try.type11, rfl, rfl, rfl, rfl, rfl, (by simp)⟩ ?_
  refine TokL.cons ⟨_, _, _, Try.underlying12, rfl, Try.type12, rfl, rfl, rfl, rfl, rfl, (by simp)⟩ ?_
  refine TokL.cons ⟨_, _, _, Try.underlying13, rfl, Try.type13, rfl, rfl, rfl, rfl, rfl, (by simp)⟩ ?_
  refine TokL.cons ⟨_, _, _, Try.underlying14, rfl, Try.type14, rfl, rfl, rfl, rfl, rfl, (by simp)⟩ ?_
  refine TokL.cons ⟨_, _, _, Try.underlying15, rfl, Try.type15, rfl, rfl, rfl, rfl, rfl, (by simp)⟩ ?_
  refine TokL.cons ⟨_, _, _, Try.underlying16, rfl, Try.type16, rfl, rfl, rfl, rfl, rfl, (by simp)⟩ ?_
  refine TokL.cons ⟨_, _, _, Try.underlying17, rfl, Try.type17, rfl, rfl, rfl, rfl, rfl, (by simp)⟩ ?_
  refine TokL.cons ⟨_, _, _, Try.underlying18, rfl, Try.type18, rfl, rfl, rfl, rfl, rfl, (by simp)⟩ ?_
  refine TokL.cons ⟨_, _, _, Try.underlying19, rfl, Try.type19, rfl, rfl, rfl, rfl, rfl, (by simp)⟩ ?_
  refine TokL.cons ⟨_, _, _, Try.underlying21, rfl, Try.type21, rfl, rfl, rfl, rfl, rfl, (by simp)⟩ ?_
  refine TokL.cons ⟨_, _, _, Try.underlying22, rfl, Try.type22, rfl, rfl, rfl, rfl, rfl, (by simp)⟩ ?_
  refine TokL.cons ⟨_, _, _, Try.underlying23, rfl, Try.type23, rfl, rfl, rfl, rfl, rfl, (by simp)⟩ ?_
  refine TokL.cons ⟨_, _, _, Try.underlying24, rfl, Try.type24, rfl, rfl, rfl, rfl, rfl, (by simp)⟩ ?_
  refine TokL.cons ⟨_, _, _, Try.underlying25, rfl, Try.type25, rfl, rfl, rfl, rfl, rfl, (by simp)⟩ ?_
  refine TokL.cons ⟨_, _, _, Try.underlying26, rfl, Try.type26, rfl, rfl, rfl, rfl, rfl, (by simp)⟩ ?_
  refine TokL.cons ⟨_, _, _, Try.underlying27, rfl, Try.type27, rfl, rfl, rfl, rfl, rfl, (by simp)⟩ ?_
  refine TokL.cons ⟨_, _, _, Try.underlying28, rfl, Try.type28, rfl, rfl, rfl, rfl, rfl, (by simp)⟩ ?_
  refine TokL.cons ⟨_, _, _, Try.underlying29, rfl, Try.type29, rfl, rfl, rfl, rfl, rfl, (by simp)⟩ ?_
  refine TokL.cons ⟨_, _, _, Try.underlying30, rfl, Try.type30, rfl, rfl, rfl, rfl, rfl, (by simp)⟩ ?_
  refine TokL.cons ⟨_, _, _, Try.underlying32, rfl, Try.type32, rfl, rfl, rfl, rfl, rfl, (by simp)⟩ ?_
  refine TokL.cons ⟨_, _, _, Try.underlying33, rfl, Try.type33, rfl, rfl, rfl, rfl, rfl, (by simp)⟩ ?_
  refine TokL.cons ⟨_, _, _, Try.underlying34, rfl, Try.type34, rfl, rfl, rfl, rfl, rfl, (by simp)⟩ ?_
  refine TokL.cons ⟨_, _, _, Try.underlying35, rfl, Try.type35, rfl, rfl, rfl, rfl, rfl, (by simp)⟩ ?_
  refine TokL.cons ⟨_, _, _, Try.underlying36, rfl, Try.type36, rfl, rfl, rfl, rfl, rfl, (by simp)⟩ ?_
  refine TokL.cons ⟨_, _, _, Try.underlying37, rfl, Try.type37, rfl, rfl, rfl, rfl, rfl, (by simp)⟩ ?_
  refine TokL.cons ⟨_, _, _, Try.underlying38, rfl, Try.type38, rfl, rfl, rfl, rfl, rfl, (by simp)⟩ ?_
  refine TokL.cons ⟨_, _, _, Try.underlying40, rfl, Try.type40, rfl, rfl, rfl, rfl, rfl, (by simp)⟩ ?_
  refine TokL.cons ⟨_, _, _, Try.underlying41, rfl, Try.type41, rfl, rfl, rfl, rfl, rfl, (by simp)⟩ ?_
  refine TokL.cons ⟨_, _, _, Try.underlying42, rfl, Try.type42, rfl, rfl, rfl, rfl, rfl, (by simp)⟩ ?_
  refine TokL.cons ⟨_, _, _, Try.underlying43, rfl, Try.type43, rfl, rfl, rfl, rfl, rfl, (by simp)⟩ ?_
  refine TokL.cons ⟨_, _, _, Try.underlying44, rfl, Try.type44, rfl, rfl, rfl, rfl, rfl, (by simp)⟩ ?_
  refine TokL.cons ⟨_, _, _, Try.underlying46, rfl, Try.type46, rfl, rfl, rfl, rfl, rfl, (by simp)⟩ ?_
  refine TokL.cons ⟨_, _, _, Try.underlying47, rfl, Try.type47, rfl, rfl, rfl, rfl, rfl, (by simp)⟩ ?_
  refine TokL.cons ⟨_, _, _, Try.underlying48, rfl, Try.type48, rfl, rfl, rfl, rfl, rfl, (by simp)⟩ ?_
  refine TokL.cons ⟨_, _, _, Try.underlying49, rfl, Try.type49, rfl, rfl, rfl, rfl, rfl, (by simp)⟩ ?_
  refine TokL.cons ⟨_, _, _, Try.underlying50, rfl, Try.type50, rfl, rfl, rfl, rfl, rfl, (by simp)⟩ ?_
  refine TokL.cons ⟨_, _, _, Try.underlying52, rfl, Try.type52, rfl, rfl, rfl, rfl, rfl, (by simp)⟩ ?_
  refine TokL.cons ⟨_, _, _, Try.underlying53, rfl, Try.type53, rfl, rfl, rfl, rfl, rfl, (by simp)⟩ ?_
  refine TokL.cons ⟨_, _, _, Try.underlying54, rfl, Try.type54, rfl, rfl, rfl, rfl, rfl, (by simp)⟩ ?_
  refine TokL.cons ⟨_, _, _, Try.underlying55, rfl, Try.type55, rfl, rfl, rfl, rfl, rfl, (by simp)⟩ ?_
  refine TokL.cons ⟨_, _, _, Try.underlying56, rfl, Try.type56, rfl, rfl, rfl, rfl, rfl, (by simp)⟩ ?_
  refine TokL.cons ⟨_, _, _, Try.underlying57, rfl, Try.type57, rfl, rfl, rfl, rfl, rfl, (by simp)⟩ ?_
  refine TokL.cons ⟨_, _, _, Try.underlying58, rfl, Try.type58, rfl, rfl, rfl, rfl, rfl, (by simp)⟩ ?_
  refine TokL.cons ⟨_, _, _, Try.underlying59, rfl, Try.type59, rfl, rfl, rfl, rfl, rfl, (by simp)⟩ ?_
  refine TokL.cons ⟨_, _, _, Try.underlying60, rfl, Try.type60, rfl, rfl, rfl, rfl, rfl, (by simp)⟩ ?_
  refine TokL.cons ⟨_, _, _, Try.underlying61, rfl, Try.type61, rfl, rfl, rfl, rfl, rfl, (by simp)⟩ ?_
  refine TokL.cons ⟨_, _, _, Try.underlying62, rfl, Try.type62, rfl, rfl, rfl, rfl, rfl, (by simp)⟩ ?_
  refine TokL.cons ⟨_, _, _, Try.underlying63, rfl, Try.type63, rfl, rfl, rfl, rfl, rfl, (by simp)⟩ ?_
  refine TokL.cons ⟨_, _, _, Try.underlying64, rfl, Try.type64, rfl, rfl, rfl, rfl, rfl, (by simp)⟩ ?_
  refine TokL.cons ⟨_, _, _, Try.underlying65, rfl, Try.type65, rfl, rfl, rfl, rfl, rfl, (by simp)⟩ ?_
  refine TokL.cons ⟨_, _, _, Try.underlying66, rfl, Try.type66, rfl, rfl, rfl, rfl, rfl, (by simp)⟩ ?_
  refine TokL.cons ⟨_, _, _, Try.underlying67, rfl, Try.type67, rfl, rfl, rfl, rfl, rfl, (by simp)⟩ ?_
  refine TokL.cons ⟨_, _, _, Try.underlying69, rfl, Try.type69, rfl, rfl, rfl, rfl, rfl, (by simp)⟩ ?_
  refine TokL.cons ⟨_, _, _, Try.underlying70, rfl, Try.type70, rfl, rfl, rfl, rfl, rfl, (by simp)⟩ ?_
  refine TokL.cons ⟨_, _, _, Try.underlying71, rfl, Try.type71, rfl, rfl, rfl, rfl, rfl, (by simp)⟩ ?_
  refine TokL.cons ⟨_, _, _, Try.underlying72, rfl, Try.type72, rfl, rfl, rfl, rfl, rfl, (by simp)⟩ ?_
  refine TokL.cons ⟨_, _, _, Try.underlying73, rfl, Try.type73, rfl, rfl, rfl, rfl, rfl, (by simp)⟩ ?_
  refine TokL.cons ⟨_, _, _, Try.underlying74, rfl, Try.type74, rfl, rfl, rfl, rfl, rfl, (by simp)⟩ ?_
  refine TokL.cons ⟨_, _, _, Try.underlying75, rfl, Try.type75, rfl, rfl, rfl, rfl, rfl, (by simp)⟩ ?_
  refine TokL.cons ⟨_, _, _, Try.underlying76, rfl, Try.type76, rfl, rfl, rfl, rfl, rfl, (by simp)⟩ ?_
  refine TokL.cons ⟨_, _, _, Try.underlying77, rfl, Try.type77, rfl, rfl, rfl, rfl, rfl, (by simp)⟩ ?_
  refine TokL.cons ⟨_, _, _, Try.underlying78, rfl, Try.type78, rfl, rfl, rfl, rfl, rfl, (by simp)⟩ ?_
  refine TokL.cons ⟨_, _, _, Try.underlying79, rfl, Try.type79, rfl, rfl, rfl, rfl, rfl, (by simp)⟩ ?_
  refine TokL.cons ⟨_, _, _, Try.underlying80, rfl, Try.type80, rfl, rfl, rfl, rfl, rfl, (by simp)⟩ ?_
  refine TokL.cons ⟨_, _, _, Try.underlying81, rfl, Try.type81, rfl, rfl, rfl, rfl, rfl, (by simp)⟩ ?_
  refine TokL.cons ⟨_, _, _, Try.underlying82, rfl, Try.type82, rfl, rfl, rfl, rfl, rfl, (by simp)⟩ ?_
  refine TokL.cons ⟨_, _, _, Try.underlying84, rfl, Try.type84, rfl, rfl, rfl, rfl, rfl, (by simp)⟩ ?_
  refine TokL.cons ⟨_, _, _, Try.underlying85, rfl, Try.type85, rfl, rfl, rfl, rfl, rfl, (by simp)⟩ ?_
  refine TokL.cons ⟨_, _, _, Try.underlying86, rfl, Try.type86, rfl, rfl, rfl, rfl, rfl, (by simp)⟩ ?_
  refine TokL.cons ⟨_, _, _, Try.underlying87, rfl, Try.type87, rfl, rfl, rfl, rfl, rfl, (by simp)⟩ ?_
  refine TokL.cons ⟨_, _, _, Try.underlying91, rfl, Try.type91, rfl, rfl, rfl, rfl, rfl, (by simp)⟩ ?_
  refine TokL.cons ⟨_, _, _, Try.underlying92, rfl, Try.type92, rfl, rfl, rfl, rfl, rfl, (by simp)⟩ ?_
  refine TokL.cons ⟨_, _, _, Try.underlying93, rfl, Try.type93, rfl, rfl, rfl, rfl, rfl, (by simp)⟩ ?_
  refine TokL.cons ⟨_, _, _, Try.underlying94, rfl, Try.type94, rfl, rfl, rfl, rfl, rfl, (by simp)⟩ ?_
  refine TokL.cons ⟨_, _, _, Try.underlying95, rfl, Try.type95, rfl, rfl, rfl, rfl, rfl, (by simp)⟩ ?_
  refine TokL.cons ⟨_, _, _, Try.underlying96, rfl, Try.type96, rfl, rfl, rfl, rfl, rfl, (by simp)⟩ ?_
  refine TokL.cons ⟨_, _, _, Try.underlying97, rfl, Try.type97, rfl, rfl, rfl, rfl, rfl, (by simp)⟩ ?_
  refine TokL.cons ⟨_, _, _, Try.underlying98, rfl, Try.type98, rfl, rfl, rfl, rfl, rfl, (by simp)⟩ ?_
  exact TokL.nil)
def own (f : FuncId) : Bool := Nat.beq f 68
noncomputable abbrev E (N m : Nat) (rs : List ResultVar) (j l : List (Nat × List Nat)) (g : List (Nat × List Gst)) : Env := ⟨Try.prog, tab, N, own, m, rs, j, l, g⟩
end Go.Proofs.Ytlgbdfcipfekhaa
