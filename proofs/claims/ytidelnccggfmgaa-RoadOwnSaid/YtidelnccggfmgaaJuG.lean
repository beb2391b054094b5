/- The types of this program, as a table. -/
import Derived.Test.YtidelnccggfmgaaProg
import Derived.Test.YtidelnccggfmgaaJuF
set_option linter.unusedVariables false
set_option linter.unusedSimpArgs false
set_option linter.unnecessarySimpa false
set_option linter.unusedSectionVars false
set_option linter.all false
/- The types of this program, as a table. -/
namespace Go.Proofs.Ytidelnccggfmgaa
open Go.V
set_option maxRecDepth 100000
def tabL : List (Nat × TI) := [
  (1, ⟨.func, 1, 8, .nilf⟩),
  (2, ⟨.int .i64, 1, 8, .d (.int .i64 0)⟩),
  (3, ⟨.int .i64, 1, 8, .d (.int .i64 0)⟩),
  (4, ⟨.bool, 1, 1, .d (.bool false)⟩),
  (5, ⟨.int .u8, 1, 1, .d (.int .u8 0)⟩),
  (6, ⟨.int .u8, 1, 1, .d (.int .u8 0)⟩),
  (7, ⟨.struct [(2, 0), (3, 1), (4, 2), (6, 3)], 4, 24, .d (.agg [.int .i64 0, .int .i64 0, .bool false, .int .u8 0])⟩),
  (8, ⟨.struct [(2, 0), (3, 1), (4, 2), (6, 3)], 4, 24, .d (.agg [.int .i64 0, .int .i64 0, .bool false, .int .u8 0])⟩),
  (9, ⟨.string, 1, 16, .d (.str [])⟩),
  (10, ⟨.string, 1, 16, .d (.str [])⟩),
  (11, ⟨.string, 1, 16, .d (.str [])⟩),
  (12, ⟨.int .u64, 1, 8, .d (.int .u64 0)⟩),
  (13, ⟨.struct [(9, 0), (12, 1)], 2, 24, .d (.agg [.str [], .int .u64 0])⟩),
  (14, ⟨.struct [(9, 0), (12, 1)], 2, 24, .d (.agg [.str [], .int .u64 0])⟩),
  (15, ⟨.pointer 143, 1, 8, .d .nilp⟩),
  (16, ⟨.pointer 146, 1, 8, .d .nilp⟩),
  (17, ⟨.pointer 154, 1, 8, .d .nilp⟩),
  (18, ⟨.struct [(17, 0)], 1, 8, .d (.agg [.nilp])⟩),
  (19, ⟨.struct [(17, 0)], 1, 8, .d (.agg [.nilp])⟩),
  (20, ⟨.iface, 1, 16, .ifc true⟩),
  (21, ⟨.int .i32, 1, 4, .d (.int .i32 0)⟩),
  (22, ⟨.slice 31, 1, 24, .d .nils⟩),
  (23, ⟨.pointer 65, 1, 8, .d .nilp⟩),
  (24, ⟨.func, 1, 8, .nilf⟩),
  (25, ⟨.func, 1, 8, .nilf⟩),
  (26, ⟨.slice 29, 1, 24, .d .nils⟩),
  (27, ⟨.slice 5, 1, 24, .d .nils⟩),
  (28, ⟨.struct [(3, 0), (4, 1), (4, 2), (27, 3)], 4, 40, .d (.agg [.int .i64 0, .bool false, .bool false, .nils])⟩),
  (29, ⟨.struct [(3, 0), (4, 1), (4, 2), (27, 3)], 4, 40, .d (.agg [.int .i64 0, .bool false, .bool false, .nils])⟩),
  (30, ⟨.struct [(3, 0), (3, 1), (3, 2), (29, 3)], 7, 64, .d (.agg [.int .i64 0, .int .i64 0, .int .i64 0, .int .i64 0, .bool false, .bool false, .nils])⟩),
  (31, ⟨.struct [(3, 0), (3, 1), (3, 2), (29, 3)], 7, 64, .d (.agg [.int .i64 0, .int .i64 0, .int .i64 0, .int .i64 0, .bool false, .bool false, .nils])⟩),
  (32, ⟨.int .i64, 1, 8, .d (.int .i64 0)⟩),
  (33, ⟨.func, 1, 8, .nilf⟩),
  (35, ⟨.func, 1, 8, .nilf⟩),
  (36, ⟨.func, 1, 8, .nilf⟩),
  (37, ⟨.func, 1, 8, .nilf⟩),
  (38, ⟨.func, 1, 8, .nilf⟩),
  (39, ⟨.int .u64, 1, 8, .d (.int .u64 0)⟩),
  (40, ⟨.func, 1, 8, .nilf⟩),
  (41, ⟨.func, 1, 8, .nilf⟩),
  (42, ⟨.int .u16, 1, 2, .d (.int .u16 0)⟩),
  (43, ⟨.func, 1, 8, .nilf⟩),
  (44, ⟨.func, 1, 8, .nilf⟩),
  (45, ⟨.func, 1, 8, .nilf⟩),
  (46, ⟨.slice 75, 1, 24, .d .nils⟩),
  (47, ⟨.slice 77, 1, 24, .d .nils⟩),
  (48, ⟨.slice 88, 1, 24, .d .nils⟩),
  (49, ⟨.slice 3, 1, 24, .d .nils⟩),
  (50, ⟨.slice 80, 1, 24, .d .nils⟩),
  (51, ⟨.struct [(3, 0), (3, 1), (32, 2), (46, 3), (47, 4), (48, 5), (49, 6), (50, 7)], 8, 144, .d (.agg [.int .i64 0, .int .i64 0, .int .i64 0, .nils, .nils, .nils, .nils, .nils])⟩),
  (52, ⟨.struct [(3, 0), (3, 1), (32, 2), (46, 3), (47, 4), (48, 5), (49, 6), (50, 7)], 8, 144, .d (.agg [.int .i64 0, .int .i64 0, .int .i64 0, .nils, .nils, .nils, .nils, .nils])⟩),
  (53, ⟨.func, 1, 8, .nilf⟩),
  (55, ⟨.func, 1, 8, .nilf⟩),
  (57, ⟨.func, 1, 8, .nilf⟩),
  (58, ⟨.func, 1, 8, .nilf⟩),
  (59, ⟨.func, 1, 8, .nilf⟩),
  (60, ⟨.func, 1, 8, .nilf⟩),
  (61, ⟨.func, 1, 8, .nilf⟩),
  (62, ⟨.struct [(26, 0)], 1, 24, .d (.agg [.nils])⟩),
  (63, ⟨.struct [(26, 0)], 1, 24, .d (.agg [.nils])⟩),
  (64, ⟨.struct [(63, 0)], 1, 24, .d (.agg [.nils])⟩),
  (65, ⟨.struct [(63, 0)], 1, 24, .d (.agg [.nils])⟩),
  (66, ⟨.func, 1, 8, .nilf⟩),
  (67, ⟨.func, 1, 8, .nilf⟩),
  (68, ⟨.pointer 29, 1, 8, .d .nilp⟩),
  (69, ⟨.pointer 71, 1, 8, .d .nilp⟩),
  (70, ⟨.struct [(52, 0)], 8, 144, .d (.agg [.int .i64 0, .int .i64 0, .int .i64 0, .nils, .nils, .nils, .nils, .nils])⟩),
  (71, ⟨.struct [(52, 0)], 8, 144, .d (.agg [.int .i64 0, .int .i64 0, .int .i64 0, .nils, .nils, .nils, .nils, .nils])⟩),
  (72, ⟨.func, 1, 8, .nilf⟩),
  (73, ⟨.int .u64, 1, 8, .d (.int .u64 0)⟩),
  (74, ⟨.struct [(3, 0), (73, 1), (73, 2)], 3, 24, .d (.agg [.int .i64 0, .int .u64 0, .int .u64 0])⟩),
  (75, ⟨.struct [(3, 0), (73, 1), (73, 2)], 3, 24, .d (.agg [.int .i64 0, .int .u64 0, .int .u64 0])⟩),
  (76, ⟨.struct [(3, 0), (3, 1), (27, 2)], 3, 40, .d (.agg [.int .i64 0, .int .i64 0, .nils])⟩),
  (77, ⟨.struct [(3, 0), (3, 1), (27, 2)], 3, 40, .d (.agg [.int .i64 0, .int .i64 0, .nils])⟩),
  (78, ⟨.slice 73, 1, 24, .d .nils⟩),
  (79, ⟨.struct [(3, 0), (4, 1), (78, 2)], 3, 40, .d (.agg [.int .i64 0, .bool false, .nils])⟩),
  (80, ⟨.struct [(3, 0), (4, 1), (78, 2)], 3, 40, .d (.agg [.int .i64 0, .bool false, .nils])⟩),
  (81, ⟨.array 9 3, 9, 72, .d (.agg [.int .i64 0, .int .i64 0, .int .i64 0, .int .i64 0, .int .i64 0, .int .i64 0, .int .i64 0, .int .i64 0, .int .i64 0])⟩),
  (82, ⟨.func, 1, 8, .nilf⟩),
  (83, ⟨.pointer 123, 1, 8, .d .nilp⟩),
  (84, ⟨.func, 1, 8, .nilf⟩),
  (85, ⟨.func, 1, 8, .nilf⟩),
  (86, ⟨.func, 1, 8, .nilf⟩),
  (87, ⟨.func, 1, 8, .nilf⟩),
  (88, ⟨.int .u32, 1, 4, .d (.int .u32 0)⟩),
  (89, ⟨.func, 1, 8, .nilf⟩),
  (90, ⟨.pointer 94, 1, 8, .d .nilp⟩),
  (91, ⟨.pointer 127, 1, 8, .d .nilp⟩),
  (92, ⟨.func, 1, 8, .nilf⟩),
  (93, ⟨.struct [(91, 0), (4, 1)], 2, 16, .d (.agg [.nilp, .bool false])⟩),
  (94, ⟨.struct [(91, 0), (4, 1)], 2, 16, .d (.agg [.nilp, .bool false])⟩),
  (95, ⟨.func, 1, 8, .nilf⟩),
  (96, ⟨.func, 1, 8, .nilf⟩),
  (97, ⟨.func, 1, 8, .nilf⟩),
  (98, ⟨.func, 1, 8, .nilf⟩),
  (99, ⟨.func, 1, 8, .nilf⟩),
  (100, ⟨.func, 1, 8, .nilf⟩),
  (101, ⟨.func, 1, 8, .nilf⟩),
  (102, ⟨.func, 1, 8, .nilf⟩),
  (103, ⟨.func, 1, 8, .nilf⟩),
  (104, ⟨.func, 1, 8, .nilf⟩),
  (105, ⟨.func, 1, 8, .nilf⟩),
  (106, ⟨.func, 1, 8, .nilf⟩),
  (107, ⟨.func, 1, 8, .nilf⟩),
  (108, ⟨.func, 1, 8, .nilf⟩),
  (109, ⟨.func, 1, 8, .nilf⟩),
  (110, ⟨.func, 1, 8, .nilf⟩),
  (111, ⟨.func, 1, 8, .nilf⟩),
  (112, ⟨.func, 1, 8, .nilf⟩),
  (113, ⟨.func, 1, 8, .nilf⟩),
  (114, ⟨.func, 1, 8, .nilf⟩),
  (115, ⟨.func, 1, 8, .nilf⟩),
  (116, ⟨.func, 1, 8, .nilf⟩),
  (117, ⟨.func, 1, 8, .nilf⟩),
  (118, ⟨.func, 1, 8, .nilf⟩),
  (119, ⟨.func, 1, 8, .nilf⟩),
  (120, ⟨.pointer 63, 1, 8, .d .nilp⟩),
  (121, ⟨.func, 1, 8, .nilf⟩),
  (122, ⟨.struct [(27, 0), (4, 1)], 2, 32, .d (.agg [.nils, .bool false])⟩),
  (123, ⟨.struct [(27, 0), (4, 1)], 2, 32, .d (.agg [.nils, .bool false])⟩),
  (124, ⟨.func, 1, 8, .nilf⟩),
  (125, ⟨.func, 1, 8, .nilf⟩),
  (126, ⟨.struct [(27, 0), (32, 1)], 2, 32, .d (.agg [.nils, .int .i64 0])⟩),
  (127, ⟨.struct [(27, 0), (32, 1)], 2, 32, .d (.agg [.nils, .int .i64 0])⟩),
  (128, ⟨.func, 1, 8, .nilf⟩),
  (129, ⟨.func, 1, 8, .nilf⟩),
  (130, ⟨.func, 1, 8, .nilf⟩),
  (131, ⟨.func, 1, 8, .nilf⟩),
  (132, ⟨.array 2 3, 2, 16, .d (.agg [.int .i64 0, .int .i64 0])⟩),
  (133, ⟨.array 6 132, 12, 96, .d (.agg [.int .i64 0, .int .i64 0, .int .i64 0, .int .i64 0, .int .i64 0, .int .i64 0, .int .i64 0, .int .i64 0, .int .i64 0, .int .i64 0, .int .i64 0, .int .i64 0])⟩),
  (134, ⟨.func, 1, 8, .nilf⟩),
  (135, ⟨.func, 1, 8, .nilf⟩),
  (136, ⟨.func, 1, 8, .nilf⟩),
  (137, ⟨.func, 1, 8, .nilf⟩),
  (138, ⟨.func, 1, 8, .nilf⟩),
  (139, ⟨.func, 1, 8, .nilf⟩),
  (140, ⟨.func, 1, 8, .nilf⟩),
  (141, ⟨.func, 1, 8, .nilf⟩),
  (142, ⟨.struct [(17, 0), (17, 1), (17, 2), (9, 3)], 4, 40, .d (.agg [.nilp, .nilp, .nilp, .str []])⟩),
  (143, ⟨.struct [(17, 0), (17, 1), (17, 2), (9, 3)], 4, 40, .d (.agg [.nilp, .nilp, .nilp, .str []])⟩),
  (147, ⟨.int .u8, 1, 1, .d (.int .u8 0)⟩),
  (148, ⟨.int .u8, 1, 1, .d (.int .u8 0)⟩),
  (149, ⟨.func, 1, 8, .nilf⟩),
  (150, ⟨.pointer 5, 1, 8, .d .nilp⟩),
  (151, ⟨.int .i32, 1, 4, .d (.int .i32 0)⟩),
  (152, ⟨.int .i32, 1, 4, .d (.int .i32 0)⟩)]
def tab (t : TypeId) : Option TI := assoc tabL t
theorem tab_ok : TOk Try.prog tab := TOk.ofL rfl (by
  refine TokL.cons ⟨_, _, _, Try.underlying1, rfl, Try.type1, rfl, rfl, rfl, rfl, rfl, (by simp)⟩ ?_
  refine TokL.cons ⟨_, _, _, Try.underlying2, rfl, Try.type2, rfl, rfl, rfl, rfl, rfl, (by simp)⟩ ?_
  refine TokL.cons ⟨_, _, _, Try.underlying3, rfl, Try.type3, rfl, rfl, rfl, rfl, rfl, (by simp)⟩ ?_
  refine TokL.cons ⟨_, _, _, Try.underlying4, rfl, Try.type4, rfl, rfl, rfl, rfl, rfl, (by simp)⟩ ?_
  refine TokL.cons ⟨_, _, _, Try.underlying5, rfl, Try.type5, rfl, rfl, rfl, rfl, rfl, (by simp)⟩ ?_
  refine TokL.cons ⟨_, _, _, Try.underlying6, rfl, Try.type6, rfl, rfl, rfl, rfl, rfl, (by simp)⟩ ?_
  refine TokL.cons ⟨_, _, _, Try.underlying7, rfl, Try.type7, rfl, rfl, rfl, rfl, rfl, (by simp)⟩ ?_
  refine TokL.cons ⟨_, _, _, Try.underlying8, rfl, Try.type8, rfl, rfl, rfl, rfl, rfl, (by simp)⟩ ?_
  refine TokL.cons ⟨_, _, _, Try.underlying9, rfl, Try.type9, rfl, rfl, rfl, rfl, rfl, (by simp)⟩ ?_
  refine TokL.cons ⟨_, _, _, Try.underlying10, rfl, Try.type10, rfl, rfl, rfl, rfl, rfl, (by simp)⟩ ?_
  refine TokL.cons ⟨_, _, _, Try.underlying11, rfl, Try.type11, rfl, rfl, rfl, rfl, rfl, (by simp)⟩ ?_
  refine TokL.cons ⟨_, _, _, Try.underlying12, rfl, Try.type12, rfl, rfl, rfl, rfl, rfl, (by simp)⟩ ?_
  refine TokL.cons ⟨_, _, _, Try.underlying13, rfl, Try.type13, rfl, rfl, rfl, rfl, rfl, (by simp)⟩ ?_
  refine TokL.cons ⟨_, _, _, Try.underlying14, rfl, Try.type14, rfl, rfl, rfl, rfl, rfl, (by simp)⟩ ?_
  refine TokL.cons ⟨_, _, _, Try.underlying15, rfl, Try.type15, rfl, rfl, rfl, rfl, rfl, (by simp)⟩ ?_
  refine TokL.cons ⟨_, _, _, Try.underlying16, rfl, Try.type16, rfl, rfl, rfl, rfl, rfl, (by simp)⟩ ?_
  refine TokL.cons ⟨_, _, _, Try.underlying17, rfl, Try.type17, rfl, rfl, rfl, rfl, rfl, (by simp)⟩ ?_
  refine TokL.cons ⟨_, _, _, Try.underlying18, rfl, Try.type18, rfl, rfl, rfl, rfl, rfl, (by simp)⟩ ?_
  refine TokL.cons ⟨_, _, _, Try.underlying19, rfl, Try.type19, rfl, rfl, rfl, rfl, rfl, (by simp)⟩ ?_
  refine TokL.cons ⟨_, _, _, Try.underlying20, rfl, Try.type20, rfl, rfl, rfl, rfl, rfl, (by simp)⟩ ?_
  refine TokL.cons ⟨_, _, _, Try.underlying21, rfl, Try.type21, rfl, rfl, rfl, rfl, rfl, (by simp)⟩ ?_
  refine TokL.cons ⟨_, _, _, Try.underlying22, rfl, Try.type22, rfl, rfl, rfl, rfl, rfl, (by simp)⟩ ?_
  refine TokL.cons ⟨_, _, _, Try.underlying23, rfl, Try.type23, rfl, rfl, rfl, rfl, rfl, (by simp)⟩ ?_
  refine TokL.cons ⟨_, _, _, Try.underlying24, rfl, Try.type24, rfl, rfl, rfl, rfl, rfl, (by simp)⟩ ?_
  refine TokL.cons ⟨_, _, _, Try.underlying25, rfl, Try.type25, rfl, rfl, rfl, rfl, rfl, (by simp)⟩ ?_
  refine TokL.cons ⟨_, _, _, Try.underlying26, rfl, Try.type26, rfl, rfl, rfl, rfl, rfl, (by simp)⟩ ?_
  refine TokL.cons ⟨_, _, _, Try.underlying27, rfl, Try.type27, rfl, rfl, rfl, rfl, rfl, (by simp)⟩ ?_
  refine TokL.cons ⟨_, _, _, Try.underlying28, rfl, Try.type28, rfl, rfl, rfl, rfl, rfl, (by simp)⟩ ?_
  refine TokL.cons ⟨_, _, _, Try.underlying29, rfl, Try.type29, rfl, rfl, rfl, rfl, rfl, (by simp)⟩ ?_
  refine TokL.cons ⟨_, _, _, Try.underlying30, rfl, Try.type30, rfl, rfl, rfl, rfl, rfl, (by simp)⟩ ?_
  refine TokL.cons ⟨_, _, _, Try.underlying31, rfl, Try.type31, rfl, rfl, rfl, rfl, rfl, (by simp)⟩ ?_
  refine TokL.cons ⟨_, _, _, Try.underlying32, rfl, Try.type32, rfl, rfl, rfl, rfl, rfl, (by simp)⟩ ?_
  refine TokL.cons ⟨_, _, _, Try.underlying33, rfl, Try.type33, rfl, rfl, rfl, rfl, rfl, (by simp)⟩ ?_
  refine TokL.cons ⟨_, _, _, Try.underlying35, rfl, Try.type35, rfl, rfl, rfl, rfl, rfl, (by simp)⟩ ?_
  refine TokL.cons ⟨_, _, _, Try.underlying36, rfl, Try.type36, rfl, rfl, rfl, rfl, rfl, (by simp)⟩ ?_
  refine TokL.cons ⟨_, _, _, Try.underlying37, rfl, Try.type37, rfl, rfl, rfl, rfl, rfl, (by simp)⟩ ?_
  refine TokL.cons ⟨_, _, _, Try.underlying38, rfl, Try.type38, rfl, rfl, rfl, rfl, rfl, (by simp)⟩ ?_
  refine TokL.cons ⟨_, _, _, Try.underlying39, rfl, Try.type39, rfl, rfl, rfl, rfl, rfl, (by simp)⟩ ?_
  refine TokL.cons ⟨_, _, _, Try.underlying40, rfl, Try.type40, rfl, rfl, rfl, rfl, rfl, (by simp)⟩ ?_
  refine TokL.cons ⟨_, _, _, Try.underlying41, rfl, Try.type41, rfl, rfl, rfl, rfl, rfl, (by simp)⟩ ?_
  refine TokL.cons ⟨_, _, _, Try.underlying42, rfl, Try.type42, rfl, rfl, rfl, rfl, rfl, (by simp)⟩ ?_
  refine TokL.cons ⟨_, _, _, Try.underlying43, rfl, Try.type43, rfl, rfl, rfl, rfl, rfl, (by simp)⟩ ?_
  refine TokL.cons ⟨_, _, _, Try.underlying44, rfl, Try.type44, rfl, rfl, rfl, rfl, rfl, (by simp)⟩ ?_
  refine TokL.cons ⟨_, _, _, Try.underlying45, rfl, Try.type45, rfl, rfl, rfl, rfl, rfl, (by simp)⟩ ?_
  refine TokL.cons ⟨_, _, _, Try.underlying46, rfl, Try.type46, rfl, rfl, rfl, rfl, rfl, (by simp)⟩ ?_
  refine TokL.cons ⟨_, _, _, Try.underlying47, rfl, Try.type47, rfl, rfl, rfl, rfl, rfl, (by simp)⟩ ?_
  refine TokL.cons ⟨_, _, _, Try.underlying48, rfl, Try.type48, rfl, rfl, rfl, rfl, rfl, (by simp)⟩ ?_
  refine TokL.cons ⟨_, _, _, Try.underlying49, rfl, Try.type49, rfl, rfl, rfl, rfl, rfl, (by simp)⟩ ?_
  refine TokL.cons ⟨_, _, _, Try.underlying50, rfl, Try.type50, rfl, rfl, rfl, rfl, rfl, (by simp)⟩ ?_
  refine TokL.cons ⟨_, _, _, Try.underlying51, rfl, Try.type51, rfl, rfl, rfl, rfl, rfl, (by simp)⟩ ?_
  refine TokL.cons ⟨_, _, _, Try.underlying52, rfl, Try.type52, rfl, rfl, rfl, rfl, rfl, (by simp)⟩ ?_
  refine TokL.cons ⟨_, _, _, Try.underlying53, rfl, Try.type53, rfl, rfl, rfl, rfl, rfl, (by simp)⟩ ?_
  refine TokL.cons ⟨_, _, _, Try.underlying55, rfl, Try.type55, rfl, rfl, rfl, rfl, rfl, (by simp)⟩ ?_
  refine TokL.cons ⟨_, _, _, Try.underlying57, rfl, Try.type57, rfl, rfl, rfl, rfl, rfl, (by simp)⟩ ?_
  refine TokL.cons ⟨_, _, _, Try.underlying58, rfl, Try.type58, rfl, rfl, rfl, rfl, rfl, (by simp)⟩ ?_
  refine TokL.cons ⟨_, _, _, Try.underlying59, rfl, Try.type59, rfl, rfl, rfl, rfl, rfl, (by simp)⟩ ?_
  refine TokL.cons ⟨_, _, _, Try.underlying60, rfl, Try.type60, rfl, rfl, rfl, rfl, rfl, (by simp)⟩ ?_
  refine TokL.cons ⟨_, _, _, Try.underlying61, rfl, Try.type61, rfl, rfl, rfl, rfl, rfl, (by simp)⟩ ?_
  refine TokL.cons ⟨_, _, _, Try.underlying62, rfl, Try.type62, rfl, rfl, rfl, rfl, rfl, (by simp)⟩ ?_
  refine TokL.cons ⟨_, _, _, Try.underlying63, rfl, Try.type63, rfl, rfl, rfl, rfl, rfl, (by simp)⟩ ?_
  refine TokL.cons ⟨_, _, _, Try.underlying64, rfl, Try.type64, rfl, rfl, rfl, rfl, rfl, (by simp)⟩ ?_
  refine TokL.cons ⟨_, _, _, Try.underlying65, rfl, Try.type65, rfl, rfl, rfl, rfl, rfl, (by simp)⟩ ?_
  refine TokL.cons ⟨_, _, _, Try.underlying66, rfl, Try.type66, rfl, rfl, rfl, rfl, rfl, (by simp)⟩ ?_
  refine TokL.cons ⟨_, _, _, Try.underlying67, rfl, Try.type67, rfl, rfl, rfl, rfl, rfl, (by simp)⟩ ?_
  refine TokL.cons ⟨_, _, _, Try.underlying68, rfl, Try.type68, rfl, rfl, rfl, rfl, rfl, (by simp)⟩ ?_
  refine TokL.cons ⟨_, _, _, Try.underlying69, rfl, Try.type69, rfl, rfl, rfl, rfl, rfl, (by simp)⟩ ?_
  refine TokL.cons ⟨_, _, _, Try.underlying70, rfl, Try.type70, rfl, rfl, rfl, rfl, rfl, (by simp)⟩ ?_
  refine TokL.cons ⟨_, _, _, Try.underlying71, rfl, Try.type71, rfl, rfl, rfl, rfl, rfl, (by simp)⟩ ?_
  refine TokL.cons ⟨_, _, _, Try.underlying72, rfl, Try.type72, rfl, rfl, rfl, rfl, rfl, (by simp)⟩ ?_
  refine TokL.cons ⟨_, _, _, Try.underlying73, rfl, Try.type73, rfl, rfl, rfl, rfl, rfl, (by simp)⟩ ?_
  refine TokL.cons ⟨_, _, _, Try.underlying74, rfl, Try.type74, rfl, rfl, rfl, rfl, rfl, (by simp)⟩ ?_
  refine TokL.cons ⟨_, _, _, Try.underlying75, rfl, Try.type75, rfl, rfl, rfl, rfl, rfl, (by simp)⟩ ?_
  refine TokL.cons ⟨_, _, _, Try.underlying76, rfl, Try.type76, rfl, rfl, rfl, rfl, rfl, (by simp)⟩ ?_
  refine TokL.cons ⟨_, _, _, Try.underlying77, rfl, Try.type77, rfl, rfl, rfl, rfl, rfl, (by simp)⟩ ?_
  refine TokL.cons ⟨_, _, _, Try.underlying78, rfl, Try.type78, rfl, rfl, rfl, rfl, rfl, (by simp)⟩ ?_
  refine TokL.cons ⟨_, _, _, Try.underlying79, rfl, Try.type79, rfl, rfl, rfl, rfl, rfl, (by simp)⟩ ?_
  refine TokL.cons ⟨_, _, _, Try.underlying80, rfl, Try.type80, rfl, rfl, rfl, rfl, rfl, (by simp)⟩ ?_
  refine TokL.cons ⟨_, _, _, Try.underlying81, rfl, Try.type81, rfl, rfl, rfl, rfl, rfl, (by simp)⟩ ?_
  refine TokL.cons ⟨_, _, _, Try.underlying82, rfl, Try.type82, rfl, rfl, rfl, rfl, rfl, (by simp)⟩ ?_
  refine TokL.cons ⟨_, _, _, Try.underlying83, rfl, Try.type83, rfl, rfl, rfl, rfl, rfl, (by simp)⟩ ?_
  refine TokL.cons ⟨_, _, _, Try.underlying84, rfl, Try.type84, rfl, rfl, rfl, rfl, rfl, (by simp)⟩ ?_
  refine TokL.cons ⟨_, _, _, Try.underlying85, rfl, Try.type85, rfl, rfl, rfl, rfl, rfl, (by simp)⟩ ?_
  refine TokL.cons ⟨_, _, _, Try.underlying86, rfl, Try.type86, rfl, rfl, rfl, rfl, rfl, (by simp)⟩ ?_
  refine TokL.cons ⟨_, _, _, Try.underlying87, rfl, Try.type87, rfl, rfl, rfl, rfl, rfl, (by simp)⟩ ?_
  refine TokL.cons ⟨_, _, _, Try.underlying88, rfl, Try.type88, rfl, rfl, rfl, rfl, rfl, (by simp)⟩ ?_
  refine TokL.cons ⟨_, _, _, Try.underlying89, rfl, Try.type89, rfl, rfl, rfl, rfl, rfl, (by simp)⟩ ?_
  refine TokL.cons ⟨_, _, _, Try.underlying90, rfl, Try.type90, rfl, rfl, rfl, rfl, rfl, (by simp)⟩ ?_
  refine TokL.cons ⟨_, _, _, Try.underlying91, rfl, Try.type91, rfl, rfl, rfl, rfl, rfl, (by simp)⟩ ?_
  refine TokL.cons ⟨_, _, _, Try.underlying92, rfl, Try.type92, rfl, rfl, rfl, rfl, rfl, (by simp)⟩ ?_
  refine TokL.cons ⟨_, _, _, Try.underlying93, rfl, Try.type93, rfl, rfl, rfl, rfl, rfl, (by simp)⟩ ?_
  refine TokL.cons ⟨_, _, _, Try.underlying94, rfl, Try.type94, rfl, rfl, rfl, rfl, rfl, (by simp)⟩ ?_
  refine TokL.cons ⟨_, _, _, Try.underlying95, rfl, Try.type95, rfl, rfl, rfl, rfl, rfl, (by simp)⟩ ?_
  refine TokL.cons ⟨_, _, _, Try.underlying96, rfl, Try.type96, rfl, rfl, rfl, rfl, rfl, (by simp)⟩ ?_
  refine TokL.cons ⟨_, _, _, Try.underlying97, rfl, Try.type97, rfl, rfl, rfl, rfl, rfl, (by simp)⟩ ?_
  refine TokL.cons ⟨_, _, _, Try.underlying98, rfl, Try.type98, rfl, rfl, rfl, rfl, rfl, (by simp)⟩ ?_
  refine TokL.cons ⟨_, _, _, Try.underlying99, rfl, Try.type99, rfl, rfl, rfl, rfl, rfl, (by simp)⟩ ?_
  refine TokL.cons ⟨_, _, _, Try.underlying100, rfl, Try.type100, rfl, rfl, rfl, rfl, rfl, (by simp)⟩ ?_
  refine TokL.cons ⟨_, _, _, Try.underlying101, rfl, Try.type101, rfl, rfl, rfl, rfl, rfl, (by simp)⟩ ?_
  refine TokL.cons ⟨_, _, _, Try.underlying102, rfl, Try.type102, rfl, rfl, rfl, rfl, rfl, (by simp)⟩ ?_
  refine TokL.cons ⟨_, _, _, Try.underlying103, rfl, Try.type103, rfl, rfl, rfl, rfl, rfl, (by simp)⟩ ?_
  refine TokL.cons ⟨_, _, _, Try.underlying104, rfl, Try.type104, rfl, rfl, rfl, rfl, rfl, (by simp)⟩ ?_
  refine TokL.cons ⟨_, _, _, Try.underlying105, rfl, Try.type105, rfl, rfl, rfl, rfl, rfl, (by simp)⟩ ?_
  refine TokL.cons ⟨_, _, _, Try.underlying106, rfl, Try.type106, rfl, rfl, rfl, rfl, rfl, (by simp)⟩ ?_
  refine TokL.cons ⟨_, _, _, Try.underlying107, rfl, Try.type107, rfl, rfl, rfl, rfl, rfl, (by simp)⟩ ?_
  refine TokL.cons ⟨_, _, _, Try.underlying108, rfl, Try.type108, rfl, rfl, rfl, rfl, rfl, (by simp)⟩ ?_
  refine TokL.cons ⟨_, _, _, Try.underlying109, rfl, Try.type109, rfl, rfl, rfl, rfl, rfl, (by simp)⟩ ?_
  refine TokL.cons ⟨_, _, _, Try.underlying110, rfl, Try.type110, rfl, rfl, rfl, rfl, rfl, (by simp)⟩ ?_
  refine TokL.cons ⟨_, _, _, Try.underlying111, rfl, Try.type111, rfl, rfl, rfl, rfl, rfl, (by simp)⟩ ?_
  refine TokL.cons ⟨_, _, _, Try.underlying112, rfl, Try.type112, rfl, rfl, rfl, rfl, rfl, (by simp)⟩ ?_
  refine TokL.cons ⟨_, _, _, Try.underlying113, rfl, Try.type113, rfl, rfl, rfl, rfl, rfl, (by simp)⟩ ?_
  refine TokL.cons ⟨_, _, _, Try.underlying114, rfl, Try.type114, rfl, rfl, rfl, rfl, rfl, (by simp)⟩ ?_
  refine TokL.cons ⟨_, _, _, Try.underlying115, rfl, Try.type115, rfl, rfl, rfl, rfl, rfl, (by simp)⟩ ?_
  refine TokL.cons ⟨_, _, _, Try.underlying116, rfl, Try.type116, rfl, rfl, rfl, rfl, rfl, (by simp)⟩ ?_
  refine TokL.cons ⟨_, _, _, Try.underlying117, rfl, Try.type117, rfl, rfl, rfl, rfl, rfl, (by simp)⟩ ?_
  refine TokL.cons ⟨_, _, _, Try.underlying118, rfl, Try.type118, rfl, rfl, rfl, rfl, rfl, (by simp)⟩ ?_
  refine TokL.cons ⟨_, _, _, Try.underlying119, rfl, Try.type119, rfl, rfl, rfl, rfl, rfl, (by simp)⟩ ?_
  refine TokL.cons ⟨_, _, _, Try.underlying120, rfl, Try.type120, rfl, rfl, rfl, rfl, rfl, (by simp)⟩ ?_
  refine TokL.cons ⟨_, _, _, Try.underlying121, rfl, Try.type121, rfl, rfl, rfl, rfl, rfl, (by simp)⟩ ?_
  refine TokL.cons ⟨_, _, _, Try.underlying122, rfl, Try.type122, rfl, rfl, rfl, rfl, rfl, (by simp)⟩ ?_
  refine TokL.cons ⟨_, _, _, Try.underlying123, rfl, Try.type123, rfl, rfl, rfl, rfl, rfl, (by simp)⟩ ?_
  refine TokL.cons ⟨_, _, _, Try.underlying124, rfl, Try.type124, rfl, rfl, rfl, rfl, rfl, (by simp)⟩ ?_
  refine TokL.cons ⟨_, _, _, Try.underlying125, rfl, Try.type125, rfl, rfl, rfl, rfl, rfl, (by simp)⟩ ?_
  refine TokL.cons ⟨_, _, _, Try.underlying126, rfl, Try.type126, rfl, rfl, rfl, rfl, rfl, (by simp)⟩ ?_
  refine TokL.cons ⟨_, _, _, Try.underlying127, rfl, Try.type127, rfl, rfl, rfl, rfl, rfl, (by simp)⟩ ?_
  refine TokL.cons ⟨_, _, _, Try.underlying128, rfl, Try.type128, rfl, rfl, rfl, rfl, rfl, (by simp)⟩ ?_
  refine TokL.cons ⟨_, _, _, Try.underlying129, rfl, Try.type129, rfl, rfl, rfl, rfl, rfl, (by simp)⟩ ?_
  refine TokL.cons ⟨_, _, _, Try.underlying130, rfl, Try.type130, rfl, rfl, rfl, rfl, rfl, (by simp)⟩ ?_
  refine TokL.cons ⟨_, _, _, Try.underlying131, rfl, Try.type131, rfl, rfl, rfl, rfl, rfl, (by simp)⟩ ?_
  refine TokL.cons ⟨_, _, _, Try.underlying132, rfl, Try.type132, rfl, rfl, rfl, rfl, rfl, (by simp)⟩ ?_
  refine TokL.cons ⟨_, _, _, Try.underlying133, rfl, Try.type133, rfl, rfl, rfl, rfl, rfl, (by simp)⟩ ?_
  refine TokL.cons ⟨_, _, _, Try.underlying134, rfl, Try.type134, rfl, rfl, rfl, rfl, rfl, (by simp)⟩ ?_
  refine TokL.cons ⟨_, _, _, Try.underlying135, rfl, Try.type135, rfl, rfl, rfl, rfl, rfl, (by simp)⟩ ?_
  refine TokL.cons ⟨_, _, _, Try.underlying136, rfl, Try.type136, rfl, rfl, rfl, rfl, rfl, (by simp)⟩ ?_
  refine TokL.cons ⟨_, _, _, Try.underlying137, rfl, Try.type137, rfl, rfl, rfl, rfl, rfl, (by simp)⟩ ?_
  refine TokL.cons ⟨_, _, _, Try.underlying138, rfl, Try.type138, rfl, rfl, rfl, rfl, rfl, (by simp)⟩ ?_
  refine TokL.cons ⟨_, _, _, Try.underlying139, rfl, Try.type139, rfl, rfl, rfl, rfl, rfl, (by simp)⟩ ?_
  refine TokL.cons ⟨_, _, _, Try.underlying140, rfl, Try.type140, rfl, rfl, rfl, rfl, rfl, (by simp)⟩ ?_
  refine TokL.cons ⟨_, _, _, Try.underlying141, rfl, Try.type141, rfl, rfl, rfl, rfl, rfl, (by simp)⟩ ?_
  refine TokL.cons ⟨_, _, _, Try.underlying142, rfl, Try.type142, rfl, rfl, rfl, rfl, rfl, (by simp)⟩ ?_
  refine TokL.cons ⟨_, _, _, Try.underlying143, rfl, Try.type143, rfl, rfl, rfl, rfl, rfl, (by simp)⟩ ?_
  refine TokL.cons ⟨_, _, _, Try.underlying147, rfl, Try.type147, rfl, rfl, rfl, rfl, rfl, (by simp)⟩ ?_
  refine TokL.cons ⟨_, _, _, Try.underlying148, rfl, Try.type148, rfl, rfl, rfl, rfl, rfl, (by simp)⟩ ?_
  refine TokL.cons ⟨_, _, _, Try.underlying149, rfl, Try.type149, rfl, rfl, rfl, rfl, rfl, (by simp)⟩ ?_
  refine TokL.cons ⟨_, _, _, Try.underlying150, rfl, Try.type150, rfl, rfl, rfl, rfl, rfl, (by simp)⟩ ?_
  refine TokL.cons ⟨_, _, _, Try.underlying151, rfl, Try.type151, rfl, rfl, rfl, rfl, rfl, (by simp)⟩ ?_
  refine TokL.cons ⟨_, _, _, Try.underlying152, rfl, Try.type152, rfl, rfl, rfl, rfl, rfl, (by simp)⟩ ?_
  exact TokL.nil)
def own (f : FuncId) : Nat := bif Nat.beq f 69 then 1 else bif Nat.beq f 72 then 1 else bif Nat.beq f 22 then 2 else bif Nat.beq f 23 then 2 else bif Nat.beq f 24 then 2 else bif Nat.beq f 27 then 2 else bif Nat.beq f 28 then 2 else bif Nat.beq f 29 then 2 else 0
noncomputable abbrev E (N m : Nat) (rs : List ResultVar) (j l : List (Nat × List Nat)) (g : List (Nat × List Gst)) : Env := ⟨Try.prog, tab, N, own, m, rs, j, l, g⟩
end Go.Proofs.Ytidelnccggfmgaa
