/- The types of this program, as a table. -/
import Derived.Test.YtofkdfodehfpdaaGreatProg
import Derived.Test.YtofkdfodehfpdaaGreatJuD
set_option linter.unusedVariables false
set_option linter.unusedSimpArgs false
set_option linter.unnecessarySimpa false
set_option linter.unusedSectionVars false
set_option linter.all false
/- The types of this program, as a table. -/
namespace Go.Proofs.YtofkdfodehfpdaaGreat
open Go.V
set_option maxRecDepth 100000
def tabL : List (Nat × TI) := [
  (1, ⟨.func, 1, 8, .nilf⟩),
  (2, ⟨.int .i64, 1, 8, .d (.int .i64 0)⟩),
  (3, ⟨.int .i64, 1, 8, .d (.int .i64 0)⟩),
  (4, ⟨.bool, 1, 1, .d (.bool false)⟩),
  (5, ⟨.int .u8, 1, 1, .d (.int .u8 0)⟩),
  (6, ⟨.int .u8, 1, 1, .d (.int .u8 0)⟩),
  (7, ⟨.struct [(2, 0), (3, 1), (4, 2), (6, 3)], 4, 24, .d (.agg [.int .i64 0, .int .i64 0, .bool false, .int .u8 0])⟩),
  (8, ⟨.struct [(2, 0), (3, 1), (4, 2), (6, 3)], 4, 24, .d (.agg [.int .i64 0, .int .i64 0, .bool false, .int .u8 0])⟩),
  (9, ⟨.string, 1, 16, .d (.str [])⟩),
  (10, ⟨.string, 1, 16, .d (.str [])⟩),
  (11, ⟨.string, 1, 16, .d (.str [])⟩),
  (12, ⟨.int .u64, 1, 8, .d (.int .u64 0)⟩),
  (13, ⟨.struct [(9, 0), (12, 1)], 2, 24, .d (.agg [.str [], .int .u64 0])⟩),
  (14, ⟨.struct [(9, 0), (12, 1)], 2, 24, .d (.agg [.str [], .int .u64 0])⟩),
  (15, ⟨.pointer 166, 1, 8, .d .nilp⟩),
  (16, ⟨.pointer 169, 1, 8, .d .nilp⟩),
  (17, ⟨.pointer 178, 1, 8, .d .nilp⟩),
  (18, ⟨.struct [(17, 0)], 1, 8, .d (.agg [.nilp])⟩),
  (19, ⟨.struct [(17, 0)], 1, 8, .d (.agg [.nilp])⟩),
  (21, ⟨.int .i32, 1, 4, .d (.int .i32 0)⟩),
  (22, ⟨.slice 60, 1, 24, .d .nils⟩),
  (23, ⟨.int .u64, 1, 8, .d (.int .u64 0)⟩),
  (24, ⟨.int .i64, 1, 8, .d (.int .i64 0)⟩),
  (26, ⟨.func, 1, 8, .nilf⟩),
  (27, ⟨.func, 1, 8, .nilf⟩),
  (28, ⟨.func, 1, 8, .nilf⟩),
  (29, ⟨.int .u16, 1, 2, .d (.int .u16 0)⟩),
  (30, ⟨.slice 31, 1, 24, .d .nils⟩),
  (31, ⟨.int .u32, 1, 4, .d (.int .u32 0)⟩),
  (32, ⟨.slice 41, 1, 24, .d .nils⟩),
  (33, ⟨.slice 3, 1, 24, .d .nils⟩),
  (34, ⟨.slice 30, 1, 24, .d .nils⟩),
  (35, ⟨.slice 47, 1, 24, .d .nils⟩),
  (36, ⟨.struct [(3, 0), (32, 1), (33, 2), (33, 3), (34, 4), (33, 5), (35, 6)], 7, 152, .d (.agg [.int .i64 0, .nils, .nils, .nils, .nils, .nils, .nils])⟩),
  (37, ⟨.struct [(3, 0), (32, 1), (33, 2), (33, 3), (34, 4), (33, 5), (35, 6)], 7, 152, .d (.agg [.int .i64 0, .nils, .nils, .nils, .nils, .nils, .nils])⟩),
  (38, ⟨.slice 23, 1, 24, .d .nils⟩),
  (39, ⟨.func, 1, 8, .nilf⟩),
  (40, ⟨.struct [(3, 0), (23, 1), (23, 2)], 3, 24, .d (.agg [.int .i64 0, .int .u64 0, .int .u64 0])⟩),
  (41, ⟨.struct [(3, 0), (23, 1), (23, 2)], 3, 24, .d (.agg [.int .i64 0, .int .u64 0, .int .u64 0])⟩),
  (42, ⟨.int .u64, 1, 8, .d (.int .u64 0)⟩),
  (44, ⟨.func, 1, 8, .nilf⟩),
  (45, ⟨.func, 1, 8, .nilf⟩),
  (46, ⟨.array 32 5, 32, 32, .d (.agg [.int .u8 0, .int .u8 0, .int .u8 0, .int .u8 0, .int .u8 0, .int .u8 0, .int .u8 0, .int .u8 0, .int .u8 0, .int .u8 0, .int .u8 0, .int .u8 0, .int .u8 0, .int .u8 0, .int .u8 0, .int .u8 0, .int .u8 0, .int .u8 0, .int .u8 0, .int .u8 0, .int .u8 0, .int .u8 0, .int .u8 0, .int .u8 0, .int .u8 0, .int .u8 0, .int .u8 0, .int .u8 0, .int .u8 0, .int .u8 0, .int .u8 0, .int .u8 0])⟩),
  (47, ⟨.slice 50, 1, 24, .d .nils⟩),
  (48, ⟨.func, 1, 8, .nilf⟩),
  (49, ⟨.struct [(3, 0), (4, 1), (38, 2)], 3, 40, .d (.agg [.int .i64 0, .bool false, .nils])⟩),
  (50, ⟨.struct [(3, 0), (4, 1), (38, 2)], 3, 40, .d (.agg [.int .i64 0, .bool false, .nils])⟩),
  (51, ⟨.array 5 23, 5, 40, .d (.agg [.int .u64 0, .int .u64 0, .int .u64 0, .int .u64 0, .int .u64 0])⟩),
  (52, ⟨.func, 1, 8, .nilf⟩),
  (53, ⟨.func, 1, 8, .nilf⟩),
  (54, ⟨.func, 1, 8, .nilf⟩),
  (55, ⟨.func, 1, 8, .nilf⟩),
  (56, ⟨.func, 1, 8, .nilf⟩),
  (57, ⟨.func, 1, 8, .nilf⟩),
  (58, ⟨.func, 1, 8, .nilf⟩),
  (59, ⟨.struct [(3, 0), (23, 1)], 2, 16, .d (.agg [.int .i64 0, .int .u64 0])⟩),
  (60, ⟨.struct [(3, 0), (23, 1)], 2, 16, .d (.agg [.int .i64 0, .int .u64 0])⟩),
  (61, ⟨.func, 1, 8, .nilf⟩),
  (62, ⟨.func, 1, 8, .nilf⟩),
  (63, ⟨.func, 1, 8, .nilf⟩),
  (64, ⟨.func, 1, 8, .nilf⟩),
  (65, ⟨.func, 1, 8, .nilf⟩),
  (66, ⟨.func, 1, 8, .nilf⟩),
  (67, ⟨.pointer 71, 1, 8, .d .nilp⟩),
  (68, ⟨.struct [(3, 0), (33, 1), (35, 2)], 3, 56, .d (.agg [.int .i64 0, .nils, .nils])⟩),
  (69, ⟨.struct [(3, 0), (33, 1), (35, 2)], 3, 56, .d (.agg [.int .i64 0, .nils, .nils])⟩),
  (70, ⟨.struct [(69, 0), (30, 3), (32, 4)], 5, 104, .d (.agg [.int .i64 0, .nils, .nils, .nils, .nils])⟩),
  (71, ⟨.struct [(69, 0), (30, 3), (32, 4)], 5, 104, .d (.agg [.int .i64 0, .nils, .nils, .nils, .nils])⟩),
  (72, ⟨.func, 1, 8, .nilf⟩),
  (73, ⟨.func, 1, 8, .nilf⟩),
  (74, ⟨.slice 23, 1, 24, .d .nils⟩),
  (76, ⟨.func, 1, 8, .nilf⟩),
  (77, ⟨.func, 1, 8, .nilf⟩),
  (78, ⟨.func, 1, 8, .nilf⟩),
  (79, ⟨.func, 1, 8, .nilf⟩),
  (80, ⟨.slice 5, 1, 24, .d .nils⟩),
  (81, ⟨.func, 1, 8, .nilf⟩),
  (82, ⟨.func, 1, 8, .nilf⟩),
  (83, ⟨.func, 1, 8, .nilf⟩),
  (84, ⟨.func, 1, 8, .nilf⟩),
  (85, ⟨.func, 1, 8, .nilf⟩),
  (86, ⟨.func, 1, 8, .nilf⟩),
  (87, ⟨.int .u32, 1, 4, .d (.int .u32 0)⟩),
  (88, ⟨.func, 1, 8, .nilf⟩),
  (89, ⟨.func, 1, 8, .nilf⟩),
  (90, ⟨.array 32 5, 32, 32, .d (.agg [.int .u8 0, .int .u8 0, .int .u8 0, .int .u8 0, .int .u8 0, .int .u8 0, .int .u8 0, .int .u8 0, .int .u8 0, .int .u8 0, .int .u8 0, .int .u8 0, .int .u8 0, .int .u8 0, .int .u8 0, .int .u8 0, .int .u8 0, .int .u8 0, .int .u8 0, .int .u8 0, .int .u8 0, .int .u8 0, .int .u8 0, .int .u8 0, .int .u8 0, .int .u8 0, .int .u8 0, .int .u8 0, .int .u8 0, .int .u8 0, .int .u8 0, .int .u8 0])⟩),
  (92, ⟨.func, 1, 8, .nilf⟩),
  (93, ⟨.func, 1, 8, .nilf⟩),
  (94, ⟨.func, 1, 8, .nilf⟩),
  (95, ⟨.func, 1, 8, .nilf⟩),
  (96, ⟨.func, 1, 8, .nilf⟩),
  (97, ⟨.func, 1, 8, .nilf⟩),
  (99, ⟨.func, 1, 8, .nilf⟩),
  (100, ⟨.func, 1, 8, .nilf⟩),
  (101, ⟨.func, 1, 8, .nilf⟩),
  (102, ⟨.func, 1, 8, .nilf⟩),
  (103, ⟨.func, 1, 8, .nilf⟩),
  (104, ⟨.array 12 5, 12, 12, .d (.agg [.int .u8 0, .int .u8 0, .int .u8 0, .int .u8 0, .int .u8 0, .int .u8 0, .int .u8 0, .int .u8 0, .int .u8 0, .int .u8 0, .int .u8 0, .int .u8 0])⟩),
  (105, ⟨.func, 1, 8, .nilf⟩),
  (106, ⟨.func, 1, 8, .nilf⟩),
  (107, ⟨.func, 1, 8, .nilf⟩),
  (108, ⟨.func, 1, 8, .nilf⟩),
  (109, ⟨.pointer 69, 1, 8, .d .nilp⟩),
  (110, ⟨.func, 1, 8, .nilf⟩),
  (111, ⟨.func, 1, 8, .nilf⟩),
  (112, ⟨.func, 1, 8, .nilf⟩),
  (113, ⟨.func, 1, 8, .nilf⟩),
  (114, ⟨.func, 1, 8, .nilf⟩),
  (115, ⟨.func, 1, 8, .nilf⟩),
  (116, ⟨.func, 1, 8, .nilf⟩),
  (117, ⟨.pointer 119, 1, 8, .d .nilp⟩),
  (118, ⟨.struct [(30, 0), (24, 1)], 2, 32, .d (.agg [.nils, .int .i64 0])⟩),
  (119, ⟨.struct [(30, 0), (24, 1)], 2, 32, .d (.agg [.nils, .int .i64 0])⟩),
  (120, ⟨.func, 1, 8, .nilf⟩),
  (121, ⟨.func, 1, 8, .nilf⟩),
  (122, ⟨.func, 1, 8, .nilf⟩),
  (123, ⟨.func, 1, 8, .nilf⟩),
  (124, ⟨.func, 1, 8, .nilf⟩),
  (125, ⟨.func, 1, 8, .nilf⟩),
  (126, ⟨.func, 1, 8, .nilf⟩),
  (127, ⟨.func, 1, 8, .nilf⟩),
  (128, ⟨.int .u64, 1, 8, .d (.int .u64 0)⟩),
  (129, ⟨.array 64 5, 64, 64, .d (.agg [.int .u8 0, .int .u8 0, .int .u8 0, .int .u8 0, .int .u8 0, .int .u8 0, .int .u8 0, .int .u8 0, .int .u8 0, .int .u8 0, .int .u8 0, .int .u8 0, .int .u8 0, .int .u8 0, .int .u8 0, .int .u8 0, .int .u8 0, .int .u8 0, .int .u8 0, .int .u8 0, .int .u8 0, .int .u8 0, .int .u8 0, .int .u8 0, .int .u8 0, .int .u8 0, .int .u8 0, .int .u8 0, .int .u8 0, .int .u8 0, .int .u8 0, .int .u8 0, .int .u8 0, .int .u8 0, .int .u8 0, .int .u8 0, .int .u8 0, .int .u8 0, .int .u8 0, .int .u8 0, .int .u8 0, .int .u8 0, .int .u8 0, .int .u8 0, .int .u8 0, .int .u8 0, .int .u8 0, .int .u8 0, .int .u8 0, .int .u8 0, .int .u8 0, .int .u8 0, .int .u8 0, .int .u8 0, .int .u8 0, .int .u8 0, .int .u8 0, .int .u8 0, .int .u8 0, .int .u8 0, .int .u8 0, .int .u8 0, .int .u8 0, .int .u8 0])⟩),
  (130, ⟨.func, 1, 8, .nilf⟩),
  (131, ⟨.func, 1, 8, .nilf⟩),
  (132, ⟨.func, 1, 8, .nilf⟩),
  (133, ⟨.func, 1, 8, .nilf⟩),
  (134, ⟨.func, 1, 8, .nilf⟩),
  (135, ⟨.func, 1, 8, .nilf⟩),
  (136, ⟨.int .u64, 1, 8, .d (.int .u64 0)⟩),
  (137, ⟨.func, 1, 8, .nilf⟩),
  (138, ⟨.func, 1, 8, .nilf⟩),
  (139, ⟨.func, 1, 8, .nilf⟩),
  (140, ⟨.func, 1, 8, .nilf⟩),
  (141, ⟨.func, 1, 8, .nilf⟩),
  (143, ⟨.func, 1, 8, .nilf⟩),
  (144, ⟨.array 16 31, 16, 64, .d (.agg [.int .u32 0, .int .u32 0, .int .u32 0, .int .u32 0, .int .u32 0, .int .u32 0, .int .u32 0, .int .u32 0, .int .u32 0, .int .u32 0, .int .u32 0, .int .u32 0, .int .u32 0, .int .u32 0, .int .u32 0, .int .u32 0])⟩),
  (145, ⟨.func, 1, 8, .nilf⟩),
  (146, ⟨.func, 1, 8, .nilf⟩),
  (147, ⟨.func, 1, 8, .nilf⟩),
  (148, ⟨.func, 1, 8, .nilf⟩),
  (149, ⟨.func, 1, 8, .nilf⟩),
  (150, ⟨.func, 1, 8, .nilf⟩),
  (151, ⟨.func, 1, 8, .nilf⟩),
  (152, ⟨.func, 1, 8, .nilf⟩),
  (153, ⟨.func, 1, 8, .nilf⟩),
  (154, ⟨.array 16 31, 16, 64, .d (.agg [.int .u32 0, .int .u32 0, .int .u32 0, .int .u32 0, .int .u32 0, .int .u32 0, .int .u32 0, .int .u32 0, .int .u32 0, .int .u32 0, .int .u32 0, .int .u32 0, .int .u32 0, .int .u32 0, .int .u32 0, .int .u32 0])⟩),
  (155, ⟨.func, 1, 8, .nilf⟩),
  (156, ⟨.func, 1, 8, .nilf⟩),
  (157, ⟨.pointer 154, 1, 8, .d .nilp⟩),
  (158, ⟨.func, 1, 8, .nilf⟩),
  (160, ⟨.func, 1, 8, .nilf⟩),
  (162, ⟨.func, 1, 8, .nilf⟩),
  (163, ⟨.func, 1, 8, .nilf⟩),
  (164, ⟨.func, 1, 8, .nilf⟩),
  (165, ⟨.struct [(17, 0), (17, 1), (17, 2), (9, 3)], 4, 40, .d (.agg [.nilp, .nilp, .nilp, .str []])⟩),
  (166, ⟨.struct [(17, 0), (17, 1), (17, 2), (9, 3)], 4, 40, .d (.agg [.nilp, .nilp, .nilp, .str []])⟩),
  (170, ⟨.func, 1, 8, .nilf⟩),
  (171, ⟨.int .u8, 1, 1, .d (.int .u8 0)⟩),
  (172, ⟨.int .u8, 1, 1, .d (.int .u8 0)⟩),
  (173, ⟨.func, 1, 8, .nilf⟩),
  (174, ⟨.pointer 5, 1, 8, .d .nilp⟩),
  (175, ⟨.int .i32, 1, 4, .d (.int .i32 0)⟩),
  (176, ⟨.int .i32, 1, 4, .d (.int .i32 0)⟩)]
def tab (t : TypeId) : Option TI := assoc tabL t
theorem tab_ok : TOk Tryz.prog tab := TOk.ofL rfl (by
  refine TokL.cons ⟨_, _, _, Tryz.underlying1, rfl, Tryz.type1, rfl, rfl, rfl, rfl, rfl, (by simp)⟩ ?_
  refine TokL.cons ⟨_, _, _, Tryz.underlying2, rfl, Tryz.type2, rfl, rfl, rfl, rfl, rfl, (by simp)⟩ ?_
  refine TokL.cons ⟨_, _, _, Tryz.underlying3, rfl, Tryz.type3, rfl, rfl, rfl, rfl, rfl, (by simp)⟩ ?_
  refine TokL.cons ⟨_, _, _, Tryz.underlying4, rfl, Tryz.type4, rfl, rfl, rfl, rfl, rfl, (by simp)⟩ ?_
  refine TokL.cons ⟨_, _, _, Tryz.underlying5, rfl, Tryz.type5, rfl, rfl, rfl, rfl, rfl, (by simp)⟩ ?_
  refine TokL.cons ⟨_, _, _, Tryz.underlying6, rfl, Tryz.type6, rfl, rfl, rfl, rfl, rfl, (by simp)⟩ ?_
  refine TokL.cons ⟨_, _, _, Tryz.underlying7, rfl, Tryz.type7, rfl, rfl, rfl, rfl, rfl, (by simp)⟩ ?_
  refine TokL.cons ⟨_, _, _, Tryz.underlying8, rfl, Tryz.type8, rfl, rfl, rfl, rfl, rfl, (by simp)⟩ ?_
  refine TokL.cons ⟨_, _, _, Tryz.underlying9, rfl, Tryz.type9, rfl, rfl, rfl, rfl, rfl, (by simp)⟩ ?_
  refine TokL.cons ⟨_, _, _, Tryz.underlying10, rfl, Tryz.type10, rfl, rfl, rfl, rfl, rfl, (by simp)⟩ ?_
  refine TokL.cons ⟨_, _, _, Tryz.underlying11, rfl, Tryz.type11, rfl, rfl, rfl, rfl, rfl, (by simp)⟩ ?_
  refine TokL.cons ⟨_, _, _, Tryz.underlying12, rfl, Tryz.type12, rfl, rfl, rfl, rfl, rfl, (by simp)⟩ ?_
  refine TokL.cons ⟨_, _, _, Tryz.underlying13, rfl, Tryz.type13, rfl, rfl, rfl, rfl, rfl, (by simp)⟩ ?_
  refine TokL.cons ⟨_, _, _, Tryz.underlying14, rfl, Tryz.type14, rfl, rfl, rfl, rfl, rfl, (by simp)⟩ ?_
  refine TokL.cons ⟨_, _, _, Tryz.underlying15, rfl, Tryz.type15, rfl, rfl, rfl, rfl, rfl, (by simp)⟩ ?_
  refine TokL.cons ⟨_, _, _, Tryz.underlying16, rfl, Tryz.type16, rfl, rfl, rfl, rfl, rfl, (by simp)⟩ ?_
  refine TokL.cons ⟨_, _, _, Tryz.underlying17, rfl, Tryz.type17, rfl, rfl, rfl, rfl, rfl, (by simp)⟩ ?_
  refine TokL.cons ⟨_, _, _, Tryz.underlying18, rfl, Tryz.type18, rfl, rfl, rfl, rfl, rfl, (by simp)⟩ ?_
  refine TokL.cons ⟨_, _, _, Tryz.underlying19, rfl, Tryz.type19, rfl, rfl, rfl, rfl, rfl, (by simp)⟩ ?_
  refine TokL.cons ⟨_, _, _, Tryz.underlying21, rfl, Tryz.type21, rfl, rfl, rfl, rfl, rfl, (by simp)⟩ ?_
  refine TokL.cons ⟨_, _, _, Tryz.underlying22, rfl, Tryz.type22, rfl, rfl, rfl, rfl, rfl, (by simp)⟩ ?_
  refine TokL.cons ⟨_, _, _, Tryz.underlying23, rfl, Tryz.type23, rfl, rfl, rfl, rfl, rfl, (by simp)⟩ ?_
  refine TokL.cons ⟨_, _, _, Tryz.underlying24, rfl, Tryz.type24, rfl, rfl, rfl, rfl, rfl, (by simp)⟩ ?_
  refine TokL.cons ⟨_, _, _, Tryz.underlying26, rfl, Tryz.type26, rfl, rfl, rfl, rfl, rfl, (by simp)⟩ ?_
  refine TokL.cons ⟨_, _, _, Tryz.underlying27, rfl, Tryz.type27, rfl, rfl, rfl, rfl, rfl, (by simp)⟩ ?_
  refine TokL.cons ⟨_, _, _, Tryz.underlying28, rfl, Tryz.type28, rfl, rfl, rfl, rfl, rfl, (by simp)⟩ ?_
  refine TokL.cons ⟨_, _, _, Tryz.underlying29, rfl, Tryz.type29, rfl, rfl, rfl, rfl, rfl, (by simp)⟩ ?_
  refine TokL.cons ⟨_, _, _, Tryz.underlying30, rfl, Tryz.type30, rfl, rfl, rfl, rfl, rfl, (by simp)⟩ ?_
  refine TokL.cons ⟨_, _, _, Tryz.underlying31, rfl, Tryz.type31, rfl, rfl, rfl, rfl, rfl, (by simp)⟩ ?_
  refine TokL.cons ⟨_, _, _, Tryz.underlying32, rfl, Tryz.type32, rfl, rfl, rfl, rfl, rfl, (by simp)⟩ ?_
  refine TokL.cons ⟨_, _, _, Tryz.underlying33, rfl, Tryz.type33, rfl, rfl, rfl, rfl, rfl, (by simp)⟩ ?_
  refine TokL.cons ⟨_, _, _, Tryz.underlying34, rfl, Tryz.type34, rfl, rfl, rfl, rfl, rfl, (by simp)⟩ ?_
  refine TokL.cons ⟨_, _, _, Tryz.underlying35, rfl, Tryz.type35, rfl, rfl, rfl, rfl, rfl, (by simp)⟩ ?_
  refine TokL.cons ⟨_, _, _, Tryz.underlying36, rfl, Tryz.type36, rfl, rfl, rfl, rfl, rfl, (by simp)⟩ ?_
  refine TokL.cons ⟨_, _, _, Tryz.underlying37, rfl, Tryz.type37, rfl, rfl, rfl, rfl, rfl, (by simp)⟩ ?_
  refine TokL.cons ⟨_, _, _, Tryz.underlying38, rfl, Tryz.type38, rfl, rfl, rfl, rfl, rfl, (by simp)⟩ ?_
  refine TokL.cons ⟨_, _, _, Tryz.underlying39, rfl, Tryz.type39, rfl, rfl, rfl, rfl, rfl, (by simp)⟩ ?_
  refine TokL.cons ⟨_, _, _, Tryz.underlying40, rfl, Tryz.type40, rfl, rfl, rfl, rfl, rfl, (by simp)⟩ ?_
  refine TokL.cons ⟨_, _, _, Tryz.underlying41, rfl, Tryz.type41, rfl, rfl, rfl, rfl, rfl, (by simp)⟩ ?_
  refine TokL.cons ⟨_, _, _, Tryz.underlying42, rfl, Tryz.type42, rfl, rfl, rfl, rfl, rfl, (by simp)⟩ ?_
  refine TokL.cons ⟨_, _, _, Tryz.underlying44, rfl, Tryz.type44, rfl, rfl, rfl, rfl, rfl, (by simp)⟩ ?_
  refine TokL.cons ⟨_, _, _, Tryz.underlying45, rfl, Tryz.type45, rfl, rfl, rfl, rfl, rfl, (by simp)⟩ ?_
  refine TokL.cons ⟨_, _, _, Tryz.underlying46, rfl, Tryz.type46, rfl, rfl, rfl, rfl, rfl, (by simp)⟩ ?_
  refine TokL.cons ⟨_, _, _, Tryz.underlying47, rfl, Tryz.type47, rfl, rfl, rfl, rfl, rfl, (by simp)⟩ ?_
  refine TokL.cons ⟨_, _, _, Tryz.underlying48, rfl, Tryz.type48, rfl, rfl, rfl, rfl, rfl, (by simp)⟩ ?_
  refine TokL.cons ⟨_, _, _, Tryz.underlying49, rfl, Tryz.type49, rfl, rfl, rfl, rfl, rfl, (by simp)⟩ ?_
  refine TokL.cons ⟨_, _, _, Tryz.underlying50, rfl, Tryz.type50, rfl, rfl, rfl, rfl, rfl, (by simp)⟩ ?_
  refine TokL.cons ⟨_, _, _, Tryz.underlying51, rfl, Tryz.type51, rfl, rfl, rfl, rfl, rfl, (by simp)⟩ ?_
  refine TokL.cons ⟨_, _, _, Tryz.underlying52, rfl, Tryz.type52, rfl, rfl, rfl, rfl, rfl, (by simp)⟩ ?_
  refine TokL.cons ⟨_, _, _, Tryz.underlying53, rfl, Tryz.type53, rfl, rfl, rfl, rfl, rfl, (by simp)⟩ ?_
  refine TokL.cons ⟨_, _, _, Tryz.underlying54, rfl, Tryz.type54, rfl, rfl, rfl, rfl, rfl, (by simp)⟩ ?_
  refine TokL.cons ⟨_, _, _, Tryz.underlying55, rfl, Tryz.type55, rfl, rfl, rfl, rfl, rfl, (by simp)⟩ ?_
  refine TokL.cons ⟨_, _, _, Tryz.underlying56, rfl, Tryz.type56, rfl, rfl, rfl, rfl, rfl, (by simp)⟩ ?_
  refine TokL.cons ⟨_, _, _, Tryz.underlying57, rfl, Tryz.type57, rfl, rfl, rfl, rfl, rfl, (by simp)⟩ ?_
  refine TokL.cons ⟨_, _, _, Tryz.underlying58, rfl, Tryz.type58, rfl, rfl, rfl, rfl, rfl, (by simp)⟩ ?_
  refine TokL.cons ⟨_, _, _, Tryz.underlying59, rfl, Tryz.type59, rfl, rfl, rfl, rfl, rfl, (by simp)⟩ ?_
  refine TokL.cons ⟨_, _, _, Tryz.underlying60, rfl, Tryz.type60, rfl, rfl, rfl, rfl, rfl, (by simp)⟩ ?_
  refine TokL.cons ⟨_, _, _, Tryz.underlying61, rfl, Tryz.type61, rfl, rfl, rfl, rfl, rfl, (by simp)⟩ ?_
  refine TokL.cons ⟨_, _, _, Tryz.underlying62, rfl, Tryz.type62, rfl, rfl, rfl, rfl, rfl, (by simp)⟩ ?_
  refine TokL.cons ⟨_, _, _, Tryz.underlying63, rfl, Tryz.type63, rfl, rfl, rfl, rfl, rfl, (by simp)⟩ ?_
  refine TokL.cons ⟨_, _, _, Tryz.underlying64, rfl, Tryz.type64, rfl, rfl, rfl, rfl, rfl, (by simp)⟩ ?_
  refine TokL.cons ⟨_, _, _, Tryz.underlying65, rfl, Tryz.type65, rfl, rfl, rfl, rfl, rfl, (by simp)⟩ ?_
  refine TokL.cons ⟨_, _, _, Tryz.underlying66, rfl, Tryz.type66, rfl, rfl, rfl, rfl, rfl, (by simp)⟩ ?_
  refine TokL.cons ⟨_, _, _, Tryz.underlying67, rfl, Tryz.type67, rfl, rfl, rfl, rfl, rfl, (by simp)⟩ ?_
  refine TokL.cons ⟨_, _, _, Tryz.underlying68, rfl, Tryz.type68, rfl, rfl, rfl, rfl, rfl, (by simp)⟩ ?_
  refine TokL.cons ⟨_, _, _, Tryz.underlying69, rfl, Tryz.type69, rfl, rfl, rfl, rfl, rfl, (by simp)⟩ ?_
  refine TokL.cons ⟨_, _, _, Tryz.underlying70, rfl, Tryz.type70, rfl, rfl, rfl, rfl, rfl, (by simp)⟩ ?_
  refine TokL.cons ⟨_, _, _, Tryz.underlying71, rfl, Tryz.type71, rfl, rfl, rfl, rfl, rfl, (by simp)⟩ ?_
  refine TokL.cons ⟨_, _, _, Tryz.underlying72, rfl, Tryz.type72, rfl, rfl, rfl, rfl, rfl, (by simp)⟩ ?_
  refine TokL.cons ⟨_, _, _, Tryz.underlying73, rfl, Tryz.type73, rfl, rfl, rfl, rfl, rfl, (by simp)⟩ ?_
  refine TokL.cons ⟨_, _, _, Tryz.underlying74, rfl, Tryz.type74, rfl, rfl, rfl, rfl, rfl, (by simp)⟩ ?_
  refine TokL.cons ⟨_, _, _, Tryz.underlying76, rfl, Tryz.type76, rfl, rfl, rfl, rfl, rfl, (by simp)⟩ ?_
  refine TokL.cons ⟨_, _, _, Tryz.underlying77, rfl, Tryz.type77, rfl, rfl, rfl, rfl, rfl, (by simp)⟩ ?_
  refine TokL.cons ⟨_, _, _, Tryz.underlying78, rfl, Tryz.type78, rfl, rfl, rfl, rfl, rfl, (by simp)⟩ ?_
  refine TokL.cons ⟨_, _, _, Tryz.underlying79, rfl, Tryz.type79, rfl, rfl, rfl, rfl, rfl, (by simp)⟩ ?_
  refine TokL.cons ⟨_, _, _, Tryz.underlying80, rfl, Tryz.type80, rfl, rfl, rfl, rfl, rfl, (by simp)⟩ ?_
  refine TokL.cons ⟨_, _, _, Tryz.underlying81, rfl, Tryz.type81, rfl, rfl, rfl, rfl, rfl, (by simp)⟩ ?_
  refine TokL.cons ⟨_, _, _, Tryz.underlying82, rfl, Tryz.type82, rfl, rfl, rfl, rfl, rfl, (by simp)⟩ ?_
  refine TokL.cons ⟨_, _, _, Tryz.underlying83, rfl, Tryz.type83, rfl, rfl, rfl, rfl, rfl, (by simp)⟩ ?_
  refine TokL.cons ⟨_, _, _, Tryz.underlying84, rfl, Tryz.type84, rfl, rfl, rfl, rfl, rfl, (by simp)⟩ ?_
  refine TokL.cons ⟨_, _, _, Tryz.underlying85, rfl, Tryz.type85, rfl, rfl, rfl, rfl, rfl, (by simp)⟩ ?_
  refine TokL.cons ⟨_, _, _, Tryz.underlying86, rfl, Tryz.type86, rfl, rfl, rfl, rfl, rfl, (by simp)⟩ ?_
  refine TokL.cons ⟨_, _, _, Tryz.underlying87, rfl, Tryz.type87, rfl, rfl, rfl, rfl, rfl, (by simp)⟩ ?_
  refine TokL.cons ⟨_, _, _, Tryz.underlying88, rfl, Tryz.type88, rfl, rfl, rfl, rfl, rfl, (by simp)⟩ ?_
  refine TokL.cons ⟨_, _, _, Tryz.underlying89, rfl, Tryz.type89, rfl, rfl, rfl, rfl, rfl, (by simp)⟩ ?_
  refine TokL.cons ⟨_, _, _, Tryz.underlying90, rfl, Tryz.type90, rfl, rfl, rfl, rfl, rfl, (by simp)⟩ ?_
  refine TokL.cons ⟨_, _, _, Tryz.underlying92, rfl, Tryz.type92, rfl, rfl, rfl, rfl, rfl, (by simp)⟩ ?_
  refine TokL.cons ⟨_, _, _, Tryz.underlying93, rfl, Tryz.type93, rfl, rfl, rfl, rfl, rfl, (by simp)⟩ ?_
  refine TokL.cons ⟨_, _, _, Tryz.underlying94, rfl, Tryz.type94, rfl, rfl, rfl, rfl, rfl, (by simp)⟩ ?_
  refine TokL.cons ⟨_, _, _, Tryz.underlying95, rfl, Tryz.type95, rfl, rfl, rfl, rfl, rfl, (by simp)⟩ ?_
  refine TokL.cons ⟨_, _, _, Tryz.underlying96, rfl, Tryz.type96, rfl, rfl, rfl, rfl, rfl, (by simp)⟩ ?_
  refine TokL.cons ⟨_, _, _, Tryz.underlying97, rfl, Tryz.type97, rfl, rfl, rfl, rfl, rfl, (by simp)⟩ ?_
  refine TokL.cons ⟨_, _, _, Tryz.underlying99, rfl, Tryz.type99, rfl, rfl, rfl, rfl, rfl, (by simp)⟩ ?_
  refine TokL.cons ⟨_, _, _, Tryz.underlying100, rfl, Tryz.type100, rfl, rfl, rfl, rfl, rfl, (by simp)⟩ ?_
  refine TokL.cons ⟨_, _, _, Tryz.underlying101, rfl, Tryz.type101, rfl, rfl, rfl, rfl, rfl, (by simp)⟩ ?_
  refine TokL.cons ⟨_, _, _, Tryz.underlying102, rfl, Tryz.type102, rfl, rfl, rfl, rfl, rfl, (by simp)⟩ ?_
  refine TokL.cons ⟨_, _, _, Tryz.underlying103, rfl, Tryz.type103, rfl, rfl, rfl, rfl, rfl, (by simp)⟩ ?_
  refine TokL.cons ⟨_, _, _, Tryz.underlying104, rfl, Tryz.type104, rfl, rfl, rfl, rfl, rfl, (by simp)⟩ ?_
  refine TokL.cons ⟨_, _, _, Tryz.underlying105, rfl, Tryz.type105, rfl, rfl, rfl, rfl, rfl, (by simp)⟩ ?_
  refine TokL.cons ⟨_, _, _, Tryz.underlying106, rfl, Tryz.type106, rfl, rfl, rfl, rfl, rfl, (by simp)⟩ ?_
  refine TokL.cons ⟨_, _, _, Tryz.underlying107, rfl, Tryz.type107, rfl, rfl, rfl, rfl, rfl, (by simp)⟩ ?_
  refine TokL.cons ⟨_, _, _, Tryz.underlying108, rfl, Tryz.type108, rfl, rfl, rfl, rfl, rfl, (by simp)⟩ ?_
  refine TokL.cons ⟨_, _, _, Tryz.underlying109, rfl, Tryz.type109, rfl, rfl, rfl, rfl, rfl, (by simp)⟩ ?_
  refine TokL.cons ⟨_, _, _, Tryz.underlying110, rfl, Tryz.type110, rfl, rfl, rfl, rfl, rfl, (by simp)⟩ ?_
  refine TokL.cons ⟨_, _, _, Tryz.underlying111, rfl, Tryz.type111, rfl, rfl, rfl, rfl, rfl, (by simp)⟩ ?_
  refine TokL.cons ⟨_, _, _, Tryz.underlying112, rfl, Tryz.type112, rfl, rfl, rfl, rfl, rfl, (by simp)⟩ ?_
  refine TokL.cons ⟨_, _, _, Tryz.underlying113, rfl, Tryz.type113, rfl, rfl, rfl, rfl, rfl, (by simp)⟩ ?_
  refine TokL.cons ⟨_, _, _, Tryz.underlying114, rfl, Tryz.type114, rfl, rfl, rfl, rfl, rfl, (by simp)⟩ ?_
  refine TokL.cons ⟨_, _, _, Tryz.underlying115, rfl, Tryz.type115, rfl, rfl, rfl, rfl, rfl, (by simp)⟩ ?_
  refine TokL.cons ⟨_, _, _, Tryz.underlying116, rfl, Tryz.type116, rfl, rfl, rfl, rfl, rfl, (by simp)⟩ ?_
  refine TokL.cons ⟨_, _, _, Tryz.underlying117, rfl, Tryz.type117, rfl, rfl, rfl, rfl, rfl, (by simp)⟩ ?_
  refine TokL.cons ⟨_, _, _, Tryz.underlying118, rfl, Tryz.type118, rfl, rfl, rfl, rfl, rfl, (by simp)⟩ ?_
  refine TokL.cons ⟨_, _, _, Tryz.underlying119, rfl, Tryz.type119, rfl, rfl, rfl, rfl, rfl, (by simp)⟩ ?_
  refine TokL.cons ⟨_, _, _, Tryz.underlying120, rfl, Tryz.type120, rfl, rfl, rfl, rfl, rfl, (by simp)⟩ ?_
  refine TokL.cons ⟨_, _, _, Tryz.underlying121, rfl, Tryz.type121, rfl, rfl, rfl, rfl, rfl, (by simp)⟩ ?_
  refine TokL.cons ⟨_, _, _, Tryz.underlying122, rfl, Tryz.type122, rfl, rfl, rfl, rfl, rfl, (by simp)⟩ ?_
  refine TokL.cons ⟨_, _, _, Tryz.underlying123, rfl, Tryz.type123, rfl, rfl, rfl, rfl, rfl, (by simp)⟩ ?_
  refine TokL.cons ⟨_, _, _, Tryz.underlying124, rfl, Tryz.type124, rfl, rfl, rfl, rfl, rfl, (by simp)⟩ ?_
  refine TokL.cons ⟨_, _, _, Tryz.underlying125, rfl, Tryz.type125, rfl, rfl, rfl, rfl, rfl, (by simp)⟩ ?_
  refine TokL.cons ⟨_, _, _, Tryz.underlying126, rfl, Tryz.type126, rfl, rfl, rfl, rfl, rfl, (by simp)⟩ ?_
  refine TokL.cons ⟨_, _, _, Tryz.underlying127, rfl, Tryz.type127, rfl, rfl, rfl, rfl, rfl, (by simp)⟩ ?_
  refine TokL.cons ⟨_, _, _, Tryz.underlying128, rfl, Tryz.type128, rfl, rfl, rfl, rfl, rfl, (by simp)⟩ ?_
  refine TokL.cons ⟨_, _, _, Tryz.underlying129, rfl, Tryz.type129, rfl, rfl, rfl, rfl, rfl, (by simp)⟩ ?_
  refine TokL.cons ⟨_, _, _, Tryz.underlying130, rfl, Tryz.type130, rfl, rfl, rfl, rfl, rfl, (by simp)⟩ ?_
  refine TokL.cons ⟨_, _, _, Tryz.underlying131, rfl, Tryz.type131, rfl, rfl, rfl, rfl, rfl, (by simp)⟩ ?_
  refine TokL.cons ⟨_, _, _, Tryz.underlying132, rfl, Tryz.type132, rfl, rfl, rfl, rfl, rfl, (by simp)⟩ ?_
  refine TokL.cons ⟨_, _, _, Tryz.underlying133, rfl, Tryz.type133, rfl, rfl, rfl, rfl, rfl, (by simp)⟩ ?_
  refine TokL.cons ⟨_, _, _, Tryz.underlying134, rfl, Tryz.type134, rfl, rfl, rfl, rfl, rfl, (by simp)⟩ ?_
  refine TokL.cons ⟨_, _, _, Tryz.underlying135, rfl, Tryz.type135, rfl, rfl, rfl, rfl, rfl, (by simp)⟩ ?_
  refine TokL.cons ⟨_, _, _, Tryz.underlying136, rfl, Tryz.type136, rfl, rfl, rfl, rfl, rfl, (by simp)⟩ ?_
  refine TokL.cons ⟨_, _, _, Tryz.underlying137, rfl, Tryz.type137, rfl, rfl, rfl, rfl, rfl, (by simp)⟩ ?_
  refine TokL.cons ⟨_, _, _, Tryz.underlying138, rfl, Tryz.type138, rfl, rfl, rfl, rfl, rfl, (by simp)⟩ ?_
  refine TokL.cons ⟨_, _, _, Tryz.underlying139, rfl, Tryz.type139, rfl, rfl, rfl, rfl, rfl, (by simp)⟩ ?_
  refine TokL.cons ⟨_, _, _, Tryz.underlying140, rfl, Tryz.type140, rfl, rfl, rfl, rfl, rfl, (by simp)⟩ ?_
  refine TokL.cons ⟨_, _, _, Tryz.underlying141, rfl, Tryz.type141, rfl, rfl, rfl, rfl, rfl, (by simp)⟩ ?_
  refine TokL.cons ⟨_, _, _, Tryz.underlying143, rfl, Tryz.type143, rfl, rfl, rfl, rfl, rfl, (by simp)⟩ ?_
  refine TokL.cons ⟨_, _, _, Tryz.underlying144, rfl, Tryz.type144, rfl, rfl, rfl, rfl, rfl, (by simp)⟩ ?_
  refine TokL.cons ⟨_, _, _, Tryz.underlying145, rfl, Tryz.type145, rfl, rfl, rfl, rfl, rfl, (by simp)⟩ ?_
  refine TokL.cons ⟨_, _, _, Tryz.underlying146, rfl, Tryz.type146, rfl, rfl, rfl, rfl, rfl, (by simp)⟩ ?_
  refine TokL.cons ⟨_, _, _, Tryz.underlying147, rfl, Tryz.type147, rfl, rfl, rfl, rfl, rfl, (by simp)⟩ ?_
  refine TokL.cons ⟨_, _, _, Tryz.underlying148, rfl, Tryz.type148, rfl, rfl, rfl, rfl, rfl, (by simp)⟩ ?_
  refine TokL.cons ⟨_, _, _, Tryz.underlying149, rfl, Tryz.type149, rfl, rfl, rfl, rfl, rfl, (by simp)⟩ ?_
  refine TokL.cons ⟨_, _, _, Tryz.underlying150, rfl, Tryz.type150, rfl, rfl, rfl, rfl, rfl, (by simp)⟩ ?_
  refine TokL.cons ⟨_, _, _, Tryz.underlying151, rfl, Tryz.type151, rfl, rfl, rfl, rfl, rfl, (by simp)⟩ ?_
  refine TokL.cons ⟨_, _, _, Tryz.underlying152, rfl, Tryz.type152, rfl, rfl, rfl, rfl, rfl, (by simp)⟩ ?_
  refine TokL.cons ⟨_, _, _, Tryz.underlying153, rfl, Tryz.type153, rfl, rfl, rfl, rfl, rfl, (by simp)⟩ ?_
  refine TokL.cons ⟨_, _, _, Tryz.underlying154, rfl, Tryz.type154, rfl, rfl, rfl, rfl, rfl, (by simp)⟩ ?_
  refine TokL.cons ⟨_, _, _, Tryz.underlying155, rfl, Tryz.type155, rfl, rfl, rfl, rfl, rfl, (by simp)⟩ ?_
  refine TokL.cons ⟨_, _, _, Tryz.underlying156, rfl, Tryz.type156, rfl, rfl, rfl, rfl, rfl, (by simp)⟩ ?_
  refine TokL.cons ⟨_, _, _, Tryz.underlying157, rfl, Tryz.type157, rfl, rfl, rfl, rfl, rfl, (by simp)⟩ ?_
  refine TokL.cons ⟨_, _, _, Tryz.underlying158, rfl, Tryz.type158, rfl, rfl, rfl, rfl, rfl, (by simp)⟩ ?_
  refine TokL.cons ⟨_, _, _, Tryz.underlying160, rfl, Tryz.type160, rfl, rfl, rfl, rfl, rfl, (by simp)⟩ ?_
  refine TokL.cons ⟨_, _, _, Tryz.underlying162, rfl, Tryz.type162, rfl, rfl, rfl, rfl, rfl, (by simp)⟩ ?_
  refine TokL.cons ⟨_, _, _, Tryz.underlying163, rfl, Tryz.type163, rfl, rfl, rfl, rfl, rfl, (by simp)⟩ ?_
  refine TokL.cons ⟨_, _, _, Tryz.underlying164, rfl, Tryz.type164, rfl, rfl, rfl, rfl, rfl, (by simp)⟩ ?_
  refine TokL.cons ⟨_, _, _, Tryz.underlying165, rfl, Tryz.type165, rfl, rfl, rfl, rfl, rfl, (by simp)⟩ ?_
  refine TokL.cons ⟨_, _, _, Tryz.underlying166, rfl, Tryz.type166, rfl, rfl, rfl, rfl, rfl, (by simp)⟩ ?_
  refine TokL.cons ⟨_, _, _, Tryz.underlying170, rfl, Tryz.type170, rfl, rfl, rfl, rfl, rfl, (by simp)⟩ ?_
  refine TokL.cons ⟨_, _, _, Tryz.underlying171, rfl, Tryz.type171, rfl, rfl, rfl, rfl, rfl, (by simp)⟩ ?_
  refine TokL.cons ⟨_, _, _, Tryz.underlying172, rfl, Tryz.type172, rfl, rfl, rfl, rfl, rfl, (by simp)⟩ ?_
  refine TokL.cons ⟨_, _, _, Tryz.underlying173, rfl, Tryz.type173, rfl, rfl, rfl, rfl, rfl, (by simp)⟩ ?_
  refine TokL.cons ⟨_, _, _, Tryz.underlying174, rfl, Tryz.type174, rfl, rfl, rfl, rfl, rfl, (by simp)⟩ ?_
  refine TokL.cons ⟨_, _, _, Tryz.underlying175, rfl, Tryz.type175, rfl, rfl, rfl, rfl, rfl, (by simp)⟩ ?_
  refine TokL.cons ⟨_, _, _, Tryz.underlying176, rfl, Tryz.type176, rfl, rfl, rfl, rfl, rfl, (by simp)⟩ ?_
  exact TokL.nil)
def own (f : FuncId) : Nat := bif Nat.beq f 107 then 1 else 0
noncomputable abbrev E (N m : Nat) (rs : List ResultVar) (j l : List (Nat × List Nat)) (g : List (Nat × List Gst)) : Env := ⟨Tryz.prog, tab, N, own, m, rs, j, l, g⟩
end Go.Proofs.YtofkdfodehfpdaaGreat
