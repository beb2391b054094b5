/- The types of this program, as a table. -/
import Derived.Test.YtklfieidipobpaaDoorProg
import Derived.Test.YtklfieidipobpaaDoorJuF
set_option linter.unusedVariables false
set_option linter.unusedSimpArgs false
set_option linter.unnecessarySimpa false
set_option linter.unusedSectionVars false
set_option linter.all false
/- The types of this program, as a table. -/
namespace Go.Proofs.YtklfieidipobpaaDoor
open Go.V
set_option maxRecDepth 100000
def tabL : List (Nat × TI) := [
  (1, ⟨.func, 1, 8, .nilf⟩),
  (2, ⟨.int .i64, 1, 8, .d (.int .i64 0)⟩),
  (3, ⟨.int .i64, 1, 8, .d (.int .i64 0)⟩),
  (4, ⟨.bool, 1, 1, .d (.bool false)⟩),
  (5, ⟨.int .u8, 1, 1, .d (.int .u8 0)⟩),
  (6, ⟨.int .u8, 1, 1, .d (.int .u8 0)⟩),
  (7, ⟨.struct [(2, 0), (3, 1), (4, 2), (6, 3)], 4, 24, .d (.agg [.int .i64 0, .int .i64 0, .bool false, .int .u8 0])⟩),
  (8, ⟨.struct [(2, 0), (3, 1), (4, 2), (6, 3)], 4, 24, .d (.agg [.int .i64 0, .int .i64 0, .bool false, .int .u8 0])⟩),
  (9, ⟨.string, 1, 16, .d (.str [])⟩),
  (10, ⟨.string, 1, 16, .d (.str [])⟩),
  (11, ⟨.string, 1, 16, .d (.str [])⟩),
  (12, ⟨.int .u64, 1, 8, .d (.int .u64 0)⟩),
  (13, ⟨.struct [(9, 0), (12, 1)], 2, 24, .d (.agg [.str [], .int .u64 0])⟩),
  (14, ⟨.struct [(9, 0), (12, 1)], 2, 24, .d (.agg [.str [], .int .u64 0])⟩),
  (15, ⟨.pointer 142, 1, 8, .d .nilp⟩),
  (16, ⟨.pointer 145, 1, 8, .d .nilp⟩),
  (17, ⟨.pointer 152, 1, 8, .d .nilp⟩),
  (18, ⟨.struct [(17, 0)], 1, 8, .d (.agg [.nilp])⟩),
  (19, ⟨.struct [(17, 0)], 1, 8, .d (.agg [.nilp])⟩),
  (20, ⟨.iface, 1, 16, .ifc true⟩),
  (21, ⟨.int .i32, 1, 4, .d (.int .i32 0)⟩),
  (22, ⟨.struct [(3, 0), (3, 1), (3, 2)], 3, 24, .d (.agg [.int .i64 0, .int .i64 0, .int .i64 0])⟩),
  (23, ⟨.struct [(3, 0), (3, 1), (3, 2)], 3, 24, .d (.agg [.int .i64 0, .int .i64 0, .int .i64 0])⟩),
  (24, ⟨.int .i64, 1, 8, .d (.int .i64 0)⟩),
  (26, ⟨.func, 1, 8, .nilf⟩),
  (28, ⟨.func, 1, 8, .nilf⟩),
  (29, ⟨.func, 1, 8, .nilf⟩),
  (31, ⟨.func, 1, 8, .nilf⟩),
  (32, ⟨.func, 1, 8, .nilf⟩),
  (33, ⟨.func, 1, 8, .nilf⟩),
  (34, ⟨.slice 23, 1, 24, .d .nils⟩),
  (36, ⟨.func, 1, 8, .nilf⟩),
  (37, ⟨.slice 3, 1, 24, .d .nils⟩),
  (38, ⟨.struct [(3, 0), (3, 1), (3, 2), (37, 3)], 4, 48, .d (.agg [.int .i64 0, .int .i64 0, .int .i64 0, .nils])⟩),
  (39, ⟨.struct [(3, 0), (3, 1), (3, 2), (37, 3)], 4, 48, .d (.agg [.int .i64 0, .int .i64 0, .int .i64 0, .nils])⟩),
  (40, ⟨.struct [(3, 0), (3, 1), (3, 2), (39, 3)], 7, 72, .d (.agg [.int .i64 0, .int .i64 0, .int .i64 0, .int .i64 0, .int .i64 0, .int .i64 0, .nils])⟩),
  (41, ⟨.struct [(3, 0), (3, 1), (3, 2), (39, 3)], 7, 72, .d (.agg [.int .i64 0, .int .i64 0, .int .i64 0, .int .i64 0, .int .i64 0, .int .i64 0, .nils])⟩),
  (42, ⟨.func, 1, 8, .nilf⟩),
  (44, ⟨.func, 1, 8, .nilf⟩),
  (45, ⟨.func, 1, 8, .nilf⟩),
  (46, ⟨.func, 1, 8, .nilf⟩),
  (47, ⟨.func, 1, 8, .nilf⟩),
  (48, ⟨.func, 1, 8, .nilf⟩),
  (49, ⟨.func, 1, 8, .nilf⟩),
  (50, ⟨.struct [(9, 0), (3, 1)], 2, 24, .d (.agg [.str [], .int .i64 0])⟩),
  (51, ⟨.struct [(9, 0), (3, 1)], 2, 24, .d (.agg [.str [], .int .i64 0])⟩),
  (53, ⟨.func, 1, 8, .nilf⟩),
  (54, ⟨.array 2 3, 2, 16, .d (.agg [.int .i64 0, .int .i64 0])⟩),
  (55, ⟨.func, 1, 8, .nilf⟩),
  (56, ⟨.slice 9, 1, 24, .d .nils⟩),
  (57, ⟨.func, 1, 8, .nilf⟩),
  (58, ⟨.func, 1, 8, .nilf⟩),
  (59, ⟨.iface, 1, 16, .ifc true⟩),
  (60, ⟨.iface, 1, 16, .ifc true⟩),
  (62, ⟨.func, 1, 8, .nilf⟩),
  (63, ⟨.func, 1, 8, .nilf⟩),
  (64, ⟨.func, 1, 8, .nilf⟩),
  (65, ⟨.func, 1, 8, .nilf⟩),
  (66, ⟨.func, 1, 8, .nilf⟩),
  (67, ⟨.slice 72, 1, 24, .d .nils⟩),
  (68, ⟨.func, 1, 8, .nilf⟩),
  (69, ⟨.pointer 41, 1, 8, .d .nilp⟩),
  (70, ⟨.pointer 3, 1, 8, .d .nilp⟩),
  (71, ⟨.struct [(9, 0), (70, 1)], 2, 24, .d (.agg [.str [], .nilp])⟩),
  (72, ⟨.struct [(9, 0), (70, 1)], 2, 24, .d (.agg [.str [], .nilp])⟩),
  (73, ⟨.func, 1, 8, .nilf⟩),
  (74, ⟨.pointer 76, 1, 8, .d .nilp⟩),
  (75, ⟨.struct [(56, 0), (4, 1)], 2, 32, .d (.agg [.nils, .bool false])⟩),
  (76, ⟨.struct [(56, 0), (4, 1)], 2, 32, .d (.agg [.nils, .bool false])⟩),
  (77, ⟨.func, 1, 8, .nilf⟩),
  (78, ⟨.func, 1, 8, .nilf⟩),
  (79, ⟨.func, 1, 8, .nilf⟩),
  (80, ⟨.func, 1, 8, .nilf⟩),
  (81, ⟨.func, 1, 8, .nilf⟩),
  (82, ⟨.pointer 85, 1, 8, .d .nilp⟩),
  (83, ⟨.slice 5, 1, 24, .d .nils⟩),
  (84, ⟨.struct [(82, 0), (83, 1)], 2, 32, .d (.agg [.nilp, .nils])⟩),
  (85, ⟨.struct [(82, 0), (83, 1)], 2, 32, .d (.agg [.nilp, .nils])⟩),
  (86, ⟨.func, 1, 8, .nilf⟩),
  (87, ⟨.int .u64, 1, 8, .d (.int .u64 0)⟩),
  (88, ⟨.func, 1, 8, .nilf⟩),
  (89, ⟨.func, 1, 8, .nilf⟩),
  (90, ⟨.func, 1, 8, .nilf⟩),
  (91, ⟨.func, 1, 8, .nilf⟩),
  (92, ⟨.pointer 5, 1, 8, .d .nilp⟩),
  (93, ⟨.func, 1, 8, .nilf⟩),
  (94, ⟨.func, 1, 8, .nilf⟩),
  (95, ⟨.int .i64, 1, 8, .d (.int .i64 0)⟩),
  (97, ⟨.func, 1, 8, .nilf⟩),
  (98, ⟨.pointer 113, 1, 8, .d .nilp⟩),
  (99, ⟨.func, 1, 8, .nilf⟩),
  (100, ⟨.func, 1, 8, .nilf⟩),
  (101, ⟨.func, 1, 8, .nilf⟩),
  (102, ⟨.func, 1, 8, .nilf⟩),
  (104, ⟨.func, 1, 8, .nilf⟩),
  (105, ⟨.func, 1, 8, .nilf⟩),
  (107, ⟨.func, 1, 8, .nilf⟩),
  (109, ⟨.func, 1, 8, .nilf⟩),
  (110, ⟨.int .u64, 1, 8, .d (.int .u64 0)⟩),
  (111, ⟨.func, 1, 8, .nilf⟩),
  (114, ⟨.func, 1, 8, .nilf⟩),
  (115, ⟨.array 24 5, 24, 24, .d (.agg [.int .u8 0, .int .u8 0, .int .u8 0, .int .u8 0, .int .u8 0, .int .u8 0, .int .u8 0, .int .u8 0, .int .u8 0, .int .u8 0, .int .u8 0, .int .u8 0, .int .u8 0, .int .u8 0, .int .u8 0, .int .u8 0, .int .u8 0, .int .u8 0, .int .u8 0, .int .u8 0, .int .u8 0, .int .u8 0, .int .u8 0, .int .u8 0])⟩),
  (116, ⟨.func, 1, 8, .nilf⟩),
  (117, ⟨.func, 1, 8, .nilf⟩),
  (119, ⟨.func, 1, 8, .nilf⟩),
  (120, ⟨.func, 1, 8, .nilf⟩),
  (121, ⟨.func, 1, 8, .nilf⟩),
  (122, ⟨.func, 1, 8, .nilf⟩),
  (123, ⟨.pointer 125, 1, 8, .d .nilp⟩),
  (124, ⟨.struct [(9, 0)], 1, 16, .d (.agg [.str []])⟩),
  (125, ⟨.struct [(9, 0)], 1, 16, .d (.agg [.str []])⟩),
  (126, ⟨.func, 1, 8, .nilf⟩),
  (127, ⟨.array 20 87, 20, 160, .d (.agg [.int .u64 0, .int .u64 0, .int .u64 0, .int .u64 0, .int .u64 0, .int .u64 0, .int .u64 0, .int .u64 0, .int .u64 0, .int .u64 0, .int .u64 0, .int .u64 0, .int .u64 0, .int .u64 0, .int .u64 0, .int .u64 0, .int .u64 0, .int .u64 0, .int .u64 0, .int .u64 0])⟩),
  (128, ⟨.int .u32, 1, 4, .d (.int .u32 0)⟩),
  (129, ⟨.array 65 5, 65, 65, .d (.agg [.int .u8 0, .int .u8 0, .int .u8 0, .int .u8 0, .int .u8 0, .int .u8 0, .int .u8 0, .int .u8 0, .int .u8 0, .int .u8 0, .int .u8 0, .int .u8 0, .int .u8 0, .int .u8 0, .int .u8 0, .int .u8 0, .int .u8 0, .int .u8 0, .int .u8 0, .int .u8 0, .int .u8 0, .int .u8 0, .int .u8 0, .int .u8 0, .int .u8 0, .int .u8 0, .int .u8 0, .int .u8 0, .int .u8 0, .int .u8 0, .int .u8 0, .int .u8 0, .int .u8 0, .int .u8 0, .int .u8 0, .int .u8 0, .int .u8 0, .int .u8 0, .int .u8 0, .int .u8 0, .int .u8 0, .int .u8 0, .int .u8 0, .int .u8 0, .int .u8 0, .int .u8 0, .int .u8 0, .int .u8 0, .int .u8 0, .int .u8 0, .int .u8 0, .int .u8 0, .int .u8 0, .int .u8 0, .int .u8 0, .int .u8 0, .int .u8 0, .int .u8 0, .int .u8 0, .int .u8 0, .int .u8 0, .int .u8 0, .int .u8 0, .int .u8 0, .int .u8 0])⟩),
  (130, ⟨.func, 1, 8, .nilf⟩),
  (131, ⟨.func, 1, 8, .nilf⟩),
  (132, ⟨.array 256 5, 256, 256, .d (.agg [.int .u8 0, .int .u8 0, .int .u8 0, .int .u8 0, .int .u8 0, .int .u8 0, .int .u8 0, .int .u8 0, .int .u8 0, .int .u8 0, .int .u8 0, .int .u8 0, .int .u8 0, .int .u8 0, .int .u8 0, .int .u8 0, .int .u8 0, .int .u8 0, .int .u8 0, .int .u8 0, .int .u8 0, .int .u8 0, .int .u8 0, .int .u8 0, .int .u8 0, .int .u8 0, .int .u8 0, .int .u8 0, .int .u8 0, .int .u8 0, .int .u8 0, .int .u8 0, .int .u8 0, .int .u8 0, .int .u8 0, .int .u8 0, .int .u8 0, .int .u8 0, .int .u8 0, .int .u8 0, .int .u8 0, .int .u8 0, .int .u8 0, .int .u8 0, .int .u8 0, .int .u8 0, .int .u8 0, .int .u8 0, .int .u8 0, .int .u8 0, .int .u8 0, .int .u8 0, .int .u8 0, .int .u8 0, .int .u8 0, .int .u8 0, .int .u8 0, .int .u8 0, .int .u8 0, .int .u8 0, .int .u8 0, .int .u8 0, .int .u8 0, .int .u8 0, .int .u8 0, .int .u8 0, .int .u8 0, .int .u8 0, .int .u8 0, .int .u8 0, .int .u8 0, .int .u8 0, .int .u8 0, .int .u8 0, .int .u8 0, .int .u8 0, .int .u8 0, .int .u8 0, .int .u8 0, .int .u8 0, .int .u8 0, .int .u8 0, .int .u8 0, .int .u8 0, .int .u8 0, .int .u8 0, .int .u8 0, .int .u8 0, .int .u8 0, .int .u8 0, .int .u8 0, .int .u8 0, .int .u8 0, .int .u8 0, .int .u8 0, .int .u8 0, .int .u8 0, .int .u8 0, .int .u8 0, .int .u8 0, .int .u8 0, .int .u8 0, .int .u8 0, .int .u8 0, .int .u8 0, .int .u8 0, .int .u8 0, .int .u8 0, .int .u8 0, .int .u8 0, .int .u8 0, .int .u8 0, .int .u8 0, .int .u8 0, .int .u8 0, .int .u8 0, .int .u8 0, .int .u8 0, .int .u8 0, .int .u8 0, .int .u8 0, .int .u8 0, .int .u8 0, .int .u8 0, .int .u8 0, .int .u8 0, .int .u8 0, .int .u8 0, .int .u8 0, .int .u8 0, .int .u8 0, .int .u8 0, .int .u8 0, .int .u8 0, .int .u8 0, .int .u8 0, .int .u8 0, .int .u8 0, .int .u8 0, .int .u8 0, .int .u8 0, .int .u8 0, .int .u8 0, .int .u8 0, .int .u8 0, .int .u8 0, .int .u8 0, .int .u8 0, .int .u8 0, .int .u8 0, .int .u8 0, .int .u8 0, .int .u8 0, .int .u8 0, .int .u8 0, .int .u8 0, .int .u8 0, .int .u8 0, .int .u8 0, .int .u8 0, .int .u8 0, .int .u8 0, .int .u8 0, .int .u8 0, .int .u8 0, .int .u8 0, .int .u8 0, .int .u8 0, .int .u8 0, .int .u8 0, .int .u8 0, .int .u8 0, .int .u8 0, .int .u8 0, .int .u8 0, .int .u8 0, .int .u8 0, .int .u8 0, .int .u8 0, .int .u8 0, .int .u8 0, .int .u8 0, .int .u8 0, .int .u8 0, .int .u8 0, .int .u8 0, .int .u8 0, .int .u8 0, .int .u8 0, .int .u8 0, .int .u8 0, .int .u8 0, .int .u8 0, .int .u8 0, .int .u8 0, .int .u8 0, .int .u8 0, .int .u8 0, .int .u8 0, .int .u8 0, .int .u8 0, .int .u8 0, .int .u8 0, .int .u8 0, .int .u8 0, .int .u8 0, .int .u8 0, .int .u8 0, .int .u8 0, .int .u8 0, .int .u8 0, .int .u8 0, .int .u8 0, .int .u8 0, .int .u8 0, .int .u8 0, .int .u8 0, .int .u8 0, .int .u8 0, .int .u8 0, .int .u8 0, .int .u8 0, .int .u8 0, .int .u8 0, .int .u8 0, .int .u8 0, .int .u8 0, .int .u8 0, .int .u8 0, .int .u8 0, .int .u8 0, .int .u8 0, .int .u8 0, .int .u8 0, .int .u8 0, .int .u8 0, .int .u8 0, .int .u8 0, .int .u8 0, .int .u8 0, .int .u8 0, .int .u8 0, .int .u8 0, .int .u8 0, .int .u8 0, .int .u8 0, .int .u8 0, .int .u8 0, .int .u8 0, .int .u8 0, .int .u8 0, .int .u8 0, .int .u8 0, .int .u8 0, .int .u8 0, .int .u8 0])⟩),
  (133, ⟨.struct [(5, 0), (5, 1)], 2, 2, .d (.agg [.int .u8 0, .int .u8 0])⟩),
  (134, ⟨.struct [(5, 0), (5, 1)], 2, 2, .d (.agg [.int .u8 0, .int .u8 0])⟩),
  (135, ⟨.array 16 134, 32, 32, .d (.agg [.int .u8 0, .int .u8 0, .int .u8 0, .int .u8 0, .int .u8 0, .int .u8 0, .int .u8 0, .int .u8 0, .int .u8 0, .int .u8 0, .int .u8 0, .int .u8 0, .int .u8 0, .int .u8 0, .int .u8 0, .int .u8 0, .int .u8 0, .int .u8 0, .int .u8 0, .int .u8 0, .int .u8 0, .int .u8 0, .int .u8 0, .int .u8 0, .int .u8 0, .int .u8 0, .int .u8 0, .int .u8 0, .int .u8 0, .int .u8 0, .int .u8 0, .int .u8 0])⟩),
  (137, ⟨.func, 1, 8, .nilf⟩),
  (138, ⟨.func, 1, 8, .nilf⟩),
  (139, ⟨.array 32 5, 32, 32, .d (.agg [.int .u8 0, .int .u8 0, .int .u8 0, .int .u8 0, .int .u8 0, .int .u8 0, .int .u8 0, .int .u8 0, .int .u8 0, .int .u8 0, .int .u8 0, .int .u8 0, .int .u8 0, .int .u8 0, .int .u8 0, .int .u8 0, .int .u8 0, .int .u8 0, .int .u8 0, .int .u8 0, .int .u8 0, .int .u8 0, .int .u8 0, .int .u8 0, .int .u8 0, .int .u8 0, .int .u8 0, .int .u8 0, .int .u8 0, .int .u8 0, .int .u8 0, .int .u8 0])⟩),
  (140, ⟨.array 64 5, 64, 64, .d (.agg [.int .u8 0, .int .u8 0, .int .u8 0, .int .u8 0, .int .u8 0, .int .u8 0, .int .u8 0, .int .u8 0, .int .u8 0, .int .u8 0, .int .u8 0, .int .u8 0, .int .u8 0, .int .u8 0, .int .u8 0, .int .u8 0, .int .u8 0, .int .u8 0, .int .u8 0, .int .u8 0, .int .u8 0, .int .u8 0, .int .u8 0, .int .u8 0, .int .u8 0, .int .u8 0, .int .u8 0, .int .u8 0, .int .u8 0, .int .u8 0, .int .u8 0, .int .u8 0, .int .u8 0, .int .u8 0, .int .u8 0, .int .u8 0, .int .u8 0, .int .u8 0, .int .u8 0, .int .u8 0, .int .u8 0, .int .u8 0, .int .u8 0, .int .u8 0, .int .u8 0, .int .u8 0, .int .u8 0, .int .u8 0, .int .u8 0, .int .u8 0, .int .u8 0, .int .u8 0, .int .u8 0, .int .u8 0, .int .u8 0, .int .u8 0, .int .u8 0, .int .u8 0, .int .u8 0, .int .u8 0, .int .u8 0, .int .u8 0, .int .u8 0, .int .u8 0])⟩),
  (141, ⟨.struct [(17, 0), (17, 1), (17, 2), (9, 3)], 4, 40, .d (.agg [.nilp, .nilp, .nilp, .str []])⟩),
  (142, ⟨.struct [(17, 0), (17, 1), (17, 2), (9, 3)], 4, 40, .d (.agg [.nilp, .nilp, .nilp, .str []])⟩),
  (146, ⟨.int .u8, 1, 1, .d (.int .u8 0)⟩),
  (147, ⟨.int .u8, 1, 1, .d (.int .u8 0)⟩),
  (148, ⟨.func, 1, 8, .nilf⟩),
  (149, ⟨.int .i32, 1, 4, .d (.int .i32 0)⟩),
  (150, ⟨.int .i32, 1, 4, .d (.int .i32 0)⟩)]
def tab (t : TypeId) : Option TI := assoc tabL t
theorem tab_ok : TOk Tryd.prog tab := TOk.ofL rfl (by
  refine TokL.cons ⟨_, _, _, Tryd.underlying1, rfl, Tryd.type1, rfl, rfl, rfl, rfl, rfl, (by simp)⟩ ?_
  refine TokL.cons ⟨_, _, _, Tryd.underlying2, rfl, Tryd.type2, rfl, rfl, rfl, rfl, rfl, (by simp)⟩ ?_
  refine TokL.cons ⟨_, _, _, Tryd.underlying3, rfl, Tryd.type3, rfl, rfl, rfl, rfl, rfl, (by simp)⟩ ?_
  refine TokL.cons ⟨_, _, _, Tryd.underlying4, rfl, Tryd.type4, rfl, rfl, rfl, rfl, rfl, (by simp)⟩ ?_
  refine TokL.cons ⟨_, _, _, Tryd.underlying5, rfl, Tryd.type5, rfl, rfl, rfl, rfl, rfl, (by simp)⟩ ?_
  refine TokL.cons ⟨_, _, _, Tryd.underlying6, rfl, Tryd.type6, rfl, rfl, rfl, rfl, rfl, (by simp)⟩ ?_
  refine TokL.cons ⟨_, _, _, Tryd.underlying7, rfl, Tryd.type7, rfl, rfl, rfl, rfl, rfl, (by simp)⟩ ?_
  refine TokL.cons ⟨_, _, _, Tryd.underlying8, rfl, Tryd.type8, rfl, rfl, rfl, rfl, rfl, (by simp)⟩ ?_
  refine TokL.cons ⟨_, _, _, Tryd.underlying9, rfl, Tryd.type9, rfl, rfl, rfl, rfl, rfl, (by simp)⟩ ?_
  refine TokL.cons ⟨_, _, _, Tryd.underlying10, rfl, Tryd.type10, rfl, rfl, rfl, rfl, rfl, (by simp)⟩ ?_
  refine TokL.cons ⟨_, _, _, Tryd.underlying11, rfl, Tryd.type11, rfl, rfl, rfl, rfl, rfl, (by simp)⟩ ?_
  refine TokL.cons ⟨_, _, _, Tryd.underlying12, rfl, Tryd.type12, rfl, rfl, rfl, rfl, rfl, (by simp)⟩ ?_
  refine TokL.cons ⟨_, _, _, Tryd.underlying13, rfl, Tryd.type13, rfl, rfl, rfl, rfl, rfl, (by simp)⟩ ?_
  refine TokL.cons ⟨_, _, _, Tryd.underlying14, rfl, Tryd.type14, rfl, rfl, rfl, rfl, rfl, (by simp)⟩ ?_
  refine TokL.cons ⟨_, _, _, Tryd.underlying15, rfl, Tryd.type15, rfl, rfl, rfl, rfl, rfl, (by simp)⟩ ?_
  refine TokL.cons ⟨_, _, _, Tryd.underlying16, rfl, Tryd.type16, rfl, rfl, rfl, rfl, rfl, (by simp)⟩ ?_
  refine TokL.cons ⟨_, _, _, Tryd.underlying17, rfl, Tryd.type17, rfl, rfl, rfl, rfl, rfl, (by simp)⟩ ?_
  refine TokL.cons ⟨_, _, _, Tryd.underlying18, rfl, Tryd.type18, rfl, rfl, rfl, rfl, rfl, (by simp)⟩ ?_
  refine TokL.cons ⟨_, _, _, Tryd.underlying19, rfl, Tryd.type19, rfl, rfl, rfl, rfl, rfl, (by simp)⟩ ?_
  refine TokL.cons ⟨_, _, _, Tryd.underlying20, rfl, Tryd.type20, rfl, rfl, rfl, rfl, rfl, (by simp)⟩ ?_
  refine TokL.cons ⟨_, _, _, Tryd.underlying21, rfl, Tryd.type21, rfl, rfl, rfl, rfl, rfl, (by simp)⟩ ?_
  refine TokL.cons ⟨_, _, _, Tryd.underlying22, rfl, Tryd.type22, rfl, rfl, rfl, rfl, rfl, (by simp)⟩ ?_
  refine TokL.cons ⟨_, _, _, Tryd.underlying23, rfl, Tryd.type23, rfl, rfl, rfl, rfl, rfl, (by simp)⟩ ?_
  refine TokL.cons ⟨_, _, _, Tryd.underlying24, rfl, Tryd.type24, rfl, rfl, rfl, rfl, rfl, (by simp)⟩ ?_
  refine TokL.cons ⟨_, _, _, Tryd.underlying26, rfl, Tryd.type26, rfl, rfl, rfl, rfl, rfl, (by simp)⟩ ?_
  refine TokL.cons ⟨_, _, _, Tryd.underlying28, rfl, Tryd.type28, rfl, rfl, rfl, rfl, rfl, (by simp)⟩ ?_
  refine TokL.cons ⟨_, _, _, Tryd.underlying29, rfl, Tryd.type29, rfl, rfl, rfl, rfl, rfl, (by simp)⟩ ?_
  refine TokL.cons ⟨_, _, _, Tryd.underlying31, rfl, Tryd.type31, rfl, rfl, rfl, rfl, rfl, (by simp)⟩ ?_
  refine TokL.cons ⟨_, _, _, Tryd.underlying32, rfl, Tryd.type32, rfl, rfl, rfl, rfl, rfl, (by simp)⟩ ?_
  refine TokL.cons ⟨_, _, _, Tryd.underlying33, rfl, Tryd.type33, rfl, rfl, rfl, rfl, rfl, (by simp)⟩ ?_
  refine TokL.cons ⟨_, _, _, Tryd.underlying34, rfl, Tryd.type34, rfl, rfl, rfl, rfl, rfl, (by simp)⟩ ?_
  refine TokL.cons ⟨_, _, _, Tryd.underlying36, rfl, Tryd.type36, rfl, rfl, rfl, rfl, rfl, (by simp)⟩ ?_
  refine TokL.cons ⟨_, _, _, Tryd.underlying37, rfl, Tryd.type37, rfl, rfl, rfl, rfl, rfl, (by simp)⟩ ?_
  refine TokL.cons ⟨_, _, _, Tryd.underlying38, rfl, Tryd.type38, rfl, rfl, rfl, rfl, rfl, (by simp)⟩ ?_
  refine TokL.cons ⟨_, _, _, Tryd.underlying39, rfl, Tryd.type39, rfl, rfl, rfl, rfl, rfl, (by simp)⟩ ?_
  refine TokL.cons ⟨_, _, _, Tryd.underlying40, rfl, Tryd.type40, rfl, rfl, rfl, rfl, rfl, (by simp)⟩ ?_
  refine TokL.cons ⟨_, _, _, Tryd.underlying41, rfl, Tryd.type41, rfl, rfl, rfl, rfl, rfl, (by simp)⟩ ?_
  refine TokL.cons ⟨_, _, _, Tryd.underlying42, rfl, Tryd.type42, rfl, rfl, rfl, rfl, rfl, (by simp)⟩ ?_
  refine TokL.cons ⟨_, _, _, Tryd.underlying44, rfl, Tryd.type44, rfl, rfl, rfl, rfl, rfl, (by simp)⟩ ?_
  refine TokL.cons ⟨_, _, _, Tryd.underlying45, rfl, Tryd.type45, rfl, rfl, rfl, rfl, rfl, (by simp)⟩ ?_
  refine TokL.cons ⟨_, _, _, Tryd.underlying46, rfl, Tryd.type46, rfl, rfl, rfl, rfl, rfl, (by simp)⟩ ?_
  refine TokL.cons ⟨_, _, _, Tryd.underlying47, rfl, Tryd.type47, rfl, rfl, rfl, rfl, rfl, (by simp)⟩ ?_
  refine TokL.cons ⟨_, _, _, Tryd.underlying48, rfl, Tryd.type48, rfl, rfl, rfl, rfl, rfl, (by simp)⟩ ?_
  refine TokL.cons ⟨_, _, _, Tryd.underlying49, rfl, Tryd.type49, rfl, rfl, rfl, rfl, rfl, (by simp)⟩ ?_
  refine TokL.cons ⟨_, _, _, Tryd.underlying50, rfl, Tryd.type50, rfl, rfl, rfl, rfl, rfl, (by simp)⟩ ?_
  refine TokL.cons ⟨_, _, _, Tryd.underlying51, rfl, Tryd.type51, rfl, rfl, rfl, rfl, rfl, (by simp)⟩ ?_
  refine TokL.cons ⟨_, _, _, Tryd.underlying53, rfl, Tryd.type53, rfl, rfl, rfl, rfl, rfl, (by simp)⟩ ?_
  refine TokL.cons ⟨_, _, _, Tryd.underlying54, rfl, Tryd.type54, rfl, rfl, rfl, rfl, rfl, (by simp)⟩ ?_
  refine TokL.cons ⟨_, _, _, Tryd.underlying55, rfl, Tryd.type55, rfl, rfl, rfl, rfl, rfl, (by simp)⟩ ?_
  refine TokL.cons ⟨_, _, _, Tryd.underlying56, rfl, Tryd.type56, rfl, rfl, rfl, rfl, rfl, (by simp)⟩ ?_
  refine TokL.cons ⟨_, _, _, Tryd.underlying57, rfl, Tryd.type57, rfl, rfl, rfl, rfl, rfl, (by simp)⟩ ?_
  refine TokL.cons ⟨_, _, _, Tryd.underlying58, rfl, Tryd.type58, rfl, rfl, rfl, rfl, rfl, (by simp)⟩ ?_
  refine TokL.cons ⟨_, _, _, Tryd.underlying59, rfl, Tryd.type59, rfl, rfl, rfl, rfl, rfl, (by simp)⟩ ?_
  refine TokL.cons ⟨_, _, _, Tryd.underlying60, rfl, Tryd.type60, rfl, rfl, rfl, rfl, rfl, (by simp)⟩ ?_
  refine TokL.cons ⟨_, _, _, Tryd.underlying62, rfl, Tryd.type62, rfl, rfl, rfl, rfl, rfl, (by simp)⟩ ?_
  refine TokL.cons ⟨_, _, _, Tryd.underlying63, rfl, Tryd.type63, rfl, rfl, rfl, rfl, rfl, (by simp)⟩ ?_
  refine TokL.cons ⟨_, _, _, Tryd.underlying64, rfl, Tryd.type64, rfl, rfl, rfl, rfl, rfl, (by simp)⟩ ?_
  refine TokL.cons ⟨_, _, _, Tryd.underlying65, rfl, Tryd.type65, rfl, rfl, rfl, rfl, rfl, (by simp)⟩ ?_
  refine TokL.cons ⟨_, _, _, Tryd.underlying66, rfl, Tryd.type66, rfl, rfl, rfl, rfl, rfl, (by simp)⟩ ?_
  refine TokL.cons ⟨_, _, _, Tryd.underlying67, rfl, Tryd.type67, rfl, rfl, rfl, rfl, rfl, (by simp)⟩ ?_
  refine TokL.cons ⟨_, _, _, Tryd.underlying68, rfl, Tryd.type68, rfl, rfl, rfl, rfl, rfl, (by simp)⟩ ?_
  refine TokL.cons ⟨_, _, _, Tryd.underlying69, rfl, Tryd.type69, rfl, rfl, rfl, rfl, rfl, (by simp)⟩ ?_
  refine TokL.cons ⟨_, _, _, Tryd.underlying70, rfl, Tryd.type70, rfl, rfl, rfl, rfl, rfl, (by simp)⟩ ?_
  refine TokL.cons ⟨_, _, _, Tryd.underlying71, rfl, Tryd.type71, rfl, rfl, rfl, rfl, rfl, (by simp)⟩ ?_
  refine TokL.cons ⟨_, _, _, Tryd.underlying72, rfl, Tryd.type72, rfl, rfl, rfl, rfl, rfl, (by simp)⟩ ?_
  refine TokL.cons ⟨_, _, _, Tryd.underlying73, rfl, Tryd.type73, rfl, rfl, rfl, rfl, rfl, (by simp)⟩ ?_
  refine TokL.cons ⟨_, _, _, Tryd.underlying74, rfl, Tryd.type74, rfl, rfl, rfl, rfl, rfl, (by simp)⟩ ?_
  refine TokL.cons ⟨_, _, _, Tryd.underlying75, rfl, Tryd.type75, rfl, rfl, rfl, rfl, rfl, (by simp)⟩ ?_
  refine TokL.cons ⟨_, _, _, Tryd.underlying76, rfl, Tryd.type76, rfl, rfl, rfl, rfl, rfl, (by simp)⟩ ?_
  refine TokL.cons ⟨_, _, _, Tryd.underlying77, rfl, Tryd.type77, rfl, rfl, rfl, rfl, rfl, (by simp)⟩ ?_
  refine TokL.cons ⟨_, _, _, Tryd.underlying78, rfl, Tryd.type78, rfl, rfl, rfl, rfl, rfl, (by simp)⟩ ?_
  refine TokL.cons ⟨_, _, _, Tryd.underlying79, rfl, Tryd.type79, rfl, rfl, rfl, rfl, rfl, (by simp)⟩ ?_
  refine TokL.cons ⟨_, _, _, Tryd.underlying80, rfl, Tryd.type80, rfl, rfl, rfl, rfl, rfl, (by simp)⟩ ?_
  refine TokL.cons ⟨_, _, _, Tryd.underlying81, rfl, Tryd.type81, rfl, rfl, rfl, rfl, rfl, (by simp)⟩ ?_
  refine TokL.cons ⟨_, _, _, Tryd.underlying82, rfl, Tryd.type82, rfl, rfl, rfl, rfl, rfl, (by simp)⟩ ?_
  refine TokL.cons ⟨_, _, _, Tryd.underlying83, rfl, Tryd.type83, rfl, rfl, rfl, rfl, rfl, (by simp)⟩ ?_
  refine TokL.cons ⟨_, _, _, Tryd.underlying84, rfl, Tryd.type84, rfl, rfl, rfl, rfl, rfl, (by simp)⟩ ?_
  refine TokL.cons ⟨_, _, _, Tryd.underlying85, rfl, Tryd.type85, rfl, rfl, rfl, rfl, rfl, (by simp)⟩ ?_
  refine TokL.cons ⟨_, _, _, Tryd.underlying86, rfl, Tryd.type86, rfl, rfl, rfl, rfl, rfl, (by simp)⟩ ?_
  refine TokL.cons ⟨_, _, _, Tryd.underlying87, rfl, Tryd.type87, rfl, rfl, rfl, rfl, rfl, (by simp)⟩ ?_
  refine TokL.cons ⟨_, _, _, Tryd.underlying88, rfl, Tryd.type88, rfl, rfl, rfl, rfl, rfl, (by simp)⟩ ?_
  refine TokL.cons ⟨_, _, _, Tryd.underlying89, rfl, Tryd.type89, rfl, rfl, rfl, rfl, rfl, (by simp)⟩ ?_
  refine TokL.cons ⟨_, _, _, Tryd.underlying90, rfl, Tryd.type90, rfl, rfl, rfl, rfl, rfl, (by simp)⟩ ?_
  refine TokL.cons ⟨_, _, _, Tryd.underlying91, rfl, Tryd.type91, rfl, rfl, rfl, rfl, rfl, (by simp)⟩ ?_
  refine TokL.cons ⟨_, _, _, Tryd.underlying92, rfl, Tryd.type92, rfl, rfl, rfl, rfl, rfl, (by simp)⟩ ?_
  refine TokL.cons ⟨_, _, _, Tryd.underlying93, rfl, Tryd.type93, rfl, rfl, rfl, rfl, rfl, (by simp)⟩ ?_
  refine TokL.cons ⟨_, _, _, Tryd.underlying94, rfl, Tryd.type94, rfl, rfl, rfl, rfl, rfl, (by simp)⟩ ?_
  refine TokL.cons ⟨_, _, _, Tryd.underlying95, rfl, Tryd.type95, rfl, rfl, rfl, rfl, rfl, (by simp)⟩ ?_
  refine TokL.cons ⟨_, _, _, Tryd.underlying97, rfl, Tryd.type97, rfl, rfl, rfl, rfl, rfl, (by simp)⟩ ?_
  refine TokL.cons ⟨_, _, _, Tryd.underlying98, rfl, Tryd.type98, rfl, rfl, rfl, rfl, rfl, (by simp)⟩ ?_
  refine TokL.cons ⟨_, _, _, Tryd.underlying99, rfl, Tryd.type99, rfl, rfl, rfl, rfl, rfl, (by simp)⟩ ?_
  refine TokL.cons ⟨_, _, _, Tryd.underlying100, rfl, Tryd.type100, rfl, rfl, rfl, rfl, rfl, (by simp)⟩ ?_
  refine TokL.cons ⟨_, _, _, Tryd.underlying101, rfl, Tryd.type101, rfl, rfl, rfl, rfl, rfl, (by simp)⟩ ?_
  refine TokL.cons ⟨_, _, _, Tryd.underlying102, rfl, Tryd.type102, rfl, rfl, rfl, rfl, rfl, (by simp)⟩ ?_
  refine TokL.cons ⟨_, _, _, Tryd.underlying104, rfl, Tryd.type104, rfl, rfl, rfl, rfl, rfl, (by simp)⟩ ?_
  refine TokL.cons ⟨_, _, _, Tryd.underlying105, rfl, Tryd.type105, rfl, rfl, rfl, rfl, rfl, (by simp)⟩ ?_
  refine TokL.cons ⟨_, _, _, Tryd.underlying107, rfl, Tryd.type107, rfl, rfl, rfl, rfl, rfl, (by simp)⟩ ?_
  refine TokL.cons ⟨_, _, _, Tryd.underlying109, rfl, Tryd.type109, rfl, rfl, rfl, rfl, rfl, (by simp)⟩ ?_
  refine TokL.cons ⟨_, _, _, Tryd.underlying110, rfl, Tryd.type110, rfl, rfl, rfl, rfl, rfl, (by simp)⟩ ?_
  refine TokL.cons ⟨_, _, _, Tryd.underlying111, rfl, Tryd.type111, rfl, rfl, rfl, rfl, rfl, (by simp)⟩ ?_
  refine TokL.cons ⟨_, _, _, Tryd.underlying114, rfl, Tryd.type114, rfl, rfl, rfl, rfl, rfl, (by simp)⟩ ?_
  refine TokL.cons ⟨_, _, _, Tryd.underlying115, rfl, Tryd.type115, rfl, rfl, rfl, rfl, rfl, (by simp)⟩ ?_
  refine TokL.cons ⟨_, _, _, Tryd.underlying116, rfl, Tryd.type116, rfl, rfl, rfl, rfl, rfl, (by simp)⟩ ?_
  refine TokL.cons ⟨_, _, _, Tryd.underlying117, rfl, Tryd.type117, rfl, rfl, rfl, rfl, rfl, (by simp)⟩ ?_
  refine TokL.cons ⟨_, _, _, Tryd.underlying119, rfl, Tryd.type119, rfl, rfl, rfl, rfl, rfl, (by simp)⟩ ?_
  refine TokL.cons ⟨_, _, _, Tryd.underlying120, rfl, Tryd.type120, rfl, rfl, rfl, rfl, rfl, (by simp)⟩ ?_
  refine TokL.cons ⟨_, _, _, Tryd.underlying121, rfl, Tryd.type121, rfl, rfl, rfl, rfl, rfl, (by simp)⟩ ?_
  refine TokL.cons ⟨_, _, _, Tryd.underlying122, rfl, Tryd.type122, rfl, rfl, rfl, rfl, rfl, (by simp)⟩ ?_
  refine TokL.cons ⟨_, _, _, Tryd.underlying123, rfl, Tryd.type123, rfl, rfl, rfl, rfl, rfl, (by simp)⟩ ?_
  refine TokL.cons ⟨_, _, _, Tryd.underlying124, rfl, Tryd.type124, rfl, rfl, rfl, rfl, rfl, (by simp)⟩ ?_
  refine TokL.cons ⟨_, _, _, Tryd.underlying125, rfl, Tryd.type125, rfl, rfl, rfl, rfl, rfl, (by simp)⟩ ?_
  refine TokL.cons ⟨_, _, _, Tryd.underlying126, rfl, Tryd.type126, rfl, rfl, rfl, rfl, rfl, (by simp)⟩ ?_
  refine TokL.cons ⟨_, _, _, Tryd.underlying127, rfl, Tryd.type127, rfl, rfl, rfl, rfl, rfl, (by simp)⟩ ?_
  refine TokL.cons ⟨_, _, _, Tryd.underlying128, rfl, Tryd.type128, rfl, rfl, rfl, rfl, rfl, (by simp)⟩ ?_
  refine TokL.cons ⟨_, _, _, Tryd.underlying129, rfl, Tryd.type129, rfl, rfl, rfl, rfl, rfl, (by simp)⟩ ?_
  refine TokL.cons ⟨_, _, _, Tryd.underlying130, rfl, Tryd.type130, rfl, rfl, rfl, rfl, rfl, (by simp)⟩ ?_
  refine TokL.cons ⟨_, _, _, Tryd.underlying131, rfl, Tryd.type131, rfl, rfl, rfl, rfl, rfl, (by simp)⟩ ?_
  refine TokL.cons ⟨_, _, _, Tryd.underlying132, rfl, Tryd.type132, rfl, rfl, rfl, rfl, rfl, (by simp)⟩ ?_
  refine TokL.cons ⟨_, _, _, Tryd.underlying133, rfl, Tryd.type133, rfl, rfl, rfl, rfl, rfl, (by simp)⟩ ?_
  refine TokL.cons ⟨_, _, _, Tryd.underlying134, rfl, Tryd.type134, rfl, rfl, rfl, rfl, rfl, (by simp)⟩ ?_
  refine TokL.cons ⟨_, _, _, Tryd.underlying135, rfl, Tryd.type135, rfl, rfl, rfl, rfl, rfl, (by simp)⟩ ?_
  refine TokL.cons ⟨_, _, _, Tryd.underlying137, rfl, Tryd.type137, rfl, rfl, rfl, rfl, rfl, (by simp)⟩ ?_
  refine TokL.cons ⟨_, _, _, Tryd.underlying138, rfl, Tryd.type138, rfl, rfl, rfl, rfl, rfl, (by simp)⟩ ?_
  refine TokL.cons ⟨_, _, _, Tryd.underlying139, rfl, Tryd.type139, rfl, rfl, rfl, rfl, rfl, (by simp)⟩ ?_
  refine TokL.cons ⟨_, _, _, Tryd.underlying140, rfl, Tryd.type140, rfl, rfl, rfl, rfl, rfl, (by simp)⟩ ?_
  refine TokL.cons ⟨_, _, _, Tryd.underlying141, rfl, Tryd.type141, rfl, rfl, rfl, rfl, rfl, (by simp)⟩ ?_
  refine TokL.cons ⟨_, _, _, Tryd.underlying142, rfl, Tryd.type142, rfl, rfl, rfl, rfl, rfl, (by simp)⟩ ?_
  refine TokL.cons ⟨_, _, _, Tryd.underlying146, rfl, Tryd.type146, rfl, rfl, rfl, rfl, rfl, (by simp)⟩ ?_
  refine TokL.cons ⟨_, _, _, Tryd.underlying147, rfl, Tryd.type147, rfl, rfl, rfl, rfl, rfl, (by simp)⟩ ?_
  refine TokL.cons ⟨_, _, _, Tryd.underlying148, rfl, Tryd.type148, rfl, rfl, rfl, rfl, rfl, (by simp)⟩ ?_
  refine TokL.cons ⟨_, _, _, Tryd.underlying149, rfl, Tryd.type149, rfl, rfl, rfl, rfl, rfl, (by simp)⟩ ?_
  refine TokL.cons ⟨_, _, _, Tryd.underlying150, rfl, Tryd.type150, rfl, rfl, rfl, rfl, rfl, (by simp)⟩ ?_
  exact TokL.nil)
def own (f : FuncId) : Nat := 0
noncomputable abbrev E (N m : Nat) (rs : List ResultVar) (j l : List (Nat × List Nat)) (g : List (Nat × List Gst)) : Env := ⟨Tryd.prog, tab, N, own, m, rs, j, l, g⟩
end Go.Proofs.YtklfieidipobpaaDoor
