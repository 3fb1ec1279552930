/- The configuration of this seat. -/
import Derived.Test.YtbhnbgelkemhiaaSymE
set_option linter.unusedVariables false
namespace Go.Sym.T22
abbrev S0 : Ty := (.pair .str (.pair (.int .u64) .unit))
abbrev S1 : Ty := (.pair (.int .i64) (.pair (.int .i64) (.pair .bool (.pair (.int .u8) .unit))))
abbrev S2 : Ty := (.pair (.int .i64) (.pair (.int .i64) (.pair (.int .i64) (.pair (.slice (.int .i64)) .unit))))
abbrev S3 : Ty := (.pair (.slice S2) .unit)
def cfg : Cfg where
  ty := [(2, (.int .i64)), (3, (.int .i64)), (4, .bool), (5, (.int .u8)), (6, (.int .u8)), (7, S1), (8, S1), (9, .str), (10, .str), (11, .str), (12, (.int .u64)), (13, S0), (14, S0), (21, (.int .i32)), (30, (.slice (.int .i64))), (31, S2), (32, S2), (35, (.slice S2)), (36, S3), (37, S3), (38, (.int .i64)), (42, (.slice (.slice (.int .i64)))), (48, (.map (.int .i64) .bool)), (56, (.slice (.int .i64))), (66, (.slice .bool)), (69, (.map .str (.int .i64))), (77, (.int .u64)), (89, (.int .i64)), (96, (.int .u32)), (98, (.int .u64)), (99, (.slice (.int .u8))), (101, (.map (.int .i64) (.int .i64))), (102, (.int .u64)), (117, (.int .u8)), (118, (.int .u8)), (121, (.int .i32)), (122, (.int .i32))]
  one := [1, 15, 16, 17, 22, 23, 24, 25, 26, 27, 28, 29, 34, 40, 41, 43, 44, 45, 46, 47, 48, 49, 50, 51, 52, 55, 57, 58, 59, 60, 62, 64, 65, 67, 68, 69, 72, 74, 75, 76, 78, 79, 80, 81, 82, 83, 84, 85, 86, 87, 88, 91, 92, 93, 94, 95, 97, 100, 101, 103, 104, 105, 106, 107, 108, 110, 111, 119, 120]
  pt := [15, 16, 17, 22, 51, 106, 108, 120]
  fld := [(7, [(0, 2), (1, 3), (2, 4), (3, 6)]), (8, [(0, 2), (1, 3), (2, 4), (3, 6)]), (13, [(0, 9), (1, 12)]), (14, [(0, 9), (1, 12)]), (18, [(0, 17)]), (19, [(0, 17)]), (31, [(0, 3), (1, 3), (2, 3), (3, 30)]), (32, [(0, 3), (1, 3), (2, 3), (3, 30)]), (36, [(0, 35)]), (37, [(0, 35)]), (53, [(0, 51)]), (54, [(0, 51)]), (70, [(0, 3), (1, 35), (2, 69)]), (71, [(0, 3), (1, 35), (2, 69)]), (112, [(0, 17), (1, 17), (2, 17), (3, 9)]), (113, [(0, 17), (1, 17), (2, 17), (3, 9)]), (123, [(0, 12), (1, 12), (2, 96), (3, 117), (4, 5), (5, 5), (6, 118), (7, 119), (8, 120), (9, 121), (10, 122)]), (124, [(0, 12), (1, 12), (2, 96), (3, 117), (4, 5), (5, 5), (6, 118), (7, 119), (8, 120), (9, 121), (10, 122)])]
  zs := [(2, [.sv (.v (.int .i64) (0 : Int))]), (3, [.sv (.v (.int .i64) (0 : Int))]), (4, [.sv (.v .bool false)]), (5, [.sv (.v (.int .u8) (0 : Int))]), (6, [.sv (.v (.int .u8) (0 : Int))]), (7, [.sv (.v (.int .i64) (0 : Int)), .sv (.v (.int .i64) (0 : Int)), .sv (.v .bool false), .sv (.v (.int .u8) (0 : Int))]), (8, [.sv (.v (.int .i64) (0 : Int)), .sv (.v (.int .i64) (0 : Int)), .sv (.v .bool false), .sv (.v (.int .u8) (0 : Int))]), (9, [.sv (.v .str ByteArray.empty)]), (10, [.sv (.v .str ByteArray.empty)]), (11, [.sv (.v .str ByteArray.empty)]), (12, [.sv (.v (.int .u64) (0 : Int))]), (13, [.sv (.v .str ByteArray.empty), .sv (.v (.int .u64) (0 : Int))]), (14, [.sv (.v .str ByteArray.empty), .sv (.v (.int .u64) (0 : Int))]), (18, [.sv .nilp]), (19, [.sv .nilp]), (21, [.sv (.v (.int .i32) (0 : Int))]), (30, [.row (.int .i64)]), (31, [.sv (.v (.int .i64) (0 : Int)), .sv (.v (.int .i64) (0 : Int)), .sv (.v (.int .i64) (0 : Int)), .row (.int .i64)]), (32, [.sv (.v (.int .i64) (0 : Int)), .sv (.v (.int .i64) (0 : Int)), .sv (.v (.int .i64) (0 : Int)), .row (.int .i64)]), (35, [.row S2]), (36, [.row S2]), (37, [.row S2]), (38, [.sv (.v (.int .i64) (0 : Int))]), (42, [.row (.slice (.int .i64))]), (53, [.sv .nilp]), (54, [.sv .nilp]), (56, [.row (.int .i64)]), (66, [.row .bool]), (70, [.sv (.v (.int .i64) (0 : Int)), .row S2, .sv .unk]), (71, [.sv (.v (.int .i64) (0 : Int)), .row S2, .sv .unk]), (77, [.sv (.v (.int .u64) (0 : Int))]), (89, [.sv (.v (.int .i64) (0 : Int))]), (96, [.sv (.v (.int .u32) (0 : Int))]), (98, [.sv (.v (.int .u64) (0 : Int))]), (99, [.row (.int .u8)]), (102, [.sv (.v (.int .u64) (0 : Int))]), (112, [.sv .nilp, .sv .nilp, .sv .nilp, .sv (.v .str ByteArray.empty)]), (113, [.sv .nilp, .sv .nilp, .sv .nilp, .sv (.v .str ByteArray.empty)]), (115, []), (116, []), (117, [.sv (.v (.int .u8) (0 : Int))]), (118, [.sv (.v (.int .u8) (0 : Int))]), (121, [.sv (.v (.int .i32) (0 : Int))]), (122, [.sv (.v (.int .i32) (0 : Int))]), (123, [.sv (.v (.int .u64) (0 : Int)), .sv (.v (.int .u64) (0 : Int)), .sv (.v (.int .u32) (0 : Int)), .sv (.v (.int .u8) (0 : Int)), .sv (.v (.int .u8) (0 : Int)), .sv (.v (.int .u8) (0 : Int)), .sv (.v (.int .u8) (0 : Int)), .sv .unk, .sv .nilp, .sv (.v (.int .i32) (0 : Int)), .sv (.v (.int .i32) (0 : Int))]), (124, [.sv (.v (.int .u64) (0 : Int)), .sv (.v (.int .u64) (0 : Int)), .sv (.v (.int .u32) (0 : Int)), .sv (.v (.int .u8) (0 : Int)), .sv (.v (.int .u8) (0 : Int)), .sv (.v (.int .u8) (0 : Int)), .sv (.v (.int .u8) (0 : Int)), .sv .unk, .sv .nilp, .sv (.v (.int .i32) (0 : Int)), .sv (.v (.int .i32) (0 : Int))])]
  by_ := [(30, 8), (35, 48), (42, 24), (56, 8), (66, 1), (99, 1)]
  sig := fun f => (look [(3, ⟨⟨[.v (.int .i64), .v (.int .i64), .v (.int .i64), .v (.int .i64)], []⟩, [], ⟨[.v .bool], []⟩⟩),
    (4, ⟨⟨[.v (.int .i64), .v (.int .i64), .v (.int .i64)], []⟩, [], ⟨[.v .bool], []⟩⟩),
    (5, ⟨⟨[.v S3, .v (.slice (.slice (.int .i64)))], []⟩, [], ⟨[.v .bool], []⟩⟩),
    (6, ⟨⟨[], []⟩, [], ⟨[.ptr 0 0], [.cells [.ptr 1 0], .cells [.v (.int .i64), .own 2, .mp 3], .arr S2, .map .str (.int .i64)]⟩⟩),
    (7, ⟨⟨[.v (.int .i64), .v (.int .i64)], []⟩, [], ⟨[.v (.int .i64)], []⟩⟩),
    (8, ⟨⟨[.ptr 0 0, .v (.int .i64), .v (.int .i64)], [.cells [.ptr 1 0], .cells [.v (.int .i64), .own 2, .mp 3], .arr S2, .map .str (.int .i64)]⟩, [0], ⟨[.ptr 0 0, .v (.int .i64)], [.cells [.ptr 1 0], .cells [.v (.int .i64), .own 2, .mp 3], .arr S2, .map .str (.int .i64)]⟩⟩),
    (9, ⟨⟨[.ptr 0 0, .v (.slice (.int .i64))], [.cells [.ptr 1 0], .cells [.v (.int .i64), .own 2, .mp 3], .arr S2, .map .str (.int .i64)]⟩, [0], ⟨[.ptr 0 0, .v (.int .i64)], [.cells [.ptr 1 0], .cells [.v (.int .i64), .own 2, .mp 3], .arr S2, .map .str (.int .i64)]⟩⟩),
    (10, ⟨⟨[.ptr 0 0, .v (.slice (.int .i64))], [.cells [.ptr 1 0], .cells [.v (.int .i64), .own 2, .mp 3], .arr S2, .map .str (.int .i64)]⟩, [0], ⟨[.ptr 0 0, .v (.int .i64)], [.cells [.ptr 1 0], .cells [.v (.int .i64), .own 2, .mp 3], .arr S2, .map .str (.int .i64)]⟩⟩),
    (11, ⟨⟨[.ptr 0 0, .v (.int .i64)], [.cells [.ptr 1 0], .cells [.v (.int .i64), .own 2, .mp 3], .arr S2, .map .str (.int .i64)]⟩, [0], ⟨[.ptr 0 0, .v (.int .i64)], [.cells [.ptr 1 0], .cells [.v (.int .i64), .own 2, .mp 3], .arr S2, .map .str (.int .i64)]⟩⟩),
    (12, ⟨⟨[], []⟩, [], ⟨[.v .bool], []⟩⟩),
    (13, ⟨⟨[.ptr 0 0], [.cells [.ptr 1 0], .cells [.v (.int .i64), .own 2, .mp 3], .arr S2, .map .str (.int .i64)]⟩, [0], ⟨[.ptr 0 0, .v (.int .i64)], [.cells [.ptr 1 0], .cells [.v (.int .i64), .own 2, .mp 3], .arr S2, .map .str (.int .i64)]⟩⟩),
    (14, ⟨⟨[.ptr 0 0, .v (.int .i64)], [.cells [.ptr 1 0], .cells [.v (.int .i64), .own 2, .mp 3], .arr S2, .map .str (.int .i64)]⟩, [0], ⟨[.ptr 0 0, .v S2, .v .bool], [.cells [.ptr 1 0], .cells [.v (.int .i64), .own 2, .mp 3], .arr S2, .map .str (.int .i64)]⟩⟩),
    (15, ⟨⟨[.ptr 0 0, .v (.int .i64)], [.cells [.ptr 1 0], .cells [.v (.int .i64), .own 2, .mp 3], .arr S2, .map .str (.int .i64)]⟩, [0], ⟨[.ptr 0 0, .v S3, .v (.int .i64)], [.cells [.ptr 1 0], .cells [.v (.int .i64), .own 2, .mp 3], .arr S2, .map .str (.int .i64)]⟩⟩),
    (16, ⟨⟨[.v S3, .v (.int .i64)], []⟩, [], ⟨[.v .bool], []⟩⟩),
    (17, ⟨⟨[.v S3], []⟩, [], ⟨[.v S3, .v (.int .i64)], []⟩⟩),
    (18, ⟨⟨[.v S3], []⟩, [], ⟨[.v .bool], []⟩⟩),
    (19, ⟨⟨[.v S3, .v S3], []⟩, [], ⟨[.v .bool], []⟩⟩),
    (20, ⟨⟨[.v S3, .v (.slice (.int .i64))], []⟩, [], ⟨[.v .bool], []⟩⟩),
    (21, ⟨⟨[.v S3], []⟩, [], ⟨[.v (.slice (.int .i64))], []⟩⟩),
    (22, ⟨⟨[.v (.int .i64)], []⟩, [], ⟨[.ptr 0 0], [.cells [.v (.int .i64), .own 1, .mp 2], .arr S2, .map .str (.int .i64)]⟩⟩),
    (23, ⟨⟨[.ptr 0 0, .v (.int .i64), .v (.int .i64)], [.cells [.v (.int .i64), .own 1, .mp 2], .arr S2, .map .str (.int .i64)]⟩, [0], ⟨[.ptr 0 0, .v (.int .i64)], [.cells [.v (.int .i64), .own 1, .mp 2], .arr S2, .map .str (.int .i64)]⟩⟩),
    (24, ⟨⟨[.ptr 0 0, .v (.slice (.int .i64))], [.cells [.v (.int .i64), .own 1, .mp 2], .arr S2, .map .str (.int .i64)]⟩, [0], ⟨[.ptr 0 0, .v (.int .i64)], [.cells [.v (.int .i64), .own 1, .mp 2], .arr S2, .map .str (.int .i64)]⟩⟩),
    (25, ⟨⟨[.ptr 0 0, .v (.slice (.int .i64))], [.cells [.v (.int .i64), .own 1, .mp 2], .arr S2, .map .str (.int .i64)]⟩, [0], ⟨[.ptr 0 0, .v (.int .i64)], [.cells [.v (.int .i64), .own 1, .mp 2], .arr S2, .map .str (.int .i64)]⟩⟩),
    (26, ⟨⟨[.ptr 0 0, .v (.int .i64)], [.cells [.v (.int .i64), .own 1, .mp 2], .arr S2, .map .str (.int .i64)]⟩, [0], ⟨[.ptr 0 0, .v (.int .i64)], [.cells [.v (.int .i64), .own 1, .mp 2], .arr S2, .map .str (.int .i64)]⟩⟩),
    (27, ⟨⟨[.v S3], []⟩, [], ⟨[.v .bool], []⟩⟩),
    (28, ⟨⟨[.ptr 0 0], [.cells [.v (.int .i64), .own 1, .mp 2], .arr S2, .map .str (.int .i64)]⟩, [0], ⟨[.ptr 0 0, .v (.int .i64)], [.cells [.v (.int .i64), .own 1, .mp 2], .arr S2, .map .str (.int .i64)]⟩⟩),
    (29, ⟨⟨[.ptr 0 0, .v (.int .i64)], [.cells [.v (.int .i64), .own 1, .mp 2], .arr S2, .map .str (.int .i64)]⟩, [0], ⟨[.ptr 0 0, .v .bool], [.cells [.v (.int .i64), .own 1, .mp 2], .arr S2, .map .str (.int .i64)]⟩⟩),
    (30, ⟨⟨[.ptr 0 0, .v (.int .i64)], [.cells [.v (.int .i64), .own 1, .mp 2], .arr S2, .map .str (.int .i64)]⟩, [0], ⟨[.ptr 0 0, .v S2], [.cells [.v (.int .i64), .own 1, .mp 2], .arr S2, .map .str (.int .i64)]⟩⟩),
    (31, ⟨⟨[.v (.slice (.int .i64))], []⟩, [], ⟨[.v (.slice (.int .i64))], []⟩⟩),
    (32, ⟨⟨[.ptr 0 0, .v (.int .i64)], [.cells [.v (.int .i64), .own 1, .mp 2], .arr S2, .map .str (.int .i64)]⟩, [0], ⟨[.ptr 0 0, .v (.slice (.int .i64))], [.cells [.v (.int .i64), .own 1, .mp 2], .arr S2, .map .str (.int .i64)]⟩⟩),
    (33, ⟨⟨[.v (.slice (.int .i64)), .v (.int .i64)], []⟩, [], ⟨[.v (.int .i64), .v .bool], []⟩⟩),
    (34, ⟨⟨[.ptr 0 0, .v S3], [.cells [.ptr 1 0], .cells [.v (.int .i64), .own 2, .mp 3], .arr S2, .map .str (.int .i64)]⟩, [0], ⟨[.ptr 0 0, .v (.int .i64), .v (.int .i64)], [.cells [.ptr 1 0], .cells [.v (.int .i64), .own 2, .mp 3], .arr S2, .map .str (.int .i64)]⟩⟩),
    (35, ⟨⟨[.v S2, .v S2], []⟩, [], ⟨[.v .bool], []⟩⟩),
    (36, ⟨⟨[], []⟩, [], ⟨[], []⟩⟩),
    (37, ⟨⟨[.v (.int .i64), .v (.pt (.slice .bool))], []⟩, [], ⟨[.v .bool], []⟩⟩),
    (38, ⟨⟨[.v (.int .i64), .v (.pt (.slice .bool))], []⟩, [], ⟨[.v .bool], []⟩⟩),
    (39, ⟨⟨[.own 0], [.arr (.int .i64)]⟩, [0], ⟨[.own 0], [.arr (.int .i64)]⟩⟩),
    (40, ⟨⟨[.own 0], [.arr (.int .i64)]⟩, [], ⟨[.own 0], [.arr (.int .i64)]⟩⟩),
    (41, ⟨⟨[.ptr 0 0, .v S2], [.cells [.v (.int .i64), .own 1, .mp 2], .arr S2, .map .str (.int .i64)]⟩, [0], ⟨[.ptr 0 0, .v (.int .i64)], [.cells [.v (.int .i64), .own 1, .mp 2], .arr S2, .map .str (.int .i64)]⟩⟩),
    (42, ⟨⟨[.ptr 0 0, .v (.int .i64), .v (.int .i64), .v (.slice (.int .i64))], [.cells [.v (.int .i64), .own 1, .mp 2], .arr S2, .map .str (.int .i64)]⟩, [0], ⟨[.ptr 0 0, .v (.slice (.int .i64)), .v .bool], [.cells [.v (.int .i64), .own 1, .mp 2], .arr S2, .map .str (.int .i64)]⟩⟩),
    (43, ⟨⟨[.ptr 0 0, .v (.int .i64), .v (.int .i64), .v (.slice (.int .i64))], [.cells [.v (.int .i64), .own 1, .mp 2], .arr S2, .map .str (.int .i64)]⟩, [0], ⟨[.ptr 0 0, .v (.int .i64)], [.cells [.v (.int .i64), .own 1, .mp 2], .arr S2, .map .str (.int .i64)]⟩⟩),
    (44, ⟨⟨[.v S2, .v (.int .i64)], []⟩, [], ⟨[.v .bool], []⟩⟩),
    (45, ⟨⟨[.v (.int .i64), .v (.int .i64)], []⟩, [], ⟨[.v .bool], []⟩⟩),
    (46, ⟨⟨[.v (.int .i64)], []⟩, [], ⟨[.v .bool], []⟩⟩),
    (47, ⟨⟨[.ptr 0 0, .v S3], [.cells [.v (.int .i64), .own 1, .mp 2], .arr S2, .map .str (.int .i64)]⟩, [0], ⟨[.ptr 0 0, .v (.int .i64)], [.cells [.v (.int .i64), .own 1, .mp 2], .arr S2, .map .str (.int .i64)]⟩⟩),
    (48, ⟨⟨[.v (.slice (.int .i64)), .v (.slice (.int .i64))], []⟩, [], ⟨[.v .bool], []⟩⟩),
    (49, ⟨⟨[], []⟩, [], ⟨[], []⟩⟩),
    (52, ⟨⟨[.v S2], []⟩, [], ⟨[.v .str], []⟩⟩),
    (53, ⟨⟨[.ptr 0 0, .v (.slice (.int .i64))], [.cells [.v (.int .i64), .own 1, .mp 2], .arr S2, .map .str (.int .i64)]⟩, [0], ⟨[.ptr 0 0, .v .bool], [.cells [.v (.int .i64), .own 1, .mp 2], .arr S2, .map .str (.int .i64)]⟩⟩),
    (54, ⟨⟨[.ptr 0 0, .v (.slice (.int .i64)), .v .bool], [.cells [.v (.int .i64), .own 1, .mp 2], .arr S2, .map .str (.int .i64)]⟩, [0], ⟨[.ptr 0 0, .v .bool], [.cells [.v (.int .i64), .own 1, .mp 2], .arr S2, .map .str (.int .i64)]⟩⟩),
    (55, ⟨⟨[.v (.int .i64)], []⟩, [], ⟨[.v .bool], []⟩⟩),
    (56, ⟨⟨[.ptr 0 0, .v (.int .i64), .v (.int .i64), .v (.int .i64), .v (.slice (.int .i64))], [.cells [.v (.int .i64), .own 1, .mp 2], .arr S2, .map .str (.int .i64)]⟩, [0], ⟨[.ptr 0 0, .v (.int .i64)], [.cells [.v (.int .i64), .own 1, .mp 2], .arr S2, .map .str (.int .i64)]⟩⟩),
    (67, ⟨⟨[.own 0, .v (.int .i64)], [.arr (.int .u8)]⟩, [], ⟨[.own 0], [.arr (.int .u8)]⟩⟩),
    (136, ⟨⟨[.v (.slice (.int .i64)), .v (.clo 37 (.slice .bool))], []⟩, [], ⟨[.v .bool], []⟩⟩),
    (236, ⟨⟨[.v (.slice (.int .i64)), .v (.clo 38 (.slice .bool))], []⟩, [], ⟨[.v .bool], []⟩⟩),
    (149, ⟨⟨[.v (.slice (.int .i64)), .v (.clo 37 (.slice .bool))], []⟩, [], ⟨[.v (.int .i64)], []⟩⟩),
    (249, ⟨⟨[.v (.slice (.int .i64)), .v (.clo 38 (.slice .bool))], []⟩, [], ⟨[.v (.int .i64)], []⟩⟩)] f).getD ⟨⟨[], []⟩, [], ⟨[], []⟩⟩
  inst := [(36, [(37, 136), (38, 236)]), (49, [(37, 149), (38, 249)])]
  base := [(136, 36), (236, 36), (149, 49), (249, 49)]
end Go.Sym.T22
