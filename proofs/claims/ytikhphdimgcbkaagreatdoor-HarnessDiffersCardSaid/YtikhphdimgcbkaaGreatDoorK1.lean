/-
  What the compiler answers for the document's example, reckoned by the kernel. No condition.
-/
import Derived.Test.YtikhphdimgcbkaaGreatDoorF
set_option linter.unusedSectionVars false
set_option linter.unusedVariables false
set_option linter.unusedSimpArgs false
set_option maxRecDepth 1000000
namespace Go.Proofs.YtikhphdimgcbkaaGreatDoor
open Go Go.AE

def cmpV : AV := .tuple [.agg [.sliceNil, .slice 574 0 1 none 7, .sliceNil, .slice 1073 0 1 none 5, .sliceNil, .slice 1147 0 1 none 7, .slice 1201 0 1 none 2, .slice 1203 0 2 none 6, .str [102]], .nilIface]
def cmpL0 : List (Nat × AO) := [(120, .cells [.str [97], .int .u8 (.ofNat 2), .str [], .sliceNil, .bool false, .int .u8 (.ofNat 0), .int .u8 (.ofNat 0), .int .i32 (.ofNat 0), .str [], .sliceNil, .sliceNil, .int .i64 (.ofNat 0), .int .i64 (.ofNat 0), .int .i64 (.ofNat 1), .int .i64 (.ofNat 8)]),
  (148, .cells [.str [120], .int .u8 (.ofNat 2), .str [], .sliceNil, .bool false, .int .u8 (.ofNat 0), .int .u8 (.ofNat 0), .int .i32 (.ofNat 0), .str [], .sliceNil, .sliceNil, .int .i64 (.ofNat 0), .int .i64 (.ofNat 0), .int .i64 (.ofNat 1), .int .i64 (.ofNat 25)]),
  (172, .cells [.str [120]]),
  (389, .cells [.int .u8 (.ofNat 4), .int .u8 (.ofNat 0), .int .i32 (.ofNat 0), .str [120], .sliceNil, .sliceNil, .int .i64 (.ofNat 1), .int .i64 (.ofNat 48), .int .u8 (.ofNat 4), .int .u8 (.ofNat 0), .int .i32 (.ofNat 0), .str [97], .sliceNil, .sliceNil, .int .i64 (.ofNat 1), .int .i64 (.ofNat 52)]),
  (546, .cells [.int .u8 (.ofNat 1), .int .u8 (.ofNat 0), .int .i32 (.ofNat 0), .str [], .sliceNil, .sliceNil, .int .i64 (.ofNat 1), .int .i64 (.ofNat 41), .int .u8 (.ofNat 7), .int .u8 (.ofNat 3), .int .i32 (.ofNat 0), .str [], .sliceNil, .slice 389 0 2 (some 2) 8, .int .i64 (.ofNat 1), .int .i64 (.ofNat 48)]),
  (560, .cells [.int .u8 (.ofNat 1), .slice 172 0 1 (some 1) 1, .str [], .sliceNil, .bool false, .int .u8 (.ofNat 9), .int .u8 (.ofNat 0), .int .i32 (.ofNat 0), .str [], .sliceNil, .slice 546 0 2 (some 2) 8, .int .i64 (.ofNat 1), .int .i64 (.ofNat 41), .sliceNil, .int .i64 (.ofNat 1), .int .i64 (.ofNat 37)]),
  (574, .cells [.str [102], .slice 120 0 1 none 15, .slice 148 0 1 none 15, .sliceNil, .slice 560 0 1 none 16, .int .i64 (.ofNat 1), .int .i64 (.ofNat 6)]),
  (910, .cells [.str [120], .int .u8 (.ofNat 2), .str [], .sliceNil, .bool false, .int .u8 (.ofNat 0), .int .u8 (.ofNat 0), .int .i32 (.ofNat 0), .str [], .sliceNil, .sliceNil, .int .i64 (.ofNat 0), .int .i64 (.ofNat 0), .int .i64 (.ofNat 1), .int .i64 (.ofNat 25)]),
  (1060, .cells [.int .u8 (.ofNat 4), .int .u8 (.ofNat 0), .int .i32 (.ofNat 0), .str [120], .sliceNil, .sliceNil, .int .i64 (.ofNat 1), .int .i64 (.ofNat 48), .int .u8 (.ofNat 4), .int .u8 (.ofNat 0), .int .i32 (.ofNat 0), .str [97], .sliceNil, .sliceNil, .int .i64 (.ofNat 1), .int .i64 (.ofNat 52)]),
  (1062, .cells [.str [120]]),
  (1065, .cells [.int .u8 (.ofNat 2), .slice 1062 0 1 (some 1) 1, .str [], .int .u8 (.ofNat 1), .int .u8 (.ofNat 0), .int .i32 (.ofNat 0), .str [], .sliceNil, .sliceNil, .int .i64 (.ofNat 1), .int .i64 (.ofNat 41), .int .u8 (.ofNat 7), .int .u8 (.ofNat 3), .int .i32 (.ofNat 0), .str [], .sliceNil, .slice 1060 0 2 none 8, .int .i64 (.ofNat 1), .int .i64 (.ofNat 48), .sliceNil, .sliceNil, .sliceNil]),
  (1073, .cells [.str [102], .slice 120 0 1 none 15, .slice 910 0 1 none 15, .sliceNil, .slice 1065 0 1 none 22]),
  (1115, .cells [.str [97], .int .u8 (.ofNat 2), .str [], .sliceNil, .bool false, .int .u8 (.ofNat 0), .int .u8 (.ofNat 0), .int .i32 (.ofNat 0), .str [], .sliceNil, .sliceNil, .int .i64 (.ofNat 0), .int .i64 (.ofNat 0), .int .i64 (.ofNat 0), .int .i64 (.ofNat 0)]),
  (1118, .cells [.str [120], .int .u8 (.ofNat 2), .str [], .sliceNil, .bool false, .int .u8 (.ofNat 0), .int .u8 (.ofNat 0), .int .i32 (.ofNat 0), .str [], .sliceNil, .sliceNil, .int .i64 (.ofNat 0), .int .i64 (.ofNat 0), .int .i64 (.ofNat 0), .int .i64 (.ofNat 0)]),
  (1122, .cells [.str [109, 95, 120], .int .u8 (.ofNat 2), .str [], .int .u8 (.ofNat 1), .int .u8 (.ofNat 0), .int .i32 (.ofNat 0), .str [], .sliceNil, .sliceNil, .int .i64 (.ofNat 1), .int .i64 (.ofNat 41)]),
  (1139, .cells [.int .u8 (.ofNat 4), .int .u8 (.ofNat 0), .int .i32 (.ofNat 0), .str [120], .sliceNil, .sliceNil, .int .i64 (.ofNat 1), .int .i64 (.ofNat 48), .int .u8 (.ofNat 4), .int .u8 (.ofNat 0), .int .i32 (.ofNat 0), .str [97], .sliceNil, .sliceNil, .int .i64 (.ofNat 1), .int .i64 (.ofNat 52)]),
  (1144, .cells [.int .u8 (.ofNat 1), .str [120], .int .u8 (.ofNat 5), .int .u8 (.ofNat 0), .int .i32 (.ofNat 0), .str [109, 95, 120], .sliceNil, .sliceNil, .int .i64 (.ofNat 0), .int .i64 (.ofNat 0), .sliceNil, .sliceNil, .sliceNil, .sliceNil, .int .u8 (.ofNat 2), .str [109, 95, 120], .int .u8 (.ofNat 7), .int .u8 (.ofNat 3), .int .i32 (.ofNat 0), .str [], .sliceNil, .slice 1139 0 2 none 8, .int .i64 (.ofNat 1), .int .i64 (.ofNat 48), .sliceNil, .sliceNil, .sliceNil, .sliceNil]),
  (1147, .cells [.str [102], .slice 1122 0 1 none 11, .sliceNil, .slice 1115 0 1 none 15, .slice 1118 0 1 none 15, .sliceNil, .slice 1144 0 2 none 14]),
  (1158, .cells [.str [109, 95, 120], .str []]),
  (1163, .cells [.int .u8 (.ofNat 2), .str [109, 95, 120], .str [], .int .u8 (.ofNat 1), .int .u8 (.ofNat 0), .int .i32 (.ofNat 0), .str [], .sliceNil, .sliceNil, .sliceNil, .sliceNil, .sliceNil]),
  (1166, .cells [.str [118, 95, 97]]),
  (1169, .cells [.str [118, 95, 120]]),
  (1172, .cells [.str [118, 95, 120]]),
  (1197, .cells [.int .u8 (.ofNat 2), .int .u8 (.ofNat 0), .int .i32 (.ofNat 0), .str [118, 95, 120], .sliceNil, .int .u8 (.ofNat 2), .int .u8 (.ofNat 0), .int .i32 (.ofNat 0), .str [118, 95, 97], .sliceNil]),
  (1199, .cells [.int .u8 (.ofNat 1), .str [118, 95, 120], .str [], .int .u8 (.ofNat 3), .int .u8 (.ofNat 0), .int .i32 (.ofNat 0), .str [109, 95, 120], .sliceNil, .sliceNil, .sliceNil, .sliceNil, .sliceNil, .int .u8 (.ofNat 2), .str [109, 95, 120], .str [], .int .u8 (.ofNat 5), .int .u8 (.ofNat 3), .int .i32 (.ofNat 0), .str [], .slice 1197 0 2 none 5, .sliceNil, .sliceNil, .sliceNil, .sliceNil]),
  (1201, .cells [.str [102], .slice 1158 0 1 none 2]),
  (1203, .cells [.str [102, 95, 114, 101, 115, 101, 116], .str [102], .sliceNil, .sliceNil, .sliceNil, .slice 1163 0 1 none 12, .str [102, 95, 115, 116, 101, 112], .str [102], .slice 1166 0 1 none 1, .slice 1169 0 1 none 1, .slice 1172 0 1 none 1, .slice 1199 0 2 none 12])]
def cmpL : List (Nat × AO) := cmpL0
def cmpN : Nat := 1204
def cmpK : Nat := 0

def cmpArgs : List AV := [.str [110, 111, 100, 101, 32, 102, 40, 97, 58, 32, 105, 110, 116, 41, 32, 114, 101, 116, 117, 114, 110, 115, 32, 40, 120, 58, 32, 105, 110, 116, 41, 32, 108, 101, 116, 32, 120, 32, 61, 32, 48, 32, 102, 98, 121, 32, 40, 120, 32, 43, 32, 97, 41, 59, 32, 116, 101, 108], .str [102], .agg [.bool false, .bool false, .bool false]]
theorem cmp_run : resOK cmpV cmpN 0 cmpL (ev E0 100000 (.call 7 cmpArgs ⟨.nil, 0⟩)) = true := by decide +kernel
end Go.Proofs.YtikhphdimgcbkaaGreatDoor
