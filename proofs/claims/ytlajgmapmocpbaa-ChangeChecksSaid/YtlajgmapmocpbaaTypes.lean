/- Facts about the types and functions of this translation. -/
import Derived.Test.YtlajgmapmocpbaaEng18
import Derived.Test.YtlajgmapmocpbaaChecked
import Derived.KernelRfl
set_option linter.unusedSimpArgs false
set_option linter.unusedVariables false
namespace Go.Proofs.Ytlajgmapmocpbaa
open Go Go.RowKit Go.Proofs Go.Eng

@[go_sem] theorem tS0 : tSize Try.prog 0 = some 1 := by kernel_rfl
@[go_sem] theorem tA0 : tAgg Try.prog 0 = some false := by kernel_rfl
@[go_sem] theorem tY0 : tBytes Try.prog 0 = some 0 := by kernel_rfl
@[go_sem] theorem tS1 : tSize Try.prog 1 = some 1 := by kernel_rfl
@[go_sem] theorem tA1 : tAgg Try.prog 1 = some false := by kernel_rfl
@[go_sem] theorem tZ1 : tZero Try.prog 1 = some [.at (.nilFunc)] := by kernel_rfl
@[go_sem] theorem tY1 : tBytes Try.prog 1 = some 8 := by kernel_rfl
@[go_sem] theorem tS2 : tSize Try.prog 2 = some 1 := by kernel_rfl
@[go_sem] theorem tA2 : tAgg Try.prog 2 = some false := by kernel_rfl
@[go_sem] theorem tU2 : Try.prog.underlying 2 = some (.int .i64) := by kernel_rfl
@[go_sem] theorem tZ2 : tZero Try.prog 2 = some [.at (.int .i64 0)] := by kernel_rfl
@[go_sem] theorem tY2 : tBytes Try.prog 2 = some 8 := by kernel_rfl
@[go_sem] theorem tS3 : tSize Try.prog 3 = some 1 := by kernel_rfl
@[go_sem] theorem tA3 : tAgg Try.prog 3 = some false := by kernel_rfl
@[go_sem] theorem tU3 : Try.prog.underlying 3 = some (.int .i64) := by kernel_rfl
@[go_sem] theorem tZ3 : tZero Try.prog 3 = some [.at (.int .i64 0)] := by kernel_rfl
@[go_sem] theorem tY3 : tBytes Try.prog 3 = some 8 := by kernel_rfl
@[go_sem] theorem tS4 : tSize Try.prog 4 = some 1 := by kernel_rfl
@[go_sem] theorem tA4 : tAgg Try.prog 4 = some false := by kernel_rfl
@[go_sem] theorem tU4 : Try.prog.underlying 4 = some .bool := by kernel_rfl
@[go_sem] theorem tZ4 : tZero Try.prog 4 = some [.at (.bool false)] := by kernel_rfl
@[go_sem] theorem tY4 : tBytes Try.prog 4 = some 1 := by kernel_rfl
@[go_sem] theorem tS5 : tSize Try.prog 5 = some 1 := by kernel_rfl
@[go_sem] theorem tA5 : tAgg Try.prog 5 = some false := by kernel_rfl
@[go_sem] theorem tU5 : Try.prog.underlying 5 = some (.int .u8) := by kernel_rfl
@[go_sem] theorem tZ5 : tZero Try.prog 5 = some [.at (.int .u8 0)] := by kernel_rfl
@[go_sem] theorem tY5 : tBytes Try.prog 5 = some 1 := by kernel_rfl
@[go_sem] theorem tS6 : tSize Try.prog 6 = some 1 := by kernel_rfl
@[go_sem] theorem tA6 : tAgg Try.prog 6 = some false := by kernel_rfl
@[go_sem] theorem tU6 : Try.prog.underlying 6 = some (.int .u8) := by kernel_rfl
@[go_sem] theorem tZ6 : tZero Try.prog 6 = some [.at (.int .u8 0)] := by kernel_rfl
@[go_sem] theorem tY6 : tBytes Try.prog 6 = some 1 := by kernel_rfl
@[go_sem] theorem tS7 : tSize Try.prog 7 = some 4 := by kernel_rfl
@[go_sem] theorem tA7 : tAgg Try.prog 7 = some true := by kernel_rfl
@[go_sem] theorem tF7_0 (x : AV) : fieldAddrA Try.prog 7 x 0 = plusA 0 x := by kernel_rfl
@[go_sem] theorem tG7_0 (cs : List AV) : fieldA Try.prog 7 (.agg cs) 0 = partA Try.prog 2 cs 0 := by kernel_rfl
@[go_sem] theorem tF7_1 (x : AV) : fieldAddrA Try.prog 7 x 1 = plusA 1 x := by kernel_rfl
@[go_sem] theorem tG7_1 (cs : List AV) : fieldA Try.prog 7 (.agg cs) 1 = partA Try.prog 3 cs 1 := by kernel_rfl
@[go_sem] theorem tF7_2 (x : AV) : fieldAddrA Try.prog 7 x 2 = plusA 2 x := by kernel_rfl
@[go_sem] theorem tG7_2 (cs : List AV) : fieldA Try.prog 7 (.agg cs) 2 = partA Try.prog 4 cs 2 := by kernel_rfl
@[go_sem] theorem tF7_3 (x : AV) : fieldAddrA Try.prog 7 x 3 = plusA 3 x := by kernel_rfl
@[go_sem] theorem tG7_3 (cs : List AV) : fieldA Try.prog 7 (.agg cs) 3 = partA Try.prog 6 cs 3 := by kernel_rfl
@[go_sem] theorem tB7 (ρ : Operand → AV) (parts : Array (Nat × Operand)) : opBuild Try.prog ρ 7 parts = (match fillA (fun i => [(0, 1), (1, 1), (2, 1), (3, 1)][i]?) [.at (.int .i64 0), .at (.int .i64 0), .at (.bool false), .at (.int .u8 0)] (parts.toList.map fun p => (p.1, ρ p.2)) with | some cs => some (.pure (.agg cs)) | none => none) := by kernel_rfl
@[go_sem] theorem tZ7 : tZero Try.prog 7 = some [.at (.int .i64 0), .at (.int .i64 0), .at (.bool false), .at (.int .u8 0)] := by kernel_rfl
@[go_sem] theorem tY7 : tBytes Try.prog 7 = some 24 := by kernel_rfl
@[go_sem] theorem tS8 : tSize Try.prog 8 = some 4 := by kernel_rfl
@[go_sem] theorem tA8 : tAgg Try.prog 8 = some true := by kernel_rfl
@[go_sem] theorem tF8_0 (x : AV) : fieldAddrA Try.prog 8 x 0 = plusA 0 x := by kernel_rfl
@[go_sem] theorem tG8_0 (cs : List AV) : fieldA Try.prog 8 (.agg cs) 0 = partA Try.prog 2 cs 0 := by kernel_rfl
@[go_sem] theorem tF8_1 (x : AV) : fieldAddrA Try.prog 8 x 1 = plusA 1 x := by kernel_rfl
@[go_sem] theorem tG8_1 (cs : List AV) : fieldA Try.prog 8 (.agg cs) 1 = partA Try.prog 3 cs 1 := by kernel_rfl
@[go_sem] theorem tF8_2 (x : AV) : fieldAddrA Try.prog 8 x 2 = plusA 2 x := by kernel_rfl
@[go_sem] theorem tG8_2 (cs : List AV) : fieldA Try.prog 8 (.agg cs) 2 = partA Try.prog 4 cs 2 := by kernel_rfl
@[go_sem] theorem tF8_3 (x : AV) : fieldAddrA Try.prog 8 x 3 = plusA 3 x := by kernel_rfl
@[go_sem] theorem tG8_3 (cs : List AV) : fieldA Try.prog 8 (.agg cs) 3 = partA Try.prog 6 cs 3 := by kernel_rfl
@[go_sem] theorem tB8 (ρ : Operand → AV) (parts : Array (Nat × Operand)) : opBuild Try.prog ρ 8 parts = (match fillA (fun i => [(0, 1), (1, 1), (2, 1), (3, 1)][i]?) [.at (.int .i64 0), .at (.int .i64 0), .at (.bool false), .at (.int .u8 0)] (parts.toList.map fun p => (p.1, ρ p.2)) with | some cs => some (.pure (.agg cs)) | none => none) := by kernel_rfl
@[go_sem] theorem tZ8 : tZero Try.prog 8 = some [.at (.int .i64 0), .at (.int .i64 0), .at (.bool false), .at (.int .u8 0)] := by kernel_rfl
@[go_sem] theorem tY8 : tBytes Try.prog 8 = some 24 := by kernel_rfl
@[go_sem] theorem tS9 : tSize Try.prog 9 = some 1 := by kernel_rfl
@[go_sem] theorem tA9 : tAgg Try.prog 9 = some false := by kernel_rfl
@[go_sem] theorem tY9 : tBytes Try.prog 9 = some 16 := by kernel_rfl
@[go_sem] theorem tS10 : tSize Try.prog 10 = some 1 := by kernel_rfl
@[go_sem] theorem tA10 : tAgg Try.prog 10 = some false := by kernel_rfl
@[go_sem] theorem tY10 : tBytes Try.prog 10 = some 16 := by kernel_rfl
@[go_sem] theorem tS11 : tSize Try.prog 11 = some 1 := by kernel_rfl
@[go_sem] theorem tA11 : tAgg Try.prog 11 = some false := by kernel_rfl
@[go_sem] theorem tY11 : tBytes Try.prog 11 = some 16 := by kernel_rfl
@[go_sem] theorem tS12 : tSize Try.prog 12 = some 1 := by kernel_rfl
@[go_sem] theorem tA12 : tAgg Try.prog 12 = some false := by kernel_rfl
@[go_sem] theorem tU12 : Try.prog.underlying 12 = some (.int .u64) := by kernel_rfl
@[go_sem] theorem tZ12 : tZero Try.prog 12 = some [.at (.int .u64 0)] := by kernel_rfl
@[go_sem] theorem tY12 : tBytes Try.prog 12 = some 8 := by kernel_rfl
@[go_sem] theorem tS13 : tSize Try.prog 13 = some 2 := by kernel_rfl
@[go_sem] theorem tA13 : tAgg Try.prog 13 = some true := by kernel_rfl
@[go_sem] theorem tF13_0 (x : AV) : fieldAddrA Try.prog 13 x 0 = plusA 0 x := by kernel_rfl
@[go_sem] theorem tG13_0 (cs : List AV) : fieldA Try.prog 13 (.agg cs) 0 = partA Try.prog 9 cs 0 := by kernel_rfl
@[go_sem] theorem tF13_1 (x : AV) : fieldAddrA Try.prog 13 x 1 = plusA 1 x := by kernel_rfl
@[go_sem] theorem tG13_1 (cs : List AV) : fieldA Try.prog 13 (.agg cs) 1 = partA Try.prog 12 cs 1 := by kernel_rfl
@[go_sem] theorem tY13 : tBytes Try.prog 13 = some 24 := by kernel_rfl
@[go_sem] theorem tS14 : tSize Try.prog 14 = some 2 := by kernel_rfl
@[go_sem] theorem tA14 : tAgg Try.prog 14 = some true := by kernel_rfl
@[go_sem] theorem tF14_0 (x : AV) : fieldAddrA Try.prog 14 x 0 = plusA 0 x := by kernel_rfl
@[go_sem] theorem tG14_0 (cs : List AV) : fieldA Try.prog 14 (.agg cs) 0 = partA Try.prog 9 cs 0 := by kernel_rfl
@[go_sem] theorem tF14_1 (x : AV) : fieldAddrA Try.prog 14 x 1 = plusA 1 x := by kernel_rfl
@[go_sem] theorem tG14_1 (cs : List AV) : fieldA Try.prog 14 (.agg cs) 1 = partA Try.prog 12 cs 1 := by kernel_rfl
@[go_sem] theorem tY14 : tBytes Try.prog 14 = some 24 := by kernel_rfl
@[go_sem] theorem tS15 : tSize Try.prog 15 = some 1 := by kernel_rfl
@[go_sem] theorem tA15 : tAgg Try.prog 15 = some false := by kernel_rfl
@[go_sem] theorem tZ15 : tZero Try.prog 15 = some [.at (.pointer none)] := by kernel_rfl
@[go_sem] theorem tY15 : tBytes Try.prog 15 = some 8 := by kernel_rfl
@[go_sem] theorem tS16 : tSize Try.prog 16 = some 1 := by kernel_rfl
@[go_sem] theorem tA16 : tAgg Try.prog 16 = some false := by kernel_rfl
@[go_sem] theorem tZ16 : tZero Try.prog 16 = some [.at (.pointer none)] := by kernel_rfl
@[go_sem] theorem tY16 : tBytes Try.prog 16 = some 8 := by kernel_rfl
@[go_sem] theorem tS17 : tSize Try.prog 17 = some 1 := by kernel_rfl
@[go_sem] theorem tA17 : tAgg Try.prog 17 = some false := by kernel_rfl
@[go_sem] theorem tZ17 : tZero Try.prog 17 = some [.at (.pointer none)] := by kernel_rfl
@[go_sem] theorem tY17 : tBytes Try.prog 17 = some 8 := by kernel_rfl
@[go_sem] theorem tS18 : tSize Try.prog 18 = some 1 := by kernel_rfl
@[go_sem] theorem tA18 : tAgg Try.prog 18 = some true := by kernel_rfl
@[go_sem] theorem tF18_0 (x : AV) : fieldAddrA Try.prog 18 x 0 = plusA 0 x := by kernel_rfl
@[go_sem] theorem tG18_0 (cs : List AV) : fieldA Try.prog 18 (.agg cs) 0 = partA Try.prog 17 cs 0 := by kernel_rfl
@[go_sem] theorem tB18 (ρ : Operand → AV) (parts : Array (Nat × Operand)) : opBuild Try.prog ρ 18 parts = (match fillA (fun i => [(0, 1)][i]?) [.at (.pointer none)] (parts.toList.map fun p => (p.1, ρ p.2)) with | some cs => some (.pure (.agg cs)) | none => none) := by kernel_rfl
@[go_sem] theorem tZ18 : tZero Try.prog 18 = some [.at (.pointer none)] := by kernel_rfl
@[go_sem] theorem tY18 : tBytes Try.prog 18 = some 8 := by kernel_rfl
@[go_sem] theorem tS19 : tSize Try.prog 19 = some 1 := by kernel_rfl
@[go_sem] theorem tA19 : tAgg Try.prog 19 = some true := by kernel_rfl
@[go_sem] theorem tF19_0 (x : AV) : fieldAddrA Try.prog 19 x 0 = plusA 0 x := by kernel_rfl
@[go_sem] theorem tG19_0 (cs : List AV) : fieldA Try.prog 19 (.agg cs) 0 = partA Try.prog 17 cs 0 := by kernel_rfl
@[go_sem] theorem tB19 (ρ : Operand → AV) (parts : Array (Nat × Operand)) : opBuild Try.prog ρ 19 parts = (match fillA (fun i => [(0, 1)][i]?) [.at (.pointer none)] (parts.toList.map fun p => (p.1, ρ p.2)) with | some cs => some (.pure (.agg cs)) | none => none) := by kernel_rfl
@[go_sem] theorem tZ19 : tZero Try.prog 19 = some [.at (.pointer none)] := by kernel_rfl
@[go_sem] theorem tY19 : tBytes Try.prog 19 = some 8 := by kernel_rfl
@[go_sem] theorem tS20 : tSize Try.prog 20 = some 1 := by kernel_rfl
@[go_sem] theorem tA20 : tAgg Try.prog 20 = some false := by kernel_rfl
@[go_sem] theorem tY20 : tBytes Try.prog 20 = some 16 := by kernel_rfl
@[go_sem] theorem tS21 : tSize Try.prog 21 = some 1 := by kernel_rfl
@[go_sem] theorem tA21 : tAgg Try.prog 21 = some false := by kernel_rfl
@[go_sem] theorem tU21 : Try.prog.underlying 21 = some (.int .i32) := by kernel_rfl
@[go_sem] theorem tZ21 : tZero Try.prog 21 = some [.at (.int .i32 0)] := by kernel_rfl
@[go_sem] theorem tY21 : tBytes Try.prog 21 = some 4 := by kernel_rfl
@[go_sem] theorem tS22 : tSize Try.prog 22 = some 1 := by kernel_rfl
@[go_sem] theorem tA22 : tAgg Try.prog 22 = some false := by kernel_rfl
@[go_sem] theorem tU22 : Try.prog.underlying 22 = some (.slice 3) := by kernel_rfl
@[go_sem] theorem tZ22 : tZero Try.prog 22 = some [.at (.slice none 0 0)] := by kernel_rfl
@[go_sem] theorem tY22 : tBytes Try.prog 22 = some 24 := by kernel_rfl
@[go_sem] theorem tS23 : tSize Try.prog 23 = some 6 := by kernel_rfl
@[go_sem] theorem tA23 : tAgg Try.prog 23 = some true := by kernel_rfl
@[go_sem] theorem tF23_0 (x : AV) : fieldAddrA Try.prog 23 x 0 = plusA 0 x := by kernel_rfl
@[go_sem] theorem tG23_0 (cs : List AV) : fieldA Try.prog 23 (.agg cs) 0 = partA Try.prog 3 cs 0 := by kernel_rfl
@[go_sem] theorem tF23_1 (x : AV) : fieldAddrA Try.prog 23 x 1 = plusA 1 x := by kernel_rfl
@[go_sem] theorem tG23_1 (cs : List AV) : fieldA Try.prog 23 (.agg cs) 1 = partA Try.prog 3 cs 1 := by kernel_rfl
@[go_sem] theorem tF23_2 (x : AV) : fieldAddrA Try.prog 23 x 2 = plusA 2 x := by kernel_rfl
@[go_sem] theorem tG23_2 (cs : List AV) : fieldA Try.prog 23 (.agg cs) 2 = partA Try.prog 3 cs 2 := by kernel_rfl
@[go_sem] theorem tF23_3 (x : AV) : fieldAddrA Try.prog 23 x 3 = plusA 3 x := by kernel_rfl
@[go_sem] theorem tG23_3 (cs : List AV) : fieldA Try.prog 23 (.agg cs) 3 = partA Try.prog 3 cs 3 := by kernel_rfl
@[go_sem] theorem tF23_4 (x : AV) : fieldAddrA Try.prog 23 x 4 = plusA 4 x := by kernel_rfl
@[go_sem] theorem tG23_4 (cs : List AV) : fieldA Try.prog 23 (.agg cs) 4 = partA Try.prog 3 cs 4 := by kernel_rfl
@[go_sem] theorem tF23_5 (x : AV) : fieldAddrA Try.prog 23 x 5 = plusA 5 x := by kernel_rfl
@[go_sem] theorem tG23_5 (cs : List AV) : fieldA Try.prog 23 (.agg cs) 5 = partA Try.prog 22 cs 5 := by kernel_rfl
@[go_sem] theorem tB23 (ρ : Operand → AV) (parts : Array (Nat × Operand)) : opBuild Try.prog ρ 23 parts = (match fillA (fun i => [(0, 1), (1, 1), (2, 1), (3, 1), (4, 1), (5, 1)][i]?) [.at (.int .i64 0), .at (.int .i64 0), .at (.int .i64 0), .at (.int .i64 0), .at (.int .i64 0), .at (.slice none 0 0)] (parts.toList.map fun p => (p.1, ρ p.2)) with | some cs => some (.pure (.agg cs)) | none => none) := by kernel_rfl
@[go_sem] theorem tZ23 : tZero Try.prog 23 = some [.at (.int .i64 0), .at (.int .i64 0), .at (.int .i64 0), .at (.int .i64 0), .at (.int .i64 0), .at (.slice none 0 0)] := by kernel_rfl
@[go_sem] theorem tY23 : tBytes Try.prog 23 = some 64 := by kernel_rfl
@[go_sem] theorem tS24 : tSize Try.prog 24 = some 6 := by kernel_rfl
@[go_sem] theorem tA24 : tAgg Try.prog 24 = some true := by kernel_rfl
@[go_sem] theorem tF24_0 (x : AV) : fieldAddrA Try.prog 24 x 0 = plusA 0 x := by kernel_rfl
@[go_sem] theorem tG24_0 (cs : List AV) : fieldA Try.prog 24 (.agg cs) 0 = partA Try.prog 3 cs 0 := by kernel_rfl
@[go_sem] theorem tF24_1 (x : AV) : fieldAddrA Try.prog 24 x 1 = plusA 1 x := by kernel_rfl
@[go_sem] theorem tG24_1 (cs : List AV) : fieldA Try.prog 24 (.agg cs) 1 = partA Try.prog 3 cs 1 := by kernel_rfl
@[go_sem] theorem tF24_2 (x : AV) : fieldAddrA Try.prog 24 x 2 = plusA 2 x := by kernel_rfl
@[go_sem] theorem tG24_2 (cs : List AV) : fieldA Try.prog 24 (.agg cs) 2 = partA Try.prog 3 cs 2 := by kernel_rfl
@[go_sem] theorem tF24_3 (x : AV) : fieldAddrA Try.prog 24 x 3 = plusA 3 x := by kernel_rfl
@[go_sem] theorem tG24_3 (cs : List AV) : fieldA Try.prog 24 (.agg cs) 3 = partA Try.prog 3 cs 3 := by kernel_rfl
@[go_sem] theorem tF24_4 (x : AV) : fieldAddrA Try.prog 24 x 4 = plusA 4 x := by kernel_rfl
@[go_sem] theorem tG24_4 (cs : List AV) : fieldA Try.prog 24 (.agg cs) 4 = partA Try.prog 3 cs 4 := by kernel_rfl
@[go_sem] theorem tF24_5 (x : AV) : fieldAddrA Try.prog 24 x 5 = plusA 5 x := by kernel_rfl
@[go_sem] theorem tG24_5 (cs : List AV) : fieldA Try.prog 24 (.agg cs) 5 = partA Try.prog 22 cs 5 := by kernel_rfl
@[go_sem] theorem tB24 (ρ : Operand → AV) (parts : Array (Nat × Operand)) : opBuild Try.prog ρ 24 parts = (match fillA (fun i => [(0, 1), (1, 1), (2, 1), (3, 1), (4, 1), (5, 1)][i]?) [.at (.int .i64 0), .at (.int .i64 0), .at (.int .i64 0), .at (.int .i64 0), .at (.int .i64 0), .at (.slice none 0 0)] (parts.toList.map fun p => (p.1, ρ p.2)) with | some cs => some (.pure (.agg cs)) | none => none) := by kernel_rfl
@[go_sem] theorem tZ24 : tZero Try.prog 24 = some [.at (.int .i64 0), .at (.int .i64 0), .at (.int .i64 0), .at (.int .i64 0), .at (.int .i64 0), .at (.slice none 0 0)] := by kernel_rfl
@[go_sem] theorem tY24 : tBytes Try.prog 24 = some 64 := by kernel_rfl
@[go_sem] theorem tS25 : tSize Try.prog 25 = some 7 := by kernel_rfl
@[go_sem] theorem tA25 : tAgg Try.prog 25 = some true := by kernel_rfl
@[go_sem] theorem tF25_0 (x : AV) : fieldAddrA Try.prog 25 x 0 = plusA 0 x := by kernel_rfl
@[go_sem] theorem tG25_0 (cs : List AV) : fieldA Try.prog 25 (.agg cs) 0 = partA Try.prog 24 cs 0 := by kernel_rfl
@[go_sem] theorem tF25_1 (x : AV) : fieldAddrA Try.prog 25 x 1 = plusA 6 x := by kernel_rfl
@[go_sem] theorem tG25_1 (cs : List AV) : fieldA Try.prog 25 (.agg cs) 1 = partA Try.prog 22 cs 6 := by kernel_rfl
@[go_sem] theorem tB25 (ρ : Operand → AV) (parts : Array (Nat × Operand)) : opBuild Try.prog ρ 25 parts = (match fillA (fun i => [(0, 6), (6, 1)][i]?) [.at (.int .i64 0), .at (.int .i64 0), .at (.int .i64 0), .at (.int .i64 0), .at (.int .i64 0), .at (.slice none 0 0), .at (.slice none 0 0)] (parts.toList.map fun p => (p.1, ρ p.2)) with | some cs => some (.pure (.agg cs)) | none => none) := by kernel_rfl
@[go_sem] theorem tZ25 : tZero Try.prog 25 = some [.at (.int .i64 0), .at (.int .i64 0), .at (.int .i64 0), .at (.int .i64 0), .at (.int .i64 0), .at (.slice none 0 0), .at (.slice none 0 0)] := by kernel_rfl
@[go_sem] theorem tY25 : tBytes Try.prog 25 = some 88 := by kernel_rfl
@[go_sem] theorem tS26 : tSize Try.prog 26 = some 7 := by kernel_rfl
@[go_sem] theorem tA26 : tAgg Try.prog 26 = some true := by kernel_rfl
@[go_sem] theorem tF26_0 (x : AV) : fieldAddrA Try.prog 26 x 0 = plusA 0 x := by kernel_rfl
@[go_sem] theorem tG26_0 (cs : List AV) : fieldA Try.prog 26 (.agg cs) 0 = partA Try.prog 24 cs 0 := by kernel_rfl
@[go_sem] theorem tF26_1 (x : AV) : fieldAddrA Try.prog 26 x 1 = plusA 6 x := by kernel_rfl
@[go_sem] theorem tG26_1 (cs : List AV) : fieldA Try.prog 26 (.agg cs) 1 = partA Try.prog 22 cs 6 := by kernel_rfl
@[go_sem] theorem tB26 (ρ : Operand → AV) (parts : Array (Nat × Operand)) : opBuild Try.prog ρ 26 parts = (match fillA (fun i => [(0, 6), (6, 1)][i]?) [.at (.int .i64 0), .at (.int .i64 0), .at (.int .i64 0), .at (.int .i64 0), .at (.int .i64 0), .at (.slice none 0 0), .at (.slice none 0 0)] (parts.toList.map fun p => (p.1, ρ p.2)) with | some cs => some (.pure (.agg cs)) | none => none) := by kernel_rfl
@[go_sem] theorem tZ26 : tZero Try.prog 26 = some [.at (.int .i64 0), .at (.int .i64 0), .at (.int .i64 0), .at (.int .i64 0), .at (.int .i64 0), .at (.slice none 0 0), .at (.slice none 0 0)] := by kernel_rfl
@[go_sem] theorem tY26 : tBytes Try.prog 26 = some 88 := by kernel_rfl
@[go_sem] theorem tS27 : tSize Try.prog 27 = some 1 := by kernel_rfl
@[go_sem] theorem tA27 : tAgg Try.prog 27 = some false := by kernel_rfl
@[go_sem] theorem tZ27 : tZero Try.prog 27 = some [.at (.nilFunc)] := by kernel_rfl
@[go_sem] theorem tY27 : tBytes Try.prog 27 = some 8 := by kernel_rfl
@[go_sem] theorem tS28 : tSize Try.prog 28 = some 1 := by kernel_rfl
@[go_sem] theorem tA28 : tAgg Try.prog 28 = some false := by kernel_rfl
@[go_sem] theorem tZ28 : tZero Try.prog 28 = some [.at (.nilFunc)] := by kernel_rfl
@[go_sem] theorem tY28 : tBytes Try.prog 28 = some 8 := by kernel_rfl
@[go_sem] theorem tS29 : tSize Try.prog 29 = some 1 := by kernel_rfl
@[go_sem] theorem tA29 : tAgg Try.prog 29 = some false := by kernel_rfl
@[go_sem] theorem tU29 : Try.prog.underlying 29 = some (.int .i64) := by kernel_rfl
@[go_sem] theorem tZ29 : tZero Try.prog 29 = some [.at (.int .i64 0)] := by kernel_rfl
@[go_sem] theorem tY29 : tBytes Try.prog 29 = some 8 := by kernel_rfl
@[go_sem] theorem tS30 : tSize Try.prog 30 = some 1 := by kernel_rfl
@[go_sem] theorem tA30 : tAgg Try.prog 30 = some false := by kernel_rfl
@[go_sem] theorem tZ30 : tZero Try.prog 30 = some [.at (.nilFunc)] := by kernel_rfl
@[go_sem] theorem tY30 : tBytes Try.prog 30 = some 8 := by kernel_rfl
@[go_sem] theorem tS31 : tSize Try.prog 31 = some 1 := by kernel_rfl
@[go_sem] theorem tA31 : tAgg Try.prog 31 = some false := by kernel_rfl
@[go_sem] theorem tZ31 : tZero Try.prog 31 = some [.at (.nilFunc)] := by kernel_rfl
@[go_sem] theorem tY31 : tBytes Try.prog 31 = some 8 := by kernel_rfl
@[go_sem] theorem tS32 : tSize Try.prog 32 = some 1 := by kernel_rfl
@[go_sem] theorem tA32 : tAgg Try.prog 32 = some false := by kernel_rfl
@[go_sem] theorem tU32 : Try.prog.underlying 32 = some (.slice 5) := by kernel_rfl
@[go_sem] theorem tZ32 : tZero Try.prog 32 = some [.at (.slice none 0 0)] := by kernel_rfl
@[go_sem] theorem tY32 : tBytes Try.prog 32 = some 24 := by kernel_rfl
@[go_sem] theorem tS33 : tSize Try.prog 33 = some 2 := by kernel_rfl
@[go_sem] theorem tA33 : tAgg Try.prog 33 = some true := by kernel_rfl
@[go_sem] theorem tU33 : Try.prog.underlying 33 = some (.array 2 32) := by kernel_rfl
@[go_sem] theorem tZ33 : tZero Try.prog 33 = some [.at (.slice none 0 0), .at (.slice none 0 0)] := by kernel_rfl
@[go_sem] theorem tY33 : tBytes Try.prog 33 = some 48 := by kernel_rfl
@[go_sem] theorem tS34 : tSize Try.prog 34 = some 1 := by kernel_rfl
@[go_sem] theorem tA34 : tAgg Try.prog 34 = some false := by kernel_rfl
@[go_sem] theorem tZ34 : tZero Try.prog 34 = some [.at (.nilFunc)] := by kernel_rfl
@[go_sem] theorem tY34 : tBytes Try.prog 34 = some 8 := by kernel_rfl
@[go_sem] theorem tS35 : tSize Try.prog 35 = some 1 := by kernel_rfl
@[go_sem] theorem tA35 : tAgg Try.prog 35 = some false := by kernel_rfl
@[go_sem] theorem tU35 : Try.prog.underlying 35 = some (.slice 38) := by kernel_rfl
@[go_sem] theorem tZ35 : tZero Try.prog 35 = some [.at (.slice none 0 0)] := by kernel_rfl
@[go_sem] theorem tY35 : tBytes Try.prog 35 = some 24 := by kernel_rfl
@[go_sem] theorem tS36 : tSize Try.prog 36 = some 1 := by kernel_rfl
@[go_sem] theorem tA36 : tAgg Try.prog 36 = some false := by kernel_rfl
@[go_sem] theorem tY36 : tBytes Try.prog 36 = some 0 := by kernel_rfl
@[go_sem] theorem tS37 : tSize Try.prog 37 = some 1 := by kernel_rfl
@[go_sem] theorem tA37 : tAgg Try.prog 37 = some false := by kernel_rfl
@[go_sem] theorem tZ37 : tZero Try.prog 37 = some [.at (.nilFunc)] := by kernel_rfl
@[go_sem] theorem tY37 : tBytes Try.prog 37 = some 8 := by kernel_rfl
@[go_sem] theorem tS38 : tSize Try.prog 38 = some 1 := by kernel_rfl
@[go_sem] theorem tA38 : tAgg Try.prog 38 = some false := by kernel_rfl
@[go_sem] theorem tU38 : Try.prog.underlying 38 = some (.int .i64) := by kernel_rfl
@[go_sem] theorem tZ38 : tZero Try.prog 38 = some [.at (.int .i64 0)] := by kernel_rfl
@[go_sem] theorem tY38 : tBytes Try.prog 38 = some 8 := by kernel_rfl
@[go_sem] theorem tS39 : tSize Try.prog 39 = some 1 := by kernel_rfl
@[go_sem] theorem tA39 : tAgg Try.prog 39 = some false := by kernel_rfl
@[go_sem] theorem tZ39 : tZero Try.prog 39 = some [.at (.nilFunc)] := by kernel_rfl
@[go_sem] theorem tY39 : tBytes Try.prog 39 = some 8 := by kernel_rfl
@[go_sem] theorem tS40 : tSize Try.prog 40 = some 1 := by kernel_rfl
@[go_sem] theorem tA40 : tAgg Try.prog 40 = some false := by kernel_rfl
@[go_sem] theorem tZ40 : tZero Try.prog 40 = some [.at (.nilFunc)] := by kernel_rfl
@[go_sem] theorem tY40 : tBytes Try.prog 40 = some 8 := by kernel_rfl
@[go_sem] theorem tS41 : tSize Try.prog 41 = some 1 := by kernel_rfl
@[go_sem] theorem tA41 : tAgg Try.prog 41 = some false := by kernel_rfl
@[go_sem] theorem tZ41 : tZero Try.prog 41 = some [.at (.nilFunc)] := by kernel_rfl
@[go_sem] theorem tY41 : tBytes Try.prog 41 = some 8 := by kernel_rfl
@[go_sem] theorem tS42 : tSize Try.prog 42 = some 1 := by kernel_rfl
@[go_sem] theorem tA42 : tAgg Try.prog 42 = some false := by kernel_rfl
@[go_sem] theorem tZ42 : tZero Try.prog 42 = some [.at (.nilFunc)] := by kernel_rfl
@[go_sem] theorem tY42 : tBytes Try.prog 42 = some 8 := by kernel_rfl
@[go_sem] theorem tS43 : tSize Try.prog 43 = some 1 := by kernel_rfl
@[go_sem] theorem tA43 : tAgg Try.prog 43 = some false := by kernel_rfl
@[go_sem] theorem tZ43 : tZero Try.prog 43 = some [.at (.nilFunc)] := by kernel_rfl
@[go_sem] theorem tY43 : tBytes Try.prog 43 = some 8 := by kernel_rfl
@[go_sem] theorem tS44 : tSize Try.prog 44 = some 1 := by kernel_rfl
@[go_sem] theorem tA44 : tAgg Try.prog 44 = some false := by kernel_rfl
@[go_sem] theorem tU44 : Try.prog.underlying 44 = some (.slice 92) := by kernel_rfl
@[go_sem] theorem tZ44 : tZero Try.prog 44 = some [.at (.slice none 0 0)] := by kernel_rfl
@[go_sem] theorem tY44 : tBytes Try.prog 44 = some 24 := by kernel_rfl
@[go_sem] theorem tS45 : tSize Try.prog 45 = some 2 := by kernel_rfl
@[go_sem] theorem tA45 : tAgg Try.prog 45 = some true := by kernel_rfl
@[go_sem] theorem tF45_0 (x : AV) : fieldAddrA Try.prog 45 x 0 = plusA 0 x := by kernel_rfl
@[go_sem] theorem tG45_0 (cs : List AV) : fieldA Try.prog 45 (.agg cs) 0 = partA Try.prog 4 cs 0 := by kernel_rfl
@[go_sem] theorem tF45_1 (x : AV) : fieldAddrA Try.prog 45 x 1 = plusA 1 x := by kernel_rfl
@[go_sem] theorem tG45_1 (cs : List AV) : fieldA Try.prog 45 (.agg cs) 1 = partA Try.prog 44 cs 1 := by kernel_rfl
@[go_sem] theorem tB45 (ρ : Operand → AV) (parts : Array (Nat × Operand)) : opBuild Try.prog ρ 45 parts = (match fillA (fun i => [(0, 1), (1, 1)][i]?) [.at (.bool false), .at (.slice none 0 0)] (parts.toList.map fun p => (p.1, ρ p.2)) with | some cs => some (.pure (.agg cs)) | none => none) := by kernel_rfl
@[go_sem] theorem tZ45 : tZero Try.prog 45 = some [.at (.bool false), .at (.slice none 0 0)] := by kernel_rfl
@[go_sem] theorem tY45 : tBytes Try.prog 45 = some 32 := by kernel_rfl
@[go_sem] theorem tS46 : tSize Try.prog 46 = some 2 := by kernel_rfl
@[go_sem] theorem tA46 : tAgg Try.prog 46 = some true := by kernel_rfl
@[go_sem] theorem tF46_0 (x : AV) : fieldAddrA Try.prog 46 x 0 = plusA 0 x := by kernel_rfl
@[go_sem] theorem tG46_0 (cs : List AV) : fieldA Try.prog 46 (.agg cs) 0 = partA Try.prog 4 cs 0 := by kernel_rfl
@[go_sem] theorem tF46_1 (x : AV) : fieldAddrA Try.prog 46 x 1 = plusA 1 x := by kernel_rfl
@[go_sem] theorem tG46_1 (cs : List AV) : fieldA Try.prog 46 (.agg cs) 1 = partA Try.prog 44 cs 1 := by kernel_rfl
@[go_sem] theorem tB46 (ρ : Operand → AV) (parts : Array (Nat × Operand)) : opBuild Try.prog ρ 46 parts = (match fillA (fun i => [(0, 1), (1, 1)][i]?) [.at (.bool false), .at (.slice none 0 0)] (parts.toList.map fun p => (p.1, ρ p.2)) with | some cs => some (.pure (.agg cs)) | none => none) := by kernel_rfl
@[go_sem] theorem tZ46 : tZero Try.prog 46 = some [.at (.bool false), .at (.slice none 0 0)] := by kernel_rfl
@[go_sem] theorem tY46 : tBytes Try.prog 46 = some 32 := by kernel_rfl
@[go_sem] theorem tS47 : tSize Try.prog 47 = some 4 := by kernel_rfl
@[go_sem] theorem tA47 : tAgg Try.prog 47 = some true := by kernel_rfl
@[go_sem] theorem tF47_0 (x : AV) : fieldAddrA Try.prog 47 x 0 = plusA 0 x := by kernel_rfl
@[go_sem] theorem tG47_0 (cs : List AV) : fieldA Try.prog 47 (.agg cs) 0 = partA Try.prog 46 cs 0 := by kernel_rfl
@[go_sem] theorem tF47_1 (x : AV) : fieldAddrA Try.prog 47 x 1 = plusA 2 x := by kernel_rfl
@[go_sem] theorem tG47_1 (cs : List AV) : fieldA Try.prog 47 (.agg cs) 1 = partA Try.prog 46 cs 2 := by kernel_rfl
@[go_sem] theorem tB47 (ρ : Operand → AV) (parts : Array (Nat × Operand)) : opBuild Try.prog ρ 47 parts = (match fillA (fun i => [(0, 2), (2, 2)][i]?) [.at (.bool false), .at (.slice none 0 0), .at (.bool false), .at (.slice none 0 0)] (parts.toList.map fun p => (p.1, ρ p.2)) with | some cs => some (.pure (.agg cs)) | none => none) := by kernel_rfl
@[go_sem] theorem tZ47 : tZero Try.prog 47 = some [.at (.bool false), .at (.slice none 0 0), .at (.bool false), .at (.slice none 0 0)] := by kernel_rfl
@[go_sem] theorem tY47 : tBytes Try.prog 47 = some 64 := by kernel_rfl
@[go_sem] theorem tS48 : tSize Try.prog 48 = some 4 := by kernel_rfl
@[go_sem] theorem tA48 : tAgg Try.prog 48 = some true := by kernel_rfl
@[go_sem] theorem tF48_0 (x : AV) : fieldAddrA Try.prog 48 x 0 = plusA 0 x := by kernel_rfl
@[go_sem] theorem tG48_0 (cs : List AV) : fieldA Try.prog 48 (.agg cs) 0 = partA Try.prog 46 cs 0 := by kernel_rfl
@[go_sem] theorem tF48_1 (x : AV) : fieldAddrA Try.prog 48 x 1 = plusA 2 x := by kernel_rfl
@[go_sem] theorem tG48_1 (cs : List AV) : fieldA Try.prog 48 (.agg cs) 1 = partA Try.prog 46 cs 2 := by kernel_rfl
@[go_sem] theorem tB48 (ρ : Operand → AV) (parts : Array (Nat × Operand)) : opBuild Try.prog ρ 48 parts = (match fillA (fun i => [(0, 2), (2, 2)][i]?) [.at (.bool false), .at (.slice none 0 0), .at (.bool false), .at (.slice none 0 0)] (parts.toList.map fun p => (p.1, ρ p.2)) with | some cs => some (.pure (.agg cs)) | none => none) := by kernel_rfl
@[go_sem] theorem tZ48 : tZero Try.prog 48 = some [.at (.bool false), .at (.slice none 0 0), .at (.bool false), .at (.slice none 0 0)] := by kernel_rfl
@[go_sem] theorem tY48 : tBytes Try.prog 48 = some 64 := by kernel_rfl
@[go_sem] theorem tS49 : tSize Try.prog 49 = some 8 := by kernel_rfl
@[go_sem] theorem tA49 : tAgg Try.prog 49 = some true := by kernel_rfl
@[go_sem] theorem tF49_0 (x : AV) : fieldAddrA Try.prog 49 x 0 = plusA 0 x := by kernel_rfl
@[go_sem] theorem tG49_0 (cs : List AV) : fieldA Try.prog 49 (.agg cs) 0 = partA Try.prog 48 cs 0 := by kernel_rfl
@[go_sem] theorem tF49_1 (x : AV) : fieldAddrA Try.prog 49 x 1 = plusA 4 x := by kernel_rfl
@[go_sem] theorem tG49_1 (cs : List AV) : fieldA Try.prog 49 (.agg cs) 1 = partA Try.prog 48 cs 4 := by kernel_rfl
@[go_sem] theorem tB49 (ρ : Operand → AV) (parts : Array (Nat × Operand)) : opBuild Try.prog ρ 49 parts = (match fillA (fun i => [(0, 4), (4, 4)][i]?) [.at (.bool false), .at (.slice none 0 0), .at (.bool false), .at (.slice none 0 0), .at (.bool false), .at (.slice none 0 0), .at (.bool false), .at (.slice none 0 0)] (parts.toList.map fun p => (p.1, ρ p.2)) with | some cs => some (.pure (.agg cs)) | none => none) := by kernel_rfl
@[go_sem] theorem tZ49 : tZero Try.prog 49 = some [.at (.bool false), .at (.slice none 0 0), .at (.bool false), .at (.slice none 0 0), .at (.bool false), .at (.slice none 0 0), .at (.bool false), .at (.slice none 0 0)] := by kernel_rfl
@[go_sem] theorem tY49 : tBytes Try.prog 49 = some 128 := by kernel_rfl
@[go_sem] theorem tS50 : tSize Try.prog 50 = some 8 := by kernel_rfl
@[go_sem] theorem tA50 : tAgg Try.prog 50 = some true := by kernel_rfl
@[go_sem] theorem tF50_0 (x : AV) : fieldAddrA Try.prog 50 x 0 = plusA 0 x := by kernel_rfl
@[go_sem] theorem tG50_0 (cs : List AV) : fieldA Try.prog 50 (.agg cs) 0 = partA Try.prog 48 cs 0 := by kernel_rfl
@[go_sem] theorem tF50_1 (x : AV) : fieldAddrA Try.prog 50 x 1 = plusA 4 x := by kernel_rfl
@[go_sem] theorem tG50_1 (cs : List AV) : fieldA Try.prog 50 (.agg cs) 1 = partA Try.prog 48 cs 4 := by kernel_rfl
@[go_sem] theorem tB50 (ρ : Operand → AV) (parts : Array (Nat × Operand)) : opBuild Try.prog ρ 50 parts = (match fillA (fun i => [(0, 4), (4, 4)][i]?) [.at (.bool false), .at (.slice none 0 0), .at (.bool false), .at (.slice none 0 0), .at (.bool false), .at (.slice none 0 0), .at (.bool false), .at (.slice none 0 0)] (parts.toList.map fun p => (p.1, ρ p.2)) with | some cs => some (.pure (.agg cs)) | none => none) := by kernel_rfl
@[go_sem] theorem tZ50 : tZero Try.prog 50 = some [.at (.bool false), .at (.slice none 0 0), .at (.bool false), .at (.slice none 0 0), .at (.bool false), .at (.slice none 0 0), .at (.bool false), .at (.slice none 0 0)] := by kernel_rfl
@[go_sem] theorem tY50 : tBytes Try.prog 50 = some 128 := by kernel_rfl
@[go_sem] theorem tS51 : tSize Try.prog 51 = some 1 := by kernel_rfl
@[go_sem] theorem tA51 : tAgg Try.prog 51 = some false := by kernel_rfl
@[go_sem] theorem tY51 : tBytes Try.prog 51 = some 0 := by kernel_rfl
@[go_sem] theorem tS52 : tSize Try.prog 52 = some 1 := by kernel_rfl
@[go_sem] theorem tA52 : tAgg Try.prog 52 = some false := by kernel_rfl
@[go_sem] theorem tZ52 : tZero Try.prog 52 = some [.at (.nilFunc)] := by kernel_rfl
@[go_sem] theorem tY52 : tBytes Try.prog 52 = some 8 := by kernel_rfl
@[go_sem] theorem tS53 : tSize Try.prog 53 = some 1 := by kernel_rfl
@[go_sem] theorem tA53 : tAgg Try.prog 53 = some false := by kernel_rfl
@[go_sem] theorem tU53 : Try.prog.underlying 53 = some (.slice 4) := by kernel_rfl
@[go_sem] theorem tZ53 : tZero Try.prog 53 = some [.at (.slice none 0 0)] := by kernel_rfl
@[go_sem] theorem tY53 : tBytes Try.prog 53 = some 24 := by kernel_rfl
@[go_sem] theorem tS54 : tSize Try.prog 54 = some 1 := by kernel_rfl
@[go_sem] theorem tA54 : tAgg Try.prog 54 = some false := by kernel_rfl
@[go_sem] theorem tY54 : tBytes Try.prog 54 = some 0 := by kernel_rfl
@[go_sem] theorem tS55 : tSize Try.prog 55 = some 1 := by kernel_rfl
@[go_sem] theorem tA55 : tAgg Try.prog 55 = some false := by kernel_rfl
@[go_sem] theorem tZ55 : tZero Try.prog 55 = some [.at (.nilFunc)] := by kernel_rfl
@[go_sem] theorem tY55 : tBytes Try.prog 55 = some 8 := by kernel_rfl
@[go_sem] theorem tS56 : tSize Try.prog 56 = some 1 := by kernel_rfl
@[go_sem] theorem tA56 : tAgg Try.prog 56 = some false := by kernel_rfl
@[go_sem] theorem tZ56 : tZero Try.prog 56 = some [.at (.nilFunc)] := by kernel_rfl
@[go_sem] theorem tY56 : tBytes Try.prog 56 = some 8 := by kernel_rfl
@[go_sem] theorem tS57 : tSize Try.prog 57 = some 1 := by kernel_rfl
@[go_sem] theorem tA57 : tAgg Try.prog 57 = some false := by kernel_rfl
@[go_sem] theorem tZ57 : tZero Try.prog 57 = some [.at (.nilFunc)] := by kernel_rfl
@[go_sem] theorem tY57 : tBytes Try.prog 57 = some 8 := by kernel_rfl
@[go_sem] theorem tS58 : tSize Try.prog 58 = some 1 := by kernel_rfl
@[go_sem] theorem tA58 : tAgg Try.prog 58 = some false := by kernel_rfl
@[go_sem] theorem tZ58 : tZero Try.prog 58 = some [.at (.nilFunc)] := by kernel_rfl
@[go_sem] theorem tY58 : tBytes Try.prog 58 = some 8 := by kernel_rfl
@[go_sem] theorem tS59 : tSize Try.prog 59 = some 1 := by kernel_rfl
@[go_sem] theorem tA59 : tAgg Try.prog 59 = some false := by kernel_rfl
@[go_sem] theorem tU59 : Try.prog.underlying 59 = some (.slice 26) := by kernel_rfl
@[go_sem] theorem tZ59 : tZero Try.prog 59 = some [.at (.slice none 0 0)] := by kernel_rfl
@[go_sem] theorem tY59 : tBytes Try.prog 59 = some 24 := by kernel_rfl
@[go_sem] theorem tS60 : tSize Try.prog 60 = some 1 := by kernel_rfl
@[go_sem] theorem tA60 : tAgg Try.prog 60 = some false := by kernel_rfl
@[go_sem] theorem tZ60 : tZero Try.prog 60 = some [.at (.nilFunc)] := by kernel_rfl
@[go_sem] theorem tY60 : tBytes Try.prog 60 = some 8 := by kernel_rfl
@[go_sem] theorem tS61 : tSize Try.prog 61 = some 1 := by kernel_rfl
@[go_sem] theorem tA61 : tAgg Try.prog 61 = some false := by kernel_rfl
@[go_sem] theorem tZ61 : tZero Try.prog 61 = some [.at (.nilFunc)] := by kernel_rfl
@[go_sem] theorem tY61 : tBytes Try.prog 61 = some 8 := by kernel_rfl
@[go_sem] theorem tS62 : tSize Try.prog 62 = some 1 := by kernel_rfl
@[go_sem] theorem tA62 : tAgg Try.prog 62 = some false := by kernel_rfl
@[go_sem] theorem tZ62 : tZero Try.prog 62 = some [.at (.nilFunc)] := by kernel_rfl
@[go_sem] theorem tY62 : tBytes Try.prog 62 = some 8 := by kernel_rfl
@[go_sem] theorem tS63 : tSize Try.prog 63 = some 1 := by kernel_rfl
@[go_sem] theorem tA63 : tAgg Try.prog 63 = some false := by kernel_rfl
@[go_sem] theorem tZ63 : tZero Try.prog 63 = some [.at (.nilFunc)] := by kernel_rfl
@[go_sem] theorem tY63 : tBytes Try.prog 63 = some 8 := by kernel_rfl
@[go_sem] theorem tS64 : tSize Try.prog 64 = some 1 := by kernel_rfl
@[go_sem] theorem tA64 : tAgg Try.prog 64 = some false := by kernel_rfl
@[go_sem] theorem tY64 : tBytes Try.prog 64 = some 0 := by kernel_rfl
@[go_sem] theorem tS65 : tSize Try.prog 65 = some 1 := by kernel_rfl
@[go_sem] theorem tA65 : tAgg Try.prog 65 = some false := by kernel_rfl
@[go_sem] theorem tZ65 : tZero Try.prog 65 = some [.at (.nilFunc)] := by kernel_rfl
@[go_sem] theorem tY65 : tBytes Try.prog 65 = some 8 := by kernel_rfl
@[go_sem] theorem tS66 : tSize Try.prog 66 = some 1 := by kernel_rfl
@[go_sem] theorem tA66 : tAgg Try.prog 66 = some false := by kernel_rfl
@[go_sem] theorem tZ66 : tZero Try.prog 66 = some [.at (.nilFunc)] := by kernel_rfl
@[go_sem] theorem tY66 : tBytes Try.prog 66 = some 8 := by kernel_rfl
@[go_sem] theorem tS67 : tSize Try.prog 67 = some 2 := by kernel_rfl
@[go_sem] theorem tA67 : tAgg Try.prog 67 = some true := by kernel_rfl
@[go_sem] theorem tU67 : Try.prog.underlying 67 = some (.array 2 3) := by kernel_rfl
@[go_sem] theorem tZ67 : tZero Try.prog 67 = some [.at (.int .i64 0), .at (.int .i64 0)] := by kernel_rfl
@[go_sem] theorem tY67 : tBytes Try.prog 67 = some 16 := by kernel_rfl
@[go_sem] theorem tS68 : tSize Try.prog 68 = some 1 := by kernel_rfl
@[go_sem] theorem tA68 : tAgg Try.prog 68 = some false := by kernel_rfl
@[go_sem] theorem tZ68 : tZero Try.prog 68 = some [.at (.nilFunc)] := by kernel_rfl
@[go_sem] theorem tY68 : tBytes Try.prog 68 = some 8 := by kernel_rfl
@[go_sem] theorem tS69 : tSize Try.prog 69 = some 1 := by kernel_rfl
@[go_sem] theorem tA69 : tAgg Try.prog 69 = some false := by kernel_rfl
@[go_sem] theorem tZ69 : tZero Try.prog 69 = some [.at (.nilFunc)] := by kernel_rfl
@[go_sem] theorem tY69 : tBytes Try.prog 69 = some 8 := by kernel_rfl
@[go_sem] theorem tS70 : tSize Try.prog 70 = some 1 := by kernel_rfl
@[go_sem] theorem tA70 : tAgg Try.prog 70 = some false := by kernel_rfl
@[go_sem] theorem tZ70 : tZero Try.prog 70 = some [.at (.nilFunc)] := by kernel_rfl
@[go_sem] theorem tY70 : tBytes Try.prog 70 = some 8 := by kernel_rfl
@[go_sem] theorem tS71 : tSize Try.prog 71 = some 1 := by kernel_rfl
@[go_sem] theorem tA71 : tAgg Try.prog 71 = some false := by kernel_rfl
@[go_sem] theorem tZ71 : tZero Try.prog 71 = some [.at (.nilFunc)] := by kernel_rfl
@[go_sem] theorem tY71 : tBytes Try.prog 71 = some 8 := by kernel_rfl
@[go_sem] theorem tS72 : tSize Try.prog 72 = some 1 := by kernel_rfl
@[go_sem] theorem tA72 : tAgg Try.prog 72 = some false := by kernel_rfl
@[go_sem] theorem tZ72 : tZero Try.prog 72 = some [.at (.nilFunc)] := by kernel_rfl
@[go_sem] theorem tY72 : tBytes Try.prog 72 = some 8 := by kernel_rfl
@[go_sem] theorem tS73 : tSize Try.prog 73 = some 1 := by kernel_rfl
@[go_sem] theorem tA73 : tAgg Try.prog 73 = some false := by kernel_rfl
@[go_sem] theorem tZ73 : tZero Try.prog 73 = some [.at (.nilFunc)] := by kernel_rfl
@[go_sem] theorem tY73 : tBytes Try.prog 73 = some 8 := by kernel_rfl
@[go_sem] theorem tS74 : tSize Try.prog 74 = some 1 := by kernel_rfl
@[go_sem] theorem tA74 : tAgg Try.prog 74 = some false := by kernel_rfl
@[go_sem] theorem tZ74 : tZero Try.prog 74 = some [.at (.nilFunc)] := by kernel_rfl
@[go_sem] theorem tY74 : tBytes Try.prog 74 = some 8 := by kernel_rfl
@[go_sem] theorem tS75 : tSize Try.prog 75 = some 1 := by kernel_rfl
@[go_sem] theorem tA75 : tAgg Try.prog 75 = some false := by kernel_rfl
@[go_sem] theorem tZ75 : tZero Try.prog 75 = some [.at (.nilFunc)] := by kernel_rfl
@[go_sem] theorem tY75 : tBytes Try.prog 75 = some 8 := by kernel_rfl
@[go_sem] theorem tS76 : tSize Try.prog 76 = some 1 := by kernel_rfl
@[go_sem] theorem tA76 : tAgg Try.prog 76 = some false := by kernel_rfl
@[go_sem] theorem tZ76 : tZero Try.prog 76 = some [.at (.nilFunc)] := by kernel_rfl
@[go_sem] theorem tY76 : tBytes Try.prog 76 = some 8 := by kernel_rfl
@[go_sem] theorem tS77 : tSize Try.prog 77 = some 1 := by kernel_rfl
@[go_sem] theorem tA77 : tAgg Try.prog 77 = some false := by kernel_rfl
@[go_sem] theorem tZ77 : tZero Try.prog 77 = some [.at (.nilFunc)] := by kernel_rfl
@[go_sem] theorem tY77 : tBytes Try.prog 77 = some 8 := by kernel_rfl
@[go_sem] theorem tS78 : tSize Try.prog 78 = some 1 := by kernel_rfl
@[go_sem] theorem tA78 : tAgg Try.prog 78 = some false := by kernel_rfl
@[go_sem] theorem tZ78 : tZero Try.prog 78 = some [.at (.nilFunc)] := by kernel_rfl
@[go_sem] theorem tY78 : tBytes Try.prog 78 = some 8 := by kernel_rfl
@[go_sem] theorem tS79 : tSize Try.prog 79 = some 1 := by kernel_rfl
@[go_sem] theorem tA79 : tAgg Try.prog 79 = some false := by kernel_rfl
@[go_sem] theorem tZ79 : tZero Try.prog 79 = some [.at (.nilFunc)] := by kernel_rfl
@[go_sem] theorem tY79 : tBytes Try.prog 79 = some 8 := by kernel_rfl
@[go_sem] theorem tS80 : tSize Try.prog 80 = some 1 := by kernel_rfl
@[go_sem] theorem tA80 : tAgg Try.prog 80 = some false := by kernel_rfl
@[go_sem] theorem tZ80 : tZero Try.prog 80 = some [.at (.nilFunc)] := by kernel_rfl
@[go_sem] theorem tY80 : tBytes Try.prog 80 = some 8 := by kernel_rfl
@[go_sem] theorem tS81 : tSize Try.prog 81 = some 1 := by kernel_rfl
@[go_sem] theorem tA81 : tAgg Try.prog 81 = some false := by kernel_rfl
@[go_sem] theorem tZ81 : tZero Try.prog 81 = some [.at (.nilFunc)] := by kernel_rfl
@[go_sem] theorem tY81 : tBytes Try.prog 81 = some 8 := by kernel_rfl
@[go_sem] theorem tS82 : tSize Try.prog 82 = some 1 := by kernel_rfl
@[go_sem] theorem tA82 : tAgg Try.prog 82 = some false := by kernel_rfl
@[go_sem] theorem tZ82 : tZero Try.prog 82 = some [.at (.nilFunc)] := by kernel_rfl
@[go_sem] theorem tY82 : tBytes Try.prog 82 = some 8 := by kernel_rfl
@[go_sem] theorem tS83 : tSize Try.prog 83 = some 1 := by kernel_rfl
@[go_sem] theorem tA83 : tAgg Try.prog 83 = some false := by kernel_rfl
@[go_sem] theorem tZ83 : tZero Try.prog 83 = some [.at (.nilFunc)] := by kernel_rfl
@[go_sem] theorem tY83 : tBytes Try.prog 83 = some 8 := by kernel_rfl
@[go_sem] theorem tS84 : tSize Try.prog 84 = some 1 := by kernel_rfl
@[go_sem] theorem tA84 : tAgg Try.prog 84 = some false := by kernel_rfl
@[go_sem] theorem tU84 : Try.prog.underlying 84 = some (.int .u64) := by kernel_rfl
@[go_sem] theorem tZ84 : tZero Try.prog 84 = some [.at (.int .u64 0)] := by kernel_rfl
@[go_sem] theorem tY84 : tBytes Try.prog 84 = some 8 := by kernel_rfl
@[go_sem] theorem tS85 : tSize Try.prog 85 = some 1 := by kernel_rfl
@[go_sem] theorem tA85 : tAgg Try.prog 85 = some false := by kernel_rfl
@[go_sem] theorem tZ85 : tZero Try.prog 85 = some [.at (.nilFunc)] := by kernel_rfl
@[go_sem] theorem tY85 : tBytes Try.prog 85 = some 8 := by kernel_rfl
@[go_sem] theorem tS86 : tSize Try.prog 86 = some 1 := by kernel_rfl
@[go_sem] theorem tA86 : tAgg Try.prog 86 = some false := by kernel_rfl
@[go_sem] theorem tZ86 : tZero Try.prog 86 = some [.at (.nilFunc)] := by kernel_rfl
@[go_sem] theorem tY86 : tBytes Try.prog 86 = some 8 := by kernel_rfl
@[go_sem] theorem tS87 : tSize Try.prog 87 = some 1 := by kernel_rfl
@[go_sem] theorem tA87 : tAgg Try.prog 87 = some false := by kernel_rfl
@[go_sem] theorem tZ87 : tZero Try.prog 87 = some [.at (.nilFunc)] := by kernel_rfl
@[go_sem] theorem tY87 : tBytes Try.prog 87 = some 8 := by kernel_rfl
@[go_sem] theorem tS88 : tSize Try.prog 88 = some 1 := by kernel_rfl
@[go_sem] theorem tA88 : tAgg Try.prog 88 = some false := by kernel_rfl
@[go_sem] theorem tY88 : tBytes Try.prog 88 = some 0 := by kernel_rfl
@[go_sem] theorem tS89 : tSize Try.prog 89 = some 1 := by kernel_rfl
@[go_sem] theorem tA89 : tAgg Try.prog 89 = some false := by kernel_rfl
@[go_sem] theorem tZ89 : tZero Try.prog 89 = some [.at (.nilFunc)] := by kernel_rfl
@[go_sem] theorem tY89 : tBytes Try.prog 89 = some 8 := by kernel_rfl
@[go_sem] theorem tS90 : tSize Try.prog 90 = some 1 := by kernel_rfl
@[go_sem] theorem tA90 : tAgg Try.prog 90 = some false := by kernel_rfl
@[go_sem] theorem tZ90 : tZero Try.prog 90 = some [.at (.nilFunc)] := by kernel_rfl
@[go_sem] theorem tY90 : tBytes Try.prog 90 = some 8 := by kernel_rfl
@[go_sem] theorem tS91 : tSize Try.prog 91 = some 1 := by kernel_rfl
@[go_sem] theorem tA91 : tAgg Try.prog 91 = some false := by kernel_rfl
@[go_sem] theorem tZ91 : tZero Try.prog 91 = some [.at (.nilFunc)] := by kernel_rfl
@[go_sem] theorem tY91 : tBytes Try.prog 91 = some 8 := by kernel_rfl
@[go_sem] theorem tS92 : tSize Try.prog 92 = some 1 := by kernel_rfl
@[go_sem] theorem tA92 : tAgg Try.prog 92 = some false := by kernel_rfl
@[go_sem] theorem tU92 : Try.prog.underlying 92 = some (.int .u32) := by kernel_rfl
@[go_sem] theorem tZ92 : tZero Try.prog 92 = some [.at (.int .u32 0)] := by kernel_rfl
@[go_sem] theorem tY92 : tBytes Try.prog 92 = some 4 := by kernel_rfl
@[go_sem] theorem tS93 : tSize Try.prog 93 = some 1 := by kernel_rfl
@[go_sem] theorem tA93 : tAgg Try.prog 93 = some false := by kernel_rfl
@[go_sem] theorem tY93 : tBytes Try.prog 93 = some 0 := by kernel_rfl
@[go_sem] theorem tS94 : tSize Try.prog 94 = some 1 := by kernel_rfl
@[go_sem] theorem tA94 : tAgg Try.prog 94 = some false := by kernel_rfl
@[go_sem] theorem tZ94 : tZero Try.prog 94 = some [.at (.nilFunc)] := by kernel_rfl
@[go_sem] theorem tY94 : tBytes Try.prog 94 = some 8 := by kernel_rfl
@[go_sem] theorem tS95 : tSize Try.prog 95 = some 1 := by kernel_rfl
@[go_sem] theorem tA95 : tAgg Try.prog 95 = some false := by kernel_rfl
@[go_sem] theorem tZ95 : tZero Try.prog 95 = some [.at (.nilFunc)] := by kernel_rfl
@[go_sem] theorem tY95 : tBytes Try.prog 95 = some 8 := by kernel_rfl
@[go_sem] theorem tS96 : tSize Try.prog 96 = some 1 := by kernel_rfl
@[go_sem] theorem tA96 : tAgg Try.prog 96 = some false := by kernel_rfl
@[go_sem] theorem tZ96 : tZero Try.prog 96 = some [.at (.nilFunc)] := by kernel_rfl
@[go_sem] theorem tY96 : tBytes Try.prog 96 = some 8 := by kernel_rfl
@[go_sem] theorem tS97 : tSize Try.prog 97 = some 1 := by kernel_rfl
@[go_sem] theorem tA97 : tAgg Try.prog 97 = some false := by kernel_rfl
@[go_sem] theorem tY97 : tBytes Try.prog 97 = some 0 := by kernel_rfl
@[go_sem] theorem tS98 : tSize Try.prog 98 = some 1 := by kernel_rfl
@[go_sem] theorem tA98 : tAgg Try.prog 98 = some false := by kernel_rfl
@[go_sem] theorem tZ98 : tZero Try.prog 98 = some [.at (.nilFunc)] := by kernel_rfl
@[go_sem] theorem tY98 : tBytes Try.prog 98 = some 8 := by kernel_rfl
@[go_sem] theorem tS99 : tSize Try.prog 99 = some 1 := by kernel_rfl
@[go_sem] theorem tA99 : tAgg Try.prog 99 = some false := by kernel_rfl
@[go_sem] theorem tY99 : tBytes Try.prog 99 = some 0 := by kernel_rfl
@[go_sem] theorem tS100 : tSize Try.prog 100 = some 1 := by kernel_rfl
@[go_sem] theorem tA100 : tAgg Try.prog 100 = some false := by kernel_rfl
@[go_sem] theorem tZ100 : tZero Try.prog 100 = some [.at (.nilFunc)] := by kernel_rfl
@[go_sem] theorem tY100 : tBytes Try.prog 100 = some 8 := by kernel_rfl
@[go_sem] theorem tS101 : tSize Try.prog 101 = some 1 := by kernel_rfl
@[go_sem] theorem tA101 : tAgg Try.prog 101 = some false := by kernel_rfl
@[go_sem] theorem tZ101 : tZero Try.prog 101 = some [.at (.nilFunc)] := by kernel_rfl
@[go_sem] theorem tY101 : tBytes Try.prog 101 = some 8 := by kernel_rfl
@[go_sem] theorem tS102 : tSize Try.prog 102 = some 1 := by kernel_rfl
@[go_sem] theorem tA102 : tAgg Try.prog 102 = some false := by kernel_rfl
@[go_sem] theorem tZ102 : tZero Try.prog 102 = some [.at (.nilFunc)] := by kernel_rfl
@[go_sem] theorem tY102 : tBytes Try.prog 102 = some 8 := by kernel_rfl
@[go_sem] theorem tS103 : tSize Try.prog 103 = some 1 := by kernel_rfl
@[go_sem] theorem tA103 : tAgg Try.prog 103 = some false := by kernel_rfl
@[go_sem] theorem tZ103 : tZero Try.prog 103 = some [.at (.nilFunc)] := by kernel_rfl
@[go_sem] theorem tY103 : tBytes Try.prog 103 = some 8 := by kernel_rfl
@[go_sem] theorem tS104 : tSize Try.prog 104 = some 1 := by kernel_rfl
@[go_sem] theorem tA104 : tAgg Try.prog 104 = some false := by kernel_rfl
@[go_sem] theorem tZ104 : tZero Try.prog 104 = some [.at (.nilFunc)] := by kernel_rfl
@[go_sem] theorem tY104 : tBytes Try.prog 104 = some 8 := by kernel_rfl
@[go_sem] theorem tS105 : tSize Try.prog 105 = some 1 := by kernel_rfl
@[go_sem] theorem tA105 : tAgg Try.prog 105 = some false := by kernel_rfl
@[go_sem] theorem tZ105 : tZero Try.prog 105 = some [.at (.nilFunc)] := by kernel_rfl
@[go_sem] theorem tY105 : tBytes Try.prog 105 = some 8 := by kernel_rfl
@[go_sem] theorem tS106 : tSize Try.prog 106 = some 1 := by kernel_rfl
@[go_sem] theorem tA106 : tAgg Try.prog 106 = some false := by kernel_rfl
@[go_sem] theorem tZ106 : tZero Try.prog 106 = some [.at (.nilFunc)] := by kernel_rfl
@[go_sem] theorem tY106 : tBytes Try.prog 106 = some 8 := by kernel_rfl
@[go_sem] theorem tS107 : tSize Try.prog 107 = some 1 := by kernel_rfl
@[go_sem] theorem tA107 : tAgg Try.prog 107 = some false := by kernel_rfl
@[go_sem] theorem tZ107 : tZero Try.prog 107 = some [.at (.nilFunc)] := by kernel_rfl
@[go_sem] theorem tY107 : tBytes Try.prog 107 = some 8 := by kernel_rfl
@[go_sem] theorem tS108 : tSize Try.prog 108 = some 1 := by kernel_rfl
@[go_sem] theorem tA108 : tAgg Try.prog 108 = some false := by kernel_rfl
@[go_sem] theorem tZ108 : tZero Try.prog 108 = some [.at (.nilFunc)] := by kernel_rfl
@[go_sem] theorem tY108 : tBytes Try.prog 108 = some 8 := by kernel_rfl
@[go_sem] theorem tS109 : tSize Try.prog 109 = some 1 := by kernel_rfl
@[go_sem] theorem tA109 : tAgg Try.prog 109 = some false := by kernel_rfl
@[go_sem] theorem tZ109 : tZero Try.prog 109 = some [.at (.nilFunc)] := by kernel_rfl
@[go_sem] theorem tY109 : tBytes Try.prog 109 = some 8 := by kernel_rfl
@[go_sem] theorem tS110 : tSize Try.prog 110 = some 1 := by kernel_rfl
@[go_sem] theorem tA110 : tAgg Try.prog 110 = some false := by kernel_rfl
@[go_sem] theorem tZ110 : tZero Try.prog 110 = some [.at (.nilFunc)] := by kernel_rfl
@[go_sem] theorem tY110 : tBytes Try.prog 110 = some 8 := by kernel_rfl
@[go_sem] theorem tS111 : tSize Try.prog 111 = some 1 := by kernel_rfl
@[go_sem] theorem tA111 : tAgg Try.prog 111 = some false := by kernel_rfl
@[go_sem] theorem tY111 : tBytes Try.prog 111 = some 0 := by kernel_rfl
@[go_sem] theorem tS112 : tSize Try.prog 112 = some 1 := by kernel_rfl
@[go_sem] theorem tA112 : tAgg Try.prog 112 = some false := by kernel_rfl
@[go_sem] theorem tZ112 : tZero Try.prog 112 = some [.at (.nilFunc)] := by kernel_rfl
@[go_sem] theorem tY112 : tBytes Try.prog 112 = some 8 := by kernel_rfl
@[go_sem] theorem tS113 : tSize Try.prog 113 = some 1 := by kernel_rfl
@[go_sem] theorem tA113 : tAgg Try.prog 113 = some false := by kernel_rfl
@[go_sem] theorem tZ113 : tZero Try.prog 113 = some [.at (.nilFunc)] := by kernel_rfl
@[go_sem] theorem tY113 : tBytes Try.prog 113 = some 8 := by kernel_rfl
@[go_sem] theorem tS114 : tSize Try.prog 114 = some 1 := by kernel_rfl
@[go_sem] theorem tA114 : tAgg Try.prog 114 = some false := by kernel_rfl
@[go_sem] theorem tZ114 : tZero Try.prog 114 = some [.at (.nilFunc)] := by kernel_rfl
@[go_sem] theorem tY114 : tBytes Try.prog 114 = some 8 := by kernel_rfl
@[go_sem] theorem tS115 : tSize Try.prog 115 = some 1 := by kernel_rfl
@[go_sem] theorem tA115 : tAgg Try.prog 115 = some false := by kernel_rfl
@[go_sem] theorem tZ115 : tZero Try.prog 115 = some [.at (.nilFunc)] := by kernel_rfl
@[go_sem] theorem tY115 : tBytes Try.prog 115 = some 8 := by kernel_rfl
@[go_sem] theorem tS116 : tSize Try.prog 116 = some 1 := by kernel_rfl
@[go_sem] theorem tA116 : tAgg Try.prog 116 = some false := by kernel_rfl
@[go_sem] theorem tZ116 : tZero Try.prog 116 = some [.at (.nilFunc)] := by kernel_rfl
@[go_sem] theorem tY116 : tBytes Try.prog 116 = some 8 := by kernel_rfl
@[go_sem] theorem tS117 : tSize Try.prog 117 = some 1 := by kernel_rfl
@[go_sem] theorem tA117 : tAgg Try.prog 117 = some false := by kernel_rfl
@[go_sem] theorem tZ117 : tZero Try.prog 117 = some [.at (.nilFunc)] := by kernel_rfl
@[go_sem] theorem tY117 : tBytes Try.prog 117 = some 8 := by kernel_rfl
@[go_sem] theorem tS118 : tSize Try.prog 118 = some 4 := by kernel_rfl
@[go_sem] theorem tA118 : tAgg Try.prog 118 = some true := by kernel_rfl
@[go_sem] theorem tF118_0 (x : AV) : fieldAddrA Try.prog 118 x 0 = plusA 0 x := by kernel_rfl
@[go_sem] theorem tG118_0 (cs : List AV) : fieldA Try.prog 118 (.agg cs) 0 = partA Try.prog 17 cs 0 := by kernel_rfl
@[go_sem] theorem tF118_1 (x : AV) : fieldAddrA Try.prog 118 x 1 = plusA 1 x := by kernel_rfl
@[go_sem] theorem tG118_1 (cs : List AV) : fieldA Try.prog 118 (.agg cs) 1 = partA Try.prog 17 cs 1 := by kernel_rfl
@[go_sem] theorem tF118_2 (x : AV) : fieldAddrA Try.prog 118 x 2 = plusA 2 x := by kernel_rfl
@[go_sem] theorem tG118_2 (cs : List AV) : fieldA Try.prog 118 (.agg cs) 2 = partA Try.prog 17 cs 2 := by kernel_rfl
@[go_sem] theorem tF118_3 (x : AV) : fieldAddrA Try.prog 118 x 3 = plusA 3 x := by kernel_rfl
@[go_sem] theorem tG118_3 (cs : List AV) : fieldA Try.prog 118 (.agg cs) 3 = partA Try.prog 9 cs 3 := by kernel_rfl
@[go_sem] theorem tY118 : tBytes Try.prog 118 = some 40 := by kernel_rfl
@[go_sem] theorem tS119 : tSize Try.prog 119 = some 4 := by kernel_rfl
@[go_sem] theorem tA119 : tAgg Try.prog 119 = some true := by kernel_rfl
@[go_sem] theorem tF119_0 (x : AV) : fieldAddrA Try.prog 119 x 0 = plusA 0 x := by kernel_rfl
@[go_sem] theorem tG119_0 (cs : List AV) : fieldA Try.prog 119 (.agg cs) 0 = partA Try.prog 17 cs 0 := by kernel_rfl
@[go_sem] theorem tF119_1 (x : AV) : fieldAddrA Try.prog 119 x 1 = plusA 1 x := by kernel_rfl
@[go_sem] theorem tG119_1 (cs : List AV) : fieldA Try.prog 119 (.agg cs) 1 = partA Try.prog 17 cs 1 := by kernel_rfl
@[go_sem] theorem tF119_2 (x : AV) : fieldAddrA Try.prog 119 x 2 = plusA 2 x := by kernel_rfl
@[go_sem] theorem tG119_2 (cs : List AV) : fieldA Try.prog 119 (.agg cs) 2 = partA Try.prog 17 cs 2 := by kernel_rfl
@[go_sem] theorem tF119_3 (x : AV) : fieldAddrA Try.prog 119 x 3 = plusA 3 x := by kernel_rfl
@[go_sem] theorem tG119_3 (cs : List AV) : fieldA Try.prog 119 (.agg cs) 3 = partA Try.prog 9 cs 3 := by kernel_rfl
@[go_sem] theorem tY119 : tBytes Try.prog 119 = some 40 := by kernel_rfl
@[go_sem] theorem tS120 : tSize Try.prog 120 = some 0 := by kernel_rfl
@[go_sem] theorem tA120 : tAgg Try.prog 120 = some true := by kernel_rfl
@[go_sem] theorem tU120 : Try.prog.underlying 120 = some (.array 0 16) := by kernel_rfl
@[go_sem] theorem tZ120 : tZero Try.prog 120 = some [] := by kernel_rfl
@[go_sem] theorem tY120 : tBytes Try.prog 120 = some 0 := by kernel_rfl
@[go_sem] theorem tS121 : tSize Try.prog 121 = some 0 := by kernel_rfl
@[go_sem] theorem tA121 : tAgg Try.prog 121 = some true := by kernel_rfl
@[go_sem] theorem tG121_0 (cs : List AV) : fieldA Try.prog 121 (.agg cs) 0 = partA Try.prog 120 cs 0 := by kernel_rfl
@[go_sem] theorem tB121 (ρ : Operand → AV) (parts : Array (Nat × Operand)) : opBuild Try.prog ρ 121 parts = (match fillA (fun i => [(0, 0)][i]?) [] (parts.toList.map fun p => (p.1, ρ p.2)) with | some cs => some (.pure (.agg cs)) | none => none) := by kernel_rfl
@[go_sem] theorem tZ121 : tZero Try.prog 121 = some [] := by kernel_rfl
@[go_sem] theorem tY121 : tBytes Try.prog 121 = some 0 := by kernel_rfl
@[go_sem] theorem tS122 : tSize Try.prog 122 = some 0 := by kernel_rfl
@[go_sem] theorem tA122 : tAgg Try.prog 122 = some true := by kernel_rfl
@[go_sem] theorem tG122_0 (cs : List AV) : fieldA Try.prog 122 (.agg cs) 0 = partA Try.prog 120 cs 0 := by kernel_rfl
@[go_sem] theorem tB122 (ρ : Operand → AV) (parts : Array (Nat × Operand)) : opBuild Try.prog ρ 122 parts = (match fillA (fun i => [(0, 0)][i]?) [] (parts.toList.map fun p => (p.1, ρ p.2)) with | some cs => some (.pure (.agg cs)) | none => none) := by kernel_rfl
@[go_sem] theorem tZ122 : tZero Try.prog 122 = some [] := by kernel_rfl
@[go_sem] theorem tY122 : tBytes Try.prog 122 = some 0 := by kernel_rfl
@[go_sem] theorem tS123 : tSize Try.prog 123 = some 1 := by kernel_rfl
@[go_sem] theorem tA123 : tAgg Try.prog 123 = some false := by kernel_rfl
@[go_sem] theorem tZ123 : tZero Try.prog 123 = some [.at (.nilFunc)] := by kernel_rfl
@[go_sem] theorem tY123 : tBytes Try.prog 123 = some 8 := by kernel_rfl
@[go_sem] theorem tS124 : tSize Try.prog 124 = some 1 := by kernel_rfl
@[go_sem] theorem tA124 : tAgg Try.prog 124 = some false := by kernel_rfl
@[go_sem] theorem tU124 : Try.prog.underlying 124 = some (.int .u8) := by kernel_rfl
@[go_sem] theorem tZ124 : tZero Try.prog 124 = some [.at (.int .u8 0)] := by kernel_rfl
@[go_sem] theorem tY124 : tBytes Try.prog 124 = some 1 := by kernel_rfl
@[go_sem] theorem tS125 : tSize Try.prog 125 = some 1 := by kernel_rfl
@[go_sem] theorem tA125 : tAgg Try.prog 125 = some false := by kernel_rfl
@[go_sem] theorem tU125 : Try.prog.underlying 125 = some (.int .u8) := by kernel_rfl
@[go_sem] theorem tZ125 : tZero Try.prog 125 = some [.at (.int .u8 0)] := by kernel_rfl
@[go_sem] theorem tY125 : tBytes Try.prog 125 = some 1 := by kernel_rfl
@[go_sem] theorem tS126 : tSize Try.prog 126 = some 1 := by kernel_rfl
@[go_sem] theorem tA126 : tAgg Try.prog 126 = some false := by kernel_rfl
@[go_sem] theorem tZ126 : tZero Try.prog 126 = some [.at (.nilFunc)] := by kernel_rfl
@[go_sem] theorem tY126 : tBytes Try.prog 126 = some 8 := by kernel_rfl
@[go_sem] theorem tS127 : tSize Try.prog 127 = some 1 := by kernel_rfl
@[go_sem] theorem tA127 : tAgg Try.prog 127 = some false := by kernel_rfl
@[go_sem] theorem tZ127 : tZero Try.prog 127 = some [.at (.pointer none)] := by kernel_rfl
@[go_sem] theorem tY127 : tBytes Try.prog 127 = some 8 := by kernel_rfl
@[go_sem] theorem tS128 : tSize Try.prog 128 = some 1 := by kernel_rfl
@[go_sem] theorem tA128 : tAgg Try.prog 128 = some false := by kernel_rfl
@[go_sem] theorem tU128 : Try.prog.underlying 128 = some (.int .i32) := by kernel_rfl
@[go_sem] theorem tZ128 : tZero Try.prog 128 = some [.at (.int .i32 0)] := by kernel_rfl
@[go_sem] theorem tY128 : tBytes Try.prog 128 = some 4 := by kernel_rfl
@[go_sem] theorem tS129 : tSize Try.prog 129 = some 1 := by kernel_rfl
@[go_sem] theorem tA129 : tAgg Try.prog 129 = some false := by kernel_rfl
@[go_sem] theorem tU129 : Try.prog.underlying 129 = some (.int .i32) := by kernel_rfl
@[go_sem] theorem tZ129 : tZero Try.prog 129 = some [.at (.int .i32 0)] := by kernel_rfl
@[go_sem] theorem tY129 : tBytes Try.prog 129 = some 4 := by kernel_rfl
@[go_sem] theorem tS130 : tSize Try.prog 130 = some 11 := by kernel_rfl
@[go_sem] theorem tA130 : tAgg Try.prog 130 = some true := by kernel_rfl
@[go_sem] theorem tF130_0 (x : AV) : fieldAddrA Try.prog 130 x 0 = plusA 0 x := by kernel_rfl
@[go_sem] theorem tG130_0 (cs : List AV) : fieldA Try.prog 130 (.agg cs) 0 = partA Try.prog 12 cs 0 := by kernel_rfl
@[go_sem] theorem tF130_1 (x : AV) : fieldAddrA Try.prog 130 x 1 = plusA 1 x := by kernel_rfl
@[go_sem] theorem tG130_1 (cs : List AV) : fieldA Try.prog 130 (.agg cs) 1 = partA Try.prog 12 cs 1 := by kernel_rfl
@[go_sem] theorem tF130_2 (x : AV) : fieldAddrA Try.prog 130 x 2 = plusA 2 x := by kernel_rfl
@[go_sem] theorem tG130_2 (cs : List AV) : fieldA Try.prog 130 (.agg cs) 2 = partA Try.prog 92 cs 2 := by kernel_rfl
@[go_sem] theorem tF130_3 (x : AV) : fieldAddrA Try.prog 130 x 3 = plusA 3 x := by kernel_rfl
@[go_sem] theorem tG130_3 (cs : List AV) : fieldA Try.prog 130 (.agg cs) 3 = partA Try.prog 124 cs 3 := by kernel_rfl
@[go_sem] theorem tF130_4 (x : AV) : fieldAddrA Try.prog 130 x 4 = plusA 4 x := by kernel_rfl
@[go_sem] theorem tG130_4 (cs : List AV) : fieldA Try.prog 130 (.agg cs) 4 = partA Try.prog 5 cs 4 := by kernel_rfl
@[go_sem] theorem tF130_5 (x : AV) : fieldAddrA Try.prog 130 x 5 = plusA 5 x := by kernel_rfl
@[go_sem] theorem tG130_5 (cs : List AV) : fieldA Try.prog 130 (.agg cs) 5 = partA Try.prog 5 cs 5 := by kernel_rfl
@[go_sem] theorem tF130_6 (x : AV) : fieldAddrA Try.prog 130 x 6 = plusA 6 x := by kernel_rfl
@[go_sem] theorem tG130_6 (cs : List AV) : fieldA Try.prog 130 (.agg cs) 6 = partA Try.prog 125 cs 6 := by kernel_rfl
@[go_sem] theorem tF130_7 (x : AV) : fieldAddrA Try.prog 130 x 7 = plusA 7 x := by kernel_rfl
@[go_sem] theorem tG130_7 (cs : List AV) : fieldA Try.prog 130 (.agg cs) 7 = partA Try.prog 126 cs 7 := by kernel_rfl
@[go_sem] theorem tF130_8 (x : AV) : fieldAddrA Try.prog 130 x 8 = plusA 8 x := by kernel_rfl
@[go_sem] theorem tG130_8 (cs : List AV) : fieldA Try.prog 130 (.agg cs) 8 = partA Try.prog 127 cs 8 := by kernel_rfl
@[go_sem] theorem tF130_9 (x : AV) : fieldAddrA Try.prog 130 x 9 = plusA 9 x := by kernel_rfl
@[go_sem] theorem tG130_9 (cs : List AV) : fieldA Try.prog 130 (.agg cs) 9 = partA Try.prog 128 cs 9 := by kernel_rfl
@[go_sem] theorem tF130_10 (x : AV) : fieldAddrA Try.prog 130 x 10 = plusA 10 x := by kernel_rfl
@[go_sem] theorem tG130_10 (cs : List AV) : fieldA Try.prog 130 (.agg cs) 10 = partA Try.prog 129 cs 10 := by kernel_rfl
@[go_sem] theorem tB130 (ρ : Operand → AV) (parts : Array (Nat × Operand)) : opBuild Try.prog ρ 130 parts = (match fillA (fun i => [(0, 1), (1, 1), (2, 1), (3, 1), (4, 1), (5, 1), (6, 1), (7, 1), (8, 1), (9, 1), (10, 1)][i]?) [.at (.int .u64 0), .at (.int .u64 0), .at (.int .u32 0), .at (.int .u8 0), .at (.int .u8 0), .at (.int .u8 0), .at (.int .u8 0), .at (.nilFunc), .at (.pointer none), .at (.int .i32 0), .at (.int .i32 0)] (parts.toList.map fun p => (p.1, ρ p.2)) with | some cs => some (.pure (.agg cs)) | none => none) := by kernel_rfl
@[go_sem] theorem tZ130 : tZero Try.prog 130 = some [.at (.int .u64 0), .at (.int .u64 0), .at (.int .u32 0), .at (.int .u8 0), .at (.int .u8 0), .at (.int .u8 0), .at (.int .u8 0), .at (.nilFunc), .at (.pointer none), .at (.int .i32 0), .at (.int .i32 0)] := by kernel_rfl
@[go_sem] theorem tY130 : tBytes Try.prog 130 = some 48 := by kernel_rfl
@[go_sem] theorem tS131 : tSize Try.prog 131 = some 11 := by kernel_rfl
@[go_sem] theorem tA131 : tAgg Try.prog 131 = some true := by kernel_rfl
@[go_sem] theorem tF131_0 (x : AV) : fieldAddrA Try.prog 131 x 0 = plusA 0 x := by kernel_rfl
@[go_sem] theorem tG131_0 (cs : List AV) : fieldA Try.prog 131 (.agg cs) 0 = partA Try.prog 12 cs 0 := by kernel_rfl
@[go_sem] theorem tF131_1 (x : AV) : fieldAddrA Try.prog 131 x 1 = plusA 1 x := by kernel_rfl
@[go_sem] theorem tG131_1 (cs : List AV) : fieldA Try.prog 131 (.agg cs) 1 = partA Try.prog 12 cs 1 := by kernel_rfl
@[go_sem] theorem tF131_2 (x : AV) : fieldAddrA Try.prog 131 x 2 = plusA 2 x := by kernel_rfl
@[go_sem] theorem tG131_2 (cs : List AV) : fieldA Try.prog 131 (.agg cs) 2 = partA Try.prog 92 cs 2 := by kernel_rfl
@[go_sem] theorem tF131_3 (x : AV) : fieldAddrA Try.prog 131 x 3 = plusA 3 x := by kernel_rfl
@[go_sem] theorem tG131_3 (cs : List AV) : fieldA Try.prog 131 (.agg cs) 3 = partA Try.prog 124 cs 3 := by kernel_rfl
@[go_sem] theorem tF131_4 (x : AV) : fieldAddrA Try.prog 131 x 4 = plusA 4 x := by kernel_rfl
@[go_sem] theorem tG131_4 (cs : List AV) : fieldA Try.prog 131 (.agg cs) 4 = partA Try.prog 5 cs 4 := by kernel_rfl
@[go_sem] theorem tF131_5 (x : AV) : fieldAddrA Try.prog 131 x 5 = plusA 5 x := by kernel_rfl
@[go_sem] theorem tG131_5 (cs : List AV) : fieldA Try.prog 131 (.agg cs) 5 = partA Try.prog 5 cs 5 := by kernel_rfl
@[go_sem] theorem tF131_6 (x : AV) : fieldAddrA Try.prog 131 x 6 = plusA 6 x := by kernel_rfl
@[go_sem] theorem tG131_6 (cs : List AV) : fieldA Try.prog 131 (.agg cs) 6 = partA Try.prog 125 cs 6 := by kernel_rfl
@[go_sem] theorem tF131_7 (x : AV) : fieldAddrA Try.prog 131 x 7 = plusA 7 x := by kernel_rfl
@[go_sem] theorem tG131_7 (cs : List AV) : fieldA Try.prog 131 (.agg cs) 7 = partA Try.prog 126 cs 7 := by kernel_rfl
@[go_sem] theorem tF131_8 (x : AV) : fieldAddrA Try.prog 131 x 8 = plusA 8 x := by kernel_rfl
@[go_sem] theorem tG131_8 (cs : List AV) : fieldA Try.prog 131 (.agg cs) 8 = partA Try.prog 127 cs 8 := by kernel_rfl
@[go_sem] theorem tF131_9 (x : AV) : fieldAddrA Try.prog 131 x 9 = plusA 9 x := by kernel_rfl
@[go_sem] theorem tG131_9 (cs : List AV) : fieldA Try.prog 131 (.agg cs) 9 = partA Try.prog 128 cs 9 := by kernel_rfl
@[go_sem] theorem tF131_10 (x : AV) : fieldAddrA Try.prog 131 x 10 = plusA 10 x := by kernel_rfl
@[go_sem] theorem tG131_10 (cs : List AV) : fieldA Try.prog 131 (.agg cs) 10 = partA Try.prog 129 cs 10 := by kernel_rfl
@[go_sem] theorem tB131 (ρ : Operand → AV) (parts : Array (Nat × Operand)) : opBuild Try.prog ρ 131 parts = (match fillA (fun i => [(0, 1), (1, 1), (2, 1), (3, 1), (4, 1), (5, 1), (6, 1), (7, 1), (8, 1), (9, 1), (10, 1)][i]?) [.at (.int .u64 0), .at (.int .u64 0), .at (.int .u32 0), .at (.int .u8 0), .at (.int .u8 0), .at (.int .u8 0), .at (.int .u8 0), .at (.nilFunc), .at (.pointer none), .at (.int .i32 0), .at (.int .i32 0)] (parts.toList.map fun p => (p.1, ρ p.2)) with | some cs => some (.pure (.agg cs)) | none => none) := by kernel_rfl
@[go_sem] theorem tZ131 : tZero Try.prog 131 = some [.at (.int .u64 0), .at (.int .u64 0), .at (.int .u32 0), .at (.int .u8 0), .at (.int .u8 0), .at (.int .u8 0), .at (.int .u8 0), .at (.nilFunc), .at (.pointer none), .at (.int .i32 0), .at (.int .i32 0)] := by kernel_rfl
@[go_sem] theorem tY131 : tBytes Try.prog 131 = some 48 := by kernel_rfl
@[go_sem] theorem tS132 : tSize Try.prog 132 = some 1 := by kernel_rfl
@[go_sem] theorem tA132 : tAgg Try.prog 132 = some false := by kernel_rfl
@[go_sem] theorem tZ132 : tZero Try.prog 132 = some [.at (.pointer none)] := by kernel_rfl
@[go_sem] theorem tY132 : tBytes Try.prog 132 = some 8 := by kernel_rfl
@[go_sem] theorem cb2 : callable Try.prog 2 = true := by kernel_rfl
@[go_sem] theorem rs2 : Try.f2.results.toList = [] := by kernel_rfl
@[go_sem] theorem cb3 : callable Try.prog 3 = true := by kernel_rfl
@[go_sem] theorem rs3 : Try.f3.results.toList = [.tmp 2] := by kernel_rfl
@[go_sem] theorem cb4 : callable Try.prog 4 = true := by kernel_rfl
@[go_sem] theorem rs4 : Try.f4.results.toList = [.tmp 6] := by kernel_rfl
@[go_sem] theorem cb5 : callable Try.prog 5 = true := by kernel_rfl
@[go_sem] theorem rs5 : Try.f5.results.toList = [.tmp 6] := by kernel_rfl
@[go_sem] theorem cb6 : callable Try.prog 6 = true := by kernel_rfl
@[go_sem] theorem rs6 : Try.f6.results.toList = [.tmp 0] := by kernel_rfl
@[go_sem] theorem cb7 : callable Try.prog 7 = true := by kernel_rfl
@[go_sem] theorem rs7 : Try.f7.results.toList = [.tmp 2] := by kernel_rfl
@[go_sem] theorem cb8 : callable Try.prog 8 = true := by kernel_rfl
@[go_sem] theorem rs8 : Try.f8.results.toList = [.tmp 2] := by kernel_rfl
@[go_sem] theorem cb9 : callable Try.prog 9 = true := by kernel_rfl
@[go_sem] theorem rs9 : Try.f9.results.toList = [.tmp 2] := by kernel_rfl
@[go_sem] theorem cb10 : callable Try.prog 10 = true := by kernel_rfl
@[go_sem] theorem rs10 : Try.f10.results.toList = [.tmp 2] := by kernel_rfl
@[go_sem] theorem cb11 : callable Try.prog 11 = true := by kernel_rfl
@[go_sem] theorem rs11 : Try.f11.results.toList = [.tmp 4, .tmp 5] := by kernel_rfl
@[go_sem] theorem cb12 : callable Try.prog 12 = true := by kernel_rfl
@[go_sem] theorem rs12 : Try.f12.results.toList = [.tmp 6] := by kernel_rfl
@[go_sem] theorem cb13 : callable Try.prog 13 = true := by kernel_rfl
@[go_sem] theorem rs13 : Try.f13.results.toList = [.tmp 2] := by kernel_rfl
@[go_sem] theorem cb14 : callable Try.prog 14 = true := by kernel_rfl
@[go_sem] theorem rs14 : Try.f14.results.toList = [.cell 4 26] := by kernel_rfl
@[go_sem] theorem cb15 : callable Try.prog 15 = true := by kernel_rfl
@[go_sem] theorem rs15 : Try.f15.results.toList = [.cell 6 50, .tmp 7] := by kernel_rfl
@[go_sem] theorem cb16 : callable Try.prog 16 = true := by kernel_rfl
@[go_sem] theorem rs16 : Try.f16.results.toList = [.cell 4 50, .cell 5 50, .tmp 6] := by kernel_rfl
@[go_sem] theorem cb17 : callable Try.prog 17 = true := by kernel_rfl
@[go_sem] theorem rs17 : Try.f17.results.toList = [.tmp 4] := by kernel_rfl
@[go_sem] theorem cb18 : callable Try.prog 18 = true := by kernel_rfl
@[go_sem] theorem rs18 : Try.f18.results.toList = [.tmp 4] := by kernel_rfl
@[go_sem] theorem cb19 : callable Try.prog 19 = true := by kernel_rfl
@[go_sem] theorem rs19 : Try.f19.results.toList = [.cell 4 50] := by kernel_rfl
@[go_sem] theorem cb20 : callable Try.prog 20 = true := by kernel_rfl
@[go_sem] theorem rs20 : Try.f20.results.toList = [.tmp 2] := by kernel_rfl
@[go_sem] theorem cb21 : callable Try.prog 21 = true := by kernel_rfl
@[go_sem] theorem rs21 : Try.f21.results.toList = [.tmp 4] := by kernel_rfl
@[go_sem] theorem cb22 : callable Try.prog 22 = true := by kernel_rfl
@[go_sem] theorem rs22 : Try.f22.results.toList = [.tmp 2] := by kernel_rfl
@[go_sem] theorem cb23 : callable Try.prog 23 = true := by kernel_rfl
@[go_sem] theorem rs23 : Try.f23.results.toList = [.tmp 2] := by kernel_rfl
@[go_sem] theorem cb24 : callable Try.prog 24 = true := by kernel_rfl
@[go_sem] theorem rs24 : Try.f24.results.toList = [.tmp 2] := by kernel_rfl
@[go_sem] theorem cb25 : callable Try.prog 25 = true := by kernel_rfl
@[go_sem] theorem rs25 : Try.f25.results.toList = [.tmp 4] := by kernel_rfl
@[go_sem] theorem cb26 : callable Try.prog 26 = true := by kernel_rfl
@[go_sem] theorem rs26 : Try.f26.results.toList = [.tmp 6, .tmp 7, .tmp 8] := by kernel_rfl
@[go_sem] theorem cb27 : callable Try.prog 27 = true := by kernel_rfl
@[go_sem] theorem rs27 : Try.f27.results.toList = [.cell 6 50] := by kernel_rfl
@[go_sem] theorem cb28 : callable Try.prog 28 = true := by kernel_rfl
@[go_sem] theorem rs28 : Try.f28.results.toList = [.tmp 2] := by kernel_rfl
@[go_sem] theorem cb29 : callable Try.prog 29 = true := by kernel_rfl
@[go_sem] theorem rs29 : Try.f29.results.toList = [.tmp 4] := by kernel_rfl
@[go_sem] theorem cb30 : callable Try.prog 30 = true := by kernel_rfl
@[go_sem] theorem rs30 : Try.f30.results.toList = [.cell 2 48] := by kernel_rfl
@[go_sem] theorem cb31 : callable Try.prog 31 = true := by kernel_rfl
@[go_sem] theorem rs31 : Try.f31.results.toList = [.tmp 2] := by kernel_rfl
@[go_sem] theorem cb32 : callable Try.prog 32 = true := by kernel_rfl
@[go_sem] theorem rs32 : Try.f32.results.toList = [.tmp 2] := by kernel_rfl
@[go_sem] theorem cb33 : callable Try.prog 33 = true := by kernel_rfl
@[go_sem] theorem rs33 : Try.f33.results.toList = [.tmp 2] := by kernel_rfl
@[go_sem] theorem cb34 : callable Try.prog 34 = true := by kernel_rfl
@[go_sem] theorem rs34 : Try.f34.results.toList = [.tmp 4] := by kernel_rfl
@[go_sem] theorem cb35 : callable Try.prog 35 = true := by kernel_rfl
@[go_sem] theorem rs35 : Try.f35.results.toList = [.tmp 2] := by kernel_rfl
@[go_sem] theorem cb36 : callable Try.prog 36 = true := by kernel_rfl
@[go_sem] theorem rs36 : Try.f36.results.toList = [.tmp 6] := by kernel_rfl
@[go_sem] theorem cb37 : callable Try.prog 37 = true := by kernel_rfl
@[go_sem] theorem rs37 : Try.f37.results.toList = [.cell 2 48] := by kernel_rfl
@[go_sem] theorem cb38 : callable Try.prog 38 = true := by kernel_rfl
@[go_sem] theorem rs38 : Try.f38.results.toList = [.cell 4 48] := by kernel_rfl
@[go_sem] theorem cb39 : callable Try.prog 39 = true := by kernel_rfl
@[go_sem] theorem rs39 : Try.f39.results.toList = [.tmp 2] := by kernel_rfl
@[go_sem] theorem cb40 : callable Try.prog 40 = true := by kernel_rfl
@[go_sem] theorem rs40 : Try.f40.results.toList = [.tmp 4] := by kernel_rfl
@[go_sem] theorem cb41 : callable Try.prog 41 = true := by kernel_rfl
@[go_sem] theorem rs41 : Try.f41.results.toList = [.tmp 4] := by kernel_rfl
@[go_sem] theorem cb42 : callable Try.prog 42 = true := by kernel_rfl
@[go_sem] theorem rs42 : Try.f42.results.toList = [.cell 2 46] := by kernel_rfl
@[go_sem] theorem cb43 : callable Try.prog 43 = true := by kernel_rfl
@[go_sem] theorem rs43 : Try.f43.results.toList = [.tmp 2] := by kernel_rfl
@[go_sem] theorem cb44 : callable Try.prog 44 = true := by kernel_rfl
@[go_sem] theorem rs44 : Try.f44.results.toList = [.cell 2 46] := by kernel_rfl
@[go_sem] theorem cb45 : callable Try.prog 45 = true := by kernel_rfl
@[go_sem] theorem rs45 : Try.f45.results.toList = [.cell 2 48] := by kernel_rfl
@[go_sem] theorem cb46 : callable Try.prog 46 = true := by kernel_rfl
@[go_sem] theorem rs46 : Try.f46.results.toList = [.cell 4 48] := by kernel_rfl
@[go_sem] theorem cb47 : callable Try.prog 47 = true := by kernel_rfl
@[go_sem] theorem rs47 : Try.f47.results.toList = [.cell 4 46] := by kernel_rfl
@[go_sem] theorem cb48 : callable Try.prog 48 = true := by kernel_rfl
@[go_sem] theorem rs48 : Try.f48.results.toList = [.tmp 2] := by kernel_rfl
@[go_sem] theorem cb49 : callable Try.prog 49 = true := by kernel_rfl
@[go_sem] theorem rs49 : Try.f49.results.toList = [.tmp 2] := by kernel_rfl
@[go_sem] theorem cb50 : callable Try.prog 50 = true := by kernel_rfl
@[go_sem] theorem rs50 : Try.f50.results.toList = [.tmp 4] := by kernel_rfl
@[go_sem] theorem cb51 : callable Try.prog 51 = true := by kernel_rfl
@[go_sem] theorem rs51 : Try.f51.results.toList = [.cell 4 46] := by kernel_rfl
@[go_sem] theorem cb52 : callable Try.prog 52 = true := by kernel_rfl
@[go_sem] theorem rs52 : Try.f52.results.toList = [.tmp 2] := by kernel_rfl
@[go_sem] theorem cb53 : callable Try.prog 53 = true := by kernel_rfl
@[go_sem] theorem rs53 : Try.f53.results.toList = [.cell 4 48] := by kernel_rfl
@[go_sem] theorem cb54 : callable Try.prog 54 = true := by kernel_rfl
@[go_sem] theorem rs54 : Try.f54.results.toList = [.cell 2 46] := by kernel_rfl
@[go_sem] theorem cb55 : callable Try.prog 55 = true := by kernel_rfl
@[go_sem] theorem rs55 : Try.f55.results.toList = [.cell 4 46] := by kernel_rfl
@[go_sem] theorem cb56 : callable Try.prog 56 = true := by kernel_rfl
@[go_sem] theorem rs56 : Try.f56.results.toList = [.tmp 2] := by kernel_rfl
@[go_sem] theorem cb57 : callable Try.prog 57 = true := by kernel_rfl
@[go_sem] theorem rs57 : Try.f57.results.toList = [.tmp 2] := by kernel_rfl
@[go_sem] theorem cb58 : callable Try.prog 58 = true := by kernel_rfl
@[go_sem] theorem rs58 : Try.f58.results.toList = [.cell 2 48] := by kernel_rfl
@[go_sem] theorem cb59 : callable Try.prog 59 = true := by kernel_rfl
@[go_sem] theorem rs59 : Try.f59.results.toList = [.tmp 2] := by kernel_rfl
@[go_sem] theorem cb60 : callable Try.prog 60 = true := by kernel_rfl
@[go_sem] theorem rs60 : Try.f60.results.toList = [.cell 2 46] := by kernel_rfl
@[go_sem] theorem cb61 : callable Try.prog 61 = true := by kernel_rfl
@[go_sem] theorem rs61 : Try.f61.results.toList = [.cell 4 46] := by kernel_rfl
@[go_sem] theorem cb62 : callable Try.prog 62 = true := by kernel_rfl
@[go_sem] theorem rs62 : Try.f62.results.toList = [.cell 4 46, .cell 5 46, .tmp 6] := by kernel_rfl
@[go_sem] theorem cb63 : callable Try.prog 63 = true := by kernel_rfl
@[go_sem] theorem rs63 : Try.f63.results.toList = [.tmp 4] := by kernel_rfl
@[go_sem] theorem cb64 : callable Try.prog 64 = true := by kernel_rfl
@[go_sem] theorem rs64 : Try.f64.results.toList = [.tmp 2] := by kernel_rfl
@[go_sem] theorem cb65 : callable Try.prog 65 = true := by kernel_rfl
@[go_sem] theorem rs65 : Try.f65.results.toList = [.cell 2 46] := by kernel_rfl
@[go_sem] theorem cb66 : callable Try.prog 66 = true := by kernel_rfl
@[go_sem] theorem rs66 : Try.f66.results.toList = [.cell 4 46] := by kernel_rfl
@[go_sem] theorem cb67 : callable Try.prog 67 = true := by kernel_rfl
@[go_sem] theorem rs67 : Try.f67.results.toList = [.tmp 4, .tmp 5] := by kernel_rfl
@[go_sem] theorem cb68 : callable Try.prog 68 = true := by kernel_rfl
@[go_sem] theorem rs68 : Try.f68.results.toList = [.cell 4 46] := by kernel_rfl
@[go_sem] theorem cb69 : callable Try.prog 69 = true := by kernel_rfl
@[go_sem] theorem rs69 : Try.f69.results.toList = [.tmp 2] := by kernel_rfl
@[go_sem] theorem cb70 : callable Try.prog 70 = true := by kernel_rfl
@[go_sem] theorem rs70 : Try.f70.results.toList = [.cell 2 48] := by kernel_rfl
@[go_sem] theorem cb71 : callable Try.prog 71 = true := by kernel_rfl
@[go_sem] theorem rs71 : Try.f71.results.toList = [.cell 4 48] := by kernel_rfl
@[go_sem] theorem cb72 : callable Try.prog 72 = true := by kernel_rfl
@[go_sem] theorem rs72 : Try.f72.results.toList = [.cell 2 48] := by kernel_rfl
@[go_sem] theorem cb73 : callable Try.prog 73 = true := by kernel_rfl
@[go_sem] theorem rs73 : Try.f73.results.toList = [.tmp 2] := by kernel_rfl
@[go_sem] theorem cb74 : callable Try.prog 74 = true := by kernel_rfl
@[go_sem] theorem rs74 : Try.f74.results.toList = [.tmp 2] := by kernel_rfl
@[go_sem] theorem cb75 : callable Try.prog 75 = true := by kernel_rfl
@[go_sem] theorem rs75 : Try.f75.results.toList = [.tmp 4] := by kernel_rfl
@[go_sem] theorem cb76 : callable Try.prog 76 = true := by kernel_rfl
@[go_sem] theorem rs76 : Try.f76.results.toList = [.tmp 2] := by kernel_rfl
@[go_sem] theorem cb77 : callable Try.prog 77 = true := by kernel_rfl
@[go_sem] theorem rs77 : Try.f77.results.toList = [.tmp 2, .tmp 3] := by kernel_rfl
@[go_sem] theorem cb78 : callable Try.prog 78 = true := by kernel_rfl
@[go_sem] theorem rs78 : Try.f78.results.toList = [.tmp 4, .tmp 5] := by kernel_rfl
@[go_sem] theorem cb79 : callable Try.prog 79 = true := by kernel_rfl
@[go_sem] theorem rs79 : Try.f79.results.toList = [.tmp 4] := by kernel_rfl
@[go_sem] theorem cb80 : callable Try.prog 80 = true := by kernel_rfl
@[go_sem] theorem rs80 : Try.f80.results.toList = [.tmp 4] := by kernel_rfl
@[go_sem] theorem cb81 : callable Try.prog 81 = true := by kernel_rfl
@[go_sem] theorem rs81 : Try.f81.results.toList = [.cell 4 46] := by kernel_rfl
@[go_sem] theorem cb82 : callable Try.prog 82 = true := by kernel_rfl
@[go_sem] theorem rs82 : Try.f82.results.toList = [.cell 2 46] := by kernel_rfl
@[go_sem] theorem cb83 : callable Try.prog 83 = true := by kernel_rfl
@[go_sem] theorem rs83 : Try.f83.results.toList = [.tmp 4, .tmp 5] := by kernel_rfl
@[go_sem] theorem cb84 : callable Try.prog 84 = true := by kernel_rfl
@[go_sem] theorem rs84 : Try.f84.results.toList = [.tmp 4] := by kernel_rfl
@[go_sem] theorem cb85 : callable Try.prog 85 = true := by kernel_rfl
@[go_sem] theorem rs85 : Try.f85.results.toList = [.tmp 4] := by kernel_rfl
@[go_sem] theorem cb86 : callable Try.prog 86 = true := by kernel_rfl
@[go_sem] theorem rs86 : Try.f86.results.toList = [.tmp 4] := by kernel_rfl
@[go_sem] theorem cb87 : callable Try.prog 87 = true := by kernel_rfl
@[go_sem] theorem rs87 : Try.f87.results.toList = [.tmp 4] := by kernel_rfl
@[go_sem] theorem cb88 : callable Try.prog 88 = true := by kernel_rfl
@[go_sem] theorem rs88 : Try.f88.results.toList = [.tmp 4] := by kernel_rfl
@[go_sem] theorem cb89 : callable Try.prog 89 = true := by kernel_rfl
@[go_sem] theorem rs89 : Try.f89.results.toList = [.cell 4 48] := by kernel_rfl
@[go_sem] theorem cb90 : callable Try.prog 90 = true := by kernel_rfl
@[go_sem] theorem rs90 : Try.f90.results.toList = [.cell 4 46] := by kernel_rfl
@[go_sem] theorem cb91 : callable Try.prog 91 = true := by kernel_rfl
@[go_sem] theorem rs91 : Try.f91.results.toList = [.tmp 4] := by kernel_rfl
@[go_sem] theorem cb92 : callable Try.prog 92 = true := by kernel_rfl
@[go_sem] theorem rs92 : Try.f92.results.toList = [.tmp 2] := by kernel_rfl
@[go_sem] theorem cb93 : callable Try.prog 93 = true := by kernel_rfl
@[go_sem] theorem rs93 : Try.f93.results.toList = [.tmp 4] := by kernel_rfl
@[go_sem] theorem cb94 : callable Try.prog 94 = true := by kernel_rfl
@[go_sem] theorem rs94 : Try.f94.results.toList = [.cell 4 3] := by kernel_rfl
@[go_sem] theorem cb95 : callable Try.prog 95 = true := by kernel_rfl
@[go_sem] theorem rs95 : Try.f95.results.toList = [.tmp 2] := by kernel_rfl
@[go_sem] theorem cb96 : callable Try.prog 96 = true := by kernel_rfl
@[go_sem] theorem rs96 : Try.f96.results.toList = [.cell 4 44, .tmp 5] := by kernel_rfl
@[go_sem] theorem cb97 : callable Try.prog 97 = true := by kernel_rfl
@[go_sem] theorem rs97 : Try.f97.results.toList = [.tmp 4, .tmp 5] := by kernel_rfl
@[go_sem] theorem cb98 : callable Try.prog 98 = true := by kernel_rfl
@[go_sem] theorem rs98 : Try.f98.results.toList = [.tmp 4] := by kernel_rfl
@[go_sem] theorem cb99 : callable Try.prog 99 = true := by kernel_rfl
@[go_sem] theorem rs99 : Try.f99.results.toList = [.tmp 4] := by kernel_rfl
@[go_sem] theorem cb100 : callable Try.prog 100 = true := by kernel_rfl
@[go_sem] theorem rs100 : Try.f100.results.toList = [.cell 4 46, .cell 5 46, .tmp 6] := by kernel_rfl
@[go_sem] theorem cb101 : callable Try.prog 101 = true := by kernel_rfl
@[go_sem] theorem rs101 : Try.f101.results.toList = [.tmp 4] := by kernel_rfl
@[go_sem] theorem cb102 : callable Try.prog 102 = true := by kernel_rfl
@[go_sem] theorem rs102 : Try.f102.results.toList = [.tmp 2] := by kernel_rfl
@[go_sem] theorem cb103 : callable Try.prog 103 = true := by kernel_rfl
@[go_sem] theorem rs103 : Try.f103.results.toList = [.tmp 4] := by kernel_rfl
@[go_sem] theorem cb104 : callable Try.prog 104 = true := by kernel_rfl
@[go_sem] theorem rs104 : Try.f104.results.toList = [] := by kernel_rfl
@[go_sem] theorem cb105 : callable Try.prog 105 = true := by kernel_rfl
@[go_sem] theorem rs105 : Try.f105.results.toList = [.tmp 2] := by kernel_rfl
end Go.Proofs.Ytlajgmapmocpbaa
