import Derived.Test.YtajbeippbabhhaaGreatDoorProg
import Derived.JoinedOf
import Derived.Test.YtajbeippbabhhaaGreatDoorRows
import Derived.Test.YtajbeippbabhhaaGreatDoorBa85737e2
set_option linter.unusedVariables false
set_option linter.unusedSimpArgs false
namespace Go.Proofs.YtajbeippbabhhaaGreatDoor.Eng
open Go Go.Proofs.Tryz

@[irreducible] def B15 : LCode :=
  .seq (.region [⟨none, [(some 1, .box 68 (.tmp 0)), (some 2, .mv (.con (.str []))), (some 3, .mv (.con (.int .i64 0)))]⟩]) (.seq (.block 0 (.seq (.region [⟨none, [(some 6, .load true 5 (.tmp 1)), (some 7, .call 154 [.tmp 6, .con
    (.int .i64 0), .con (.fn (.func 155) [])]), (some 8, .un .not (.tmp 7)), (some 5, .mv (.tmp 8))]⟩]) (.cond (.tmp 5) (.seq (.region [⟨none, [(some 2, .mv (.con (.str []))), (some 3, .mv (.con (.int .i64 21)))]⟩]) .ret) (.seq
    (.region [⟨none, [(some 10, .load true 5 (.tmp 1)), (some 11, .call 154 [.tmp 10, .con (.int .i64 0), .con (.fn (.func 156) [])]), (some 12, .un .not (.tmp 11)), (some 9, .mv (.tmp 12))]⟩]) (.cond (.tmp 9) (.seq (.region [⟨none,
    [(some 2, .mv (.con (.str []))), (some 3, .mv (.con (.int .i64 24)))]⟩]) .ret) (.seq (.region [⟨none, [(some 14, .load true 5 (.tmp 1)), (some 15, .call 157 [.tmp 14, .con (.int .i64 0)]), (some 13, .mv (.tmp 15))]⟩]) (.cond
    (.tmp 13) (.seq (.region [⟨none, [(some 2, .mv (.con (.str []))), (some 3, .mv (.con (.int .i64 23)))]⟩]) .ret) (.seq (.region [⟨none, [(some 17, .load true 5 (.tmp 1)), (some 18, .call 158 [.tmp 17]), (some 19, .bin .gtr (.tmp
    18) (.con (.int .i64 65536))), (some 16, .mv (.tmp 19))]⟩]) (.cond (.tmp 16) (.seq (.region [⟨none, [(some 2, .mv (.con (.str []))), (some 3, .mv (.con (.int .i64 2)))]⟩]) .ret) .skip))))))))) (.seq (.region [⟨none, [(some 4,
    .alloc 175 [.lit (.pointer none), .lit (.slice none 0 0)])]⟩]) (.seq (.region [⟨none, [(some 20, .load true 5 (.tmp 1)), (some 21, .call 159 [.tmp 4, .tmp 20])]⟩]) (.seq (.region [⟨none, [(some 22, .call 160 [.tmp 4]), (some 2,
    .mv (.tmp 22)), (some 3, .mv (.con (.int .i64 0)))]⟩]) .ret))))
theorem low15 : lowerFO [] prog 34 = some ⟨23, [LRes.tmp 2, LRes.tmp 3], B15⟩ := by kernel_rfl

@[irreducible] def B16 : LCode :=
  .seq (.region [⟨none, [(some 1, .box 68 (.tmp 0)), (some 2, .mv (.con (.str []))), (some 3, .mv (.con (.int .i64 0)))]⟩]) (.seq (.region [⟨none, [(some 8, .load true 5 (.tmp 1)), (some 9, .call 176 [.tmp 8, .con (.int .i64 0)]),
    (some 7, .mv (.tmp 9)), (some 10, .extr 0 (.tmp 7)), (some 11, .extr 1 (.tmp 7)), (some 12, .extr 2 (.tmp 7)), (some 4, .mv (.tmp 10)), (some 5, .mv (.tmp 11)), (some 6, .mv (.tmp 12))]⟩]) (.seq (.block 0 (.seq (.region [⟨none,
    [(some 14, .mv (.tmp 4)), (some 13, .mv (.tmp 14))]⟩]) (.cond (.tmp 13) (.seq (.region [⟨none, [(some 2, .mv (.con (.str []))), (some 3, .mv (.con (.int .i64 21)))]⟩]) .ret) (.seq (.region [⟨none, [(some 16, .mv (.tmp 5)), (some
    15, .mv (.tmp 16))]⟩]) (.cond (.tmp 15) (.seq (.region [⟨none, [(some 2, .mv (.con (.str []))), (some 3, .mv (.con (.int .i64 24)))]⟩]) .ret) (.seq (.region [⟨none, [(some 18, .mv (.tmp 6)), (some 17, .mv (.tmp 18))]⟩]) (.cond
    (.tmp 17) (.seq (.region [⟨none, [(some 2, .mv (.con (.str []))), (some 3, .mv (.con (.int .i64 23)))]⟩]) .ret) (.seq (.region [⟨none, [(some 20, .load true 5 (.tmp 1)), (some 21, .call 177 [.tmp 20]), (some 22, .bin .gtr (.tmp
    21) (.con (.int .i64 65536))), (some 19, .mv (.tmp 22))]⟩]) (.cond (.tmp 19) (.seq (.region [⟨none, [(some 2, .mv (.con (.str []))), (some 3, .mv (.con (.int .i64 2)))]⟩]) .ret) .skip))))))))) (.seq (.region [⟨none, [(some 23,
    .load true 5 (.tmp 1)), (some 24, .call 178 [.con (.lit (.slice none 0 0)), .tmp 23]), (some 25, .cvt .b2s (.tmp 24)), (some 2, .mv (.tmp 25)), (some 3, .mv (.con (.int .i64 0)))]⟩]) .ret)))
theorem low16 : lowerFO [] prog 42 = some ⟨26, [LRes.tmp 2, LRes.tmp 3], B16⟩ := by kernel_rfl

@[irreducible] def B17 : LCode :=
  .seq (.region [⟨none, [(some 2, .box 68 (.tmp 0)), (some 3, .box 68 (.tmp 1)), (some 4, .mv (.con (.bool false)))]⟩]) (.seq (.seq (.region [⟨none, [(some 6, .faddr 0 (.tmp 2)), (some 7, .load false 1 (.tmp 6)), (some 8, .faddr 0
    (.tmp 3)), (some 9, .load false 1 (.tmp 8)), (some 10, .bin .neq (.tmp 7) (.tmp 9)), (some 11, .mv (.tmp 10))]⟩, ⟨some (11, false), [(some 12, .faddr 1 (.tmp 2)), (some 13, .load false 1 (.tmp 12)), (some 14, .faddr 1 (.tmp 3)),
    (some 15, .load false 1 (.tmp 14)), (some 16, .bin .neq (.tmp 13) (.tmp 15))]⟩, ⟨none, [(some 17, .pick (.tmp 11) (.con (.bool true)) (.tmp 16)), (some 18, .mv (.tmp 17))]⟩, ⟨some (18, false), [(some 19, .faddr 2 (.tmp 2)),
    (some 20, .load false 1 (.tmp 19)), (some 21, .faddr 2 (.tmp 3)), (some 22, .load false 1 (.tmp 21)), (some 23, .eqb true (.tmp 20) (.tmp 22))]⟩, ⟨none, [(some 24, .pick (.tmp 18) (.con (.bool true)) (.tmp 23)), (some 25, .mv
    (.tmp 24))]⟩, ⟨some (25, false), [(some 26, .faddr 3 (.tmp 2)), (some 27, .load false 1 (.tmp 26)), (some 28, .faddr 3 (.tmp 3)), (some 29, .load false 1 (.tmp 28)), (some 30, .bin .neq (.tmp 27) (.tmp 29))]⟩, ⟨none, [(some 31,
    .pick (.tmp 25) (.con (.bool true)) (.tmp 30)), (some 32, .mv (.tmp 31))]⟩, ⟨some (32, false), [(some 33, .faddr 4 (.tmp 2)), (some 34, .load false 1 (.tmp 33)), (some 35, .len (.tmp 34)), (some 36, .faddr 4 (.tmp 3)), (some 37,
    .load false 1 (.tmp 36)), (some 38, .len (.tmp 37)), (some 39, .bin .neq (.tmp 35) (.tmp 38))]⟩, ⟨none, [(some 40, .pick (.tmp 32) (.con (.bool true)) (.tmp 39))]⟩]) (.cond (.tmp 40) (.seq (.region [⟨none, [(some 4, .mv (.con
    (.bool false)))]⟩]) .ret) .skip)) (.seq (.seq (.region [⟨none, [(some 5, .mv (.con (.int .i64 0)))]⟩]) (.block 0 (.loop (.seq (.seq (.region [⟨none, [(some 41, .mv (.tmp 5)), (some 42, .faddr 4 (.tmp 2)), (some 43, .load false 1
    (.tmp 42)), (some 44, .len (.tmp 43)), (some 45, .bin .lss (.tmp 41) (.tmp 44))]⟩]) (.cond (.tmp 45) .skip (.exit 0))) (.seq (.block 1 (.seq (.quiet [⟨some 48, none, .faddr 4 (.tmp 2), false, 0, 0⟩, ⟨some 49, none, .load false 1
    (.tmp 48), false, 0, 0⟩, ⟨some 50, none, .mv (.tmp 5), false, 0, 0⟩, ⟨some 51, none, .iaddr 5 (.tmp 49) (.tmp 50), false, 0, 0⟩, ⟨some 52, none, .load true 5 (.tmp 51), false, 0, 0⟩, ⟨some 53, none, .faddr 4 (.tmp 3), false, 0,
    0⟩, ⟨some 54, none, .load false 1 (.tmp 53), false, 0, 0⟩, ⟨some 55, none, .mv (.tmp 5), false, 0, 0⟩, ⟨some 56, none, .iaddr 5 (.tmp 54) (.tmp 55), false, 0, 0⟩, ⟨some 57, none, .load true 5 (.tmp 56), false, 0, 0⟩, ⟨some 58,
    none, .call 300 [.tmp 52, .tmp 57], false, 0, 0⟩, ⟨some 59, none, .un .not (.tmp 58), false, 0, 0⟩]) (.cond (.tmp 59) (.seq (.region [⟨none, [(some 4, .mv (.con (.bool false)))]⟩]) .ret) .skip))) (.region [⟨none, [(some 46, .mv
    (.tmp 5)), (some 47, .bin .add (.tmp 46) (.con (.int .i64 1))), (some 5, .mv (.tmp 47))]⟩])))))) (.seq (.region [⟨none, [(some 4, .mv (.con (.bool true)))]⟩]) .ret)))
theorem low17 : lowerFO [] prog 300 = some ⟨60, [LRes.tmp 4], B17⟩ := by kernel_rfl

@[irreducible] def B19 : LCode :=
  .seq (.region [⟨none, [(some 2, .mv (.con (.int .i64 0))), (some 3, .mv (.con (.int .i64 0)))]⟩]) (.seq (.region [⟨none, [(some 8, .mv (.tmp 0)), (some 9, .call 143 [.tmp 8]), (some 7, .mv (.tmp 9)), (some 10, .extr 0 (.tmp 7)),
    (some 11, .extr 1 (.tmp 7)), (some 12, .extr 2 (.tmp 7)), (some 4, .mv (.tmp 10)), (some 5, .mv (.tmp 11)), (some 6, .mv (.tmp 12))]⟩]) (.seq (.region [⟨none, [(some 13, .mv (.tmp 4)), (some 14, .mv (.tmp 5)), (some 15, .bin
    .add (.tmp 13) (.tmp 14)), (some 16, .mv (.tmp 6)), (some 2, .mv (.tmp 15)), (some 3, .mv (.tmp 16))]⟩]) .ret))
theorem low19 : lowerFO [] prog 23 = some ⟨17, [LRes.tmp 2, LRes.tmp 3], B19⟩ := by kernel_rfl

@[irreducible] def B20 : LCode :=
  .seq (.region [⟨none, [(some 4, .alloc 68 [.int .i64 0, .int .i64 0, .bool false, .str [], .lit (.slice none 0 0)])]⟩]) (.seq (.region [⟨none, [(some 5, .mv (.tmp 0)), (some 6, .mv (.tmp 1)), (some 7, .call 249 [.tmp 6]), (some 8,
    .call 248 [.tmp 5, .tmp 7]), (none, .store 5 (.tmp 4) (.tmp 8))]⟩]) .ret)
theorem low20 : lowerFO [] prog 161 = some ⟨9, [LRes.cell 4 true 5], B20⟩ := by kernel_rfl

@[irreducible] def B21 : LCode :=
  .seq (.region [⟨none, [(some 4, .alloc 68 [.int .i64 0, .int .i64 0, .bool false, .str [], .lit (.slice none 0 0)])]⟩]) (.seq (.region [⟨none, [(some 5, .mv (.tmp 0)), (some 6, .mv (.tmp 1)), (some 7, .build [.int .i64 0, .int
    .i64 0, .bool false, .str [], .lit (.slice none 0 0)] [(1, 1, .tmp 5), (3, 1, .tmp 6)]), (none, .store 5 (.tmp 4) (.tmp 7))]⟩]) .ret)
theorem low21 : lowerFO [] prog 248 = some ⟨8, [LRes.cell 4 true 5], B21⟩ := by kernel_rfl

@[irreducible] def B22 : LCode :=
  .seq (.region [⟨none, [(some 4, .alloc 68 [.int .i64 0, .int .i64 0, .bool false, .str [], .lit (.slice none 0 0)])]⟩]) (.seq (.seq (.region [⟨none, [(some 5, .mv (.tmp 1))]⟩]) (.cond (.tmp 5) (.seq (.region [⟨none, [(some 6, .mv
    (.tmp 0)), (some 7, .call 248 [.tmp 6, .con (.str [255])]), (none, .store 5 (.tmp 4) (.tmp 7))]⟩]) .ret) .skip)) (.seq (.region [⟨none, [(some 8, .mv (.tmp 0)), (some 9, .call 248 [.tmp 8, .con (.str [0])]), (none, .store 5
    (.tmp 4) (.tmp 9))]⟩]) .ret))
theorem low22 : lowerFO [] prog 164 = some ⟨10, [LRes.cell 4 true 5], B22⟩ := by kernel_rfl

@[irreducible] def B23 : LCode :=
  .seq (.region [⟨none, [(some 2, .alloc 68 [.int .i64 0, .int .i64 0, .bool false, .str [], .lit (.slice none 0 0)])]⟩]) (.seq (.region [⟨none, [(some 3, .mv (.tmp 0)), (some 4, .call 265 [.tmp 3]), (some 5, .build [.int .i64 0,
    .int .i64 0, .bool false, .str [], .lit (.slice none 0 0)] [(1, 1, .con (.int .i64 16)), (2, 1, .con (.bool true)), (4, 1, .tmp 4)]), (none, .store 5 (.tmp 2) (.tmp 5))]⟩]) .ret)
theorem low23 : lowerFO [] prog 165 = some ⟨6, [LRes.cell 2 true 5], B23⟩ := by kernel_rfl

@[irreducible] def B24 : LCode :=
  .seq (.region [⟨none, [(some 4, .alloc 68 [.int .i64 0, .int .i64 0, .bool false, .str [], .lit (.slice none 0 0)])]⟩]) (.seq (.region [⟨none, [(some 5, .mv (.tmp 0)), (some 6, .mv (.tmp 1)), (some 7, .call 266 [.tmp 6]), (some 8,
    .build [.int .i64 0, .int .i64 0, .bool false, .str [], .lit (.slice none 0 0)] [(1, 1, .tmp 5), (3, 1, .tmp 7)]), (none, .store 5 (.tmp 4) (.tmp 8))]⟩]) .ret)
theorem low24 : lowerFO [] prog 168 = some ⟨9, [LRes.cell 4 true 5], B24⟩ := by kernel_rfl

@[irreducible] def B25 : LCode :=
  .seq (.region [⟨none, [(some 4, .alloc 68 [.int .i64 0, .int .i64 0, .bool false, .str [], .lit (.slice none 0 0)])]⟩]) (.seq (.region [⟨none, [(some 5, .mv (.tmp 0)), (some 6, .mv (.tmp 1)), (some 7, .build [.int .i64 0, .int
    .i64 0, .bool false, .str [], .lit (.slice none 0 0)] [(1, 1, .tmp 5), (3, 1, .tmp 6)]), (none, .store 5 (.tmp 4) (.tmp 7))]⟩]) .ret)
theorem low25 : lowerFO [] prog 175 = some ⟨8, [LRes.cell 4 true 5], B25⟩ := by kernel_rfl

@[irreducible] def B26 : LCode :=
  .seq (.region [⟨none, [(some 4, .alloc 68 [.int .i64 0, .int .i64 0, .bool false, .str [], .lit (.slice none 0 0)])]⟩]) (.seq (.seq (.region [⟨none, [(some 5, .mv (.tmp 1))]⟩]) (.cond (.tmp 5) (.seq (.region [⟨none, [(some 6, .mv
    (.tmp 0)), (some 7, .build [.int .i64 0, .int .i64 0, .bool false, .str [], .lit (.slice none 0 0)] [(1, 1, .tmp 6), (3, 1, .con (.str [255]))]), (none, .store 5 (.tmp 4) (.tmp 7))]⟩]) .ret) .skip)) (.seq (.region [⟨none, [(some
    8, .mv (.tmp 0)), (some 9, .build [.int .i64 0, .int .i64 0, .bool false, .str [], .lit (.slice none 0 0)] [(1, 1, .tmp 8), (3, 1, .con (.str [0]))]), (none, .store 5 (.tmp 4) (.tmp 9))]⟩]) .ret))
theorem low26 : lowerFO [] prog 40 = some ⟨10, [LRes.cell 4 true 5], B26⟩ := by kernel_rfl

@[irreducible] def B27 : LCode :=
  .seq (.region [⟨none, [(some 2, .alloc 68 [.int .i64 0, .int .i64 0, .bool false, .str [], .lit (.slice none 0 0)])]⟩]) (.seq (.region [⟨none, [(some 3, .mv (.tmp 0)), (some 4, .build [.int .i64 0, .int .i64 0, .bool false, .str
    [], .lit (.slice none 0 0)] [(1, 1, .con (.int .i64 16)), (2, 1, .con (.bool true)), (4, 1, .tmp 3)]), (none, .store 5 (.tmp 2) (.tmp 4))]⟩]) .ret)
theorem low27 : lowerFO [] prog 167 = some ⟨5, [LRes.cell 2 true 5], B27⟩ := by kernel_rfl

@[irreducible] def B28 : LCode :=
  .seq (.region [⟨none, [(some 3, .box 68 (.tmp 0)), (some 6, .alloc 68 [.int .i64 0, .int .i64 0, .bool false, .str [], .lit (.slice none 0 0)])]⟩]) (.seq (.region [⟨none, [(some 7, .mv (.tmp 1)), (some 8, .mv (.tmp 2)), (some 9,
    .faddr 4 (.tmp 3)), (some 10, .load false 1 (.tmp 9)), (some 11, .call 265 [.tmp 10]), (some 12, .faddr 0 (.tmp 3)), (none, .store 1 (.tmp 12) (.tmp 7)), (some 13, .faddr 1 (.tmp 3)), (none, .store 1 (.tmp 13) (.tmp 8)), (some
    14, .faddr 4 (.tmp 3)), (none, .store 1 (.tmp 14) (.tmp 11))]⟩]) (.seq (.region [⟨none, [(some 15, .load true 5 (.tmp 3)), (none, .store 5 (.tmp 6) (.tmp 15))]⟩]) .ret))
theorem low28 : lowerFO [] prog 264 = some ⟨16, [LRes.cell 6 true 5], B28⟩ := by kernel_rfl

@[irreducible] def B29 : LCode :=
  .seq (.region [⟨none, [(some 3, .box 68 (.tmp 0)), (some 6, .alloc 68 [.int .i64 0, .int .i64 0, .bool false, .str [], .lit (.slice none 0 0)])]⟩]) (.seq (.region [⟨none, [(some 7, .mv (.tmp 1)), (some 8, .mv (.tmp 2)), (some 9,
    .faddr 0 (.tmp 3)), (none, .store 1 (.tmp 9) (.tmp 7)), (some 10, .faddr 1 (.tmp 3)), (none, .store 1 (.tmp 10) (.tmp 8))]⟩]) (.seq (.region [⟨none, [(some 11, .load true 5 (.tmp 3)), (none, .store 5 (.tmp 6) (.tmp 11))]⟩])
    .ret))
theorem low29 : lowerFO [] prog 174 = some ⟨12, [LRes.cell 6 true 5], B29⟩ := by kernel_rfl

@[irreducible] def B30 : LCode :=
  .seq (.region [⟨none, [(some 3, .box 68 (.tmp 0)), (some 6, .mv (.con (.int .i64 0))), (some 7, .mv (.con (.int .i64 0)))]⟩]) (.seq (.region [⟨none, [(some 11, .faddr 3 (.tmp 3)), (some 12, .load false 1 (.tmp 11)), (some 13,
    .call 146 [.tmp 12]), (some 10, .mv (.tmp 13)), (some 14, .extr 0 (.tmp 10)), (some 15, .extr 1 (.tmp 10)), (some 8, .mv (.tmp 14)), (some 9, .mv (.tmp 15))]⟩]) (.seq (.seq (.region [⟨none, [(some 16, .load true 5 (.tmp 3)),
    (some 17, .mv (.tmp 1)), (some 18, .mv (.tmp 2)), (some 19, .call 147 [.tmp 16, .tmp 17, .tmp 18, .con (.bool false)]), (some 20, .un .not (.tmp 19)), (some 21, .mv (.tmp 20))]⟩, ⟨some (21, false), [(some 22, .mv (.tmp 9)),
    (some 23, .bin .neq (.tmp 22) (.con (.int .i64 0)))]⟩, ⟨none, [(some 24, .pick (.tmp 21) (.con (.bool true)) (.tmp 23))]⟩]) (.cond (.tmp 24) (.seq (.region [⟨none, [(some 6, .mv (.con (.int .i64 0))), (some 7, .mv (.con (.int
    .i64 24)))]⟩]) .ret) .skip)) (.seq (.region [⟨none, [(some 25, .mv (.tmp 8)), (some 6, .mv (.tmp 25)), (some 7, .mv (.con (.int .i64 0)))]⟩]) .ret)))
theorem low30 : lowerFO [] prog 25 = some ⟨26, [LRes.tmp 6, LRes.tmp 7], B30⟩ := by kernel_rfl

@[irreducible] def B31 : LCode :=
  .seq (.region [⟨none, [(some 3, .box 68 (.tmp 0)), (some 6, .mv (.con (.int .i64 0))), (some 7, .mv (.con (.int .i64 0)))]⟩]) (.seq (.seq (.region [⟨none, [(some 8, .load true 5 (.tmp 3)), (some 9, .mv (.tmp 1)), (some 10, .mv
    (.tmp 2)), (some 11, .call 295 [.tmp 8, .tmp 9, .tmp 10, .con (.bool false)]), (some 12, .un .not (.tmp 11)), (some 13, .mv (.tmp 12))]⟩, ⟨some (13, false), [(some 14, .faddr 3 (.tmp 3)), (some 15, .load false 1 (.tmp 14)),
    (some 16, .lenS (.tmp 15)), (some 17, .bin .lss (.tmp 16) (.con (.int .i64 1)))]⟩, ⟨none, [(some 18, .pick (.tmp 13) (.con (.bool true)) (.tmp 17)), (some 19, .mv (.tmp 18))]⟩, ⟨some (19, false), [(some 20, .faddr 3 (.tmp 3)),
    (some 21, .load false 1 (.tmp 20)), (some 22, .lenS (.tmp 21)), (some 23, .bin .gtr (.tmp 22) (.con (.int .i64 8)))]⟩, ⟨none, [(some 24, .pick (.tmp 19) (.con (.bool true)) (.tmp 23))]⟩]) (.cond (.tmp 24) (.seq (.region [⟨none,
    [(some 6, .mv (.con (.int .i64 0))), (some 7, .mv (.con (.int .i64 24)))]⟩]) .ret) .skip)) (.seq (.region [⟨none, [(some 25, .faddr 3 (.tmp 3)), (some 26, .load false 1 (.tmp 25)), (some 27, .call 296 [.tmp 26]), (some 28, .extr
    0 (.tmp 27)), (some 29, .extr 1 (.tmp 27)), (some 6, .mv (.tmp 28)), (some 7, .mv (.tmp 29))]⟩]) .ret))
theorem low31 : lowerFO [] prog 197 = some ⟨30, [LRes.tmp 6, LRes.tmp 7], B31⟩ := by kernel_rfl

@[irreducible] def B32 : LCode :=
  .seq (.region [⟨none, [(some 3, .box 68 (.tmp 0)), (some 6, .mv (.con (.str []))), (some 7, .mv (.con (.int .i64 0)))]⟩]) (.seq (.seq (.region [⟨none, [(some 8, .load true 5 (.tmp 3)), (some 9, .mv (.tmp 1)), (some 10, .mv (.tmp
    2)), (some 11, .call 147 [.tmp 8, .tmp 9, .tmp 10, .con (.bool false)]), (some 12, .un .not (.tmp 11))]⟩]) (.cond (.tmp 12) (.seq (.region [⟨none, [(some 6, .mv (.con (.str []))), (some 7, .mv (.con (.int .i64 24)))]⟩]) .ret)
    .skip)) (.seq (.region [⟨none, [(some 13, .faddr 3 (.tmp 3)), (some 14, .load false 1 (.tmp 13)), (some 6, .mv (.tmp 14)), (some 7, .mv (.con (.int .i64 0)))]⟩]) .ret))
theorem low32 : lowerFO [] prog 313 = some ⟨15, [LRes.tmp 6, LRes.tmp 7], B32⟩ := by kernel_rfl

@[irreducible] def B33 : LCode :=
  .seq (.region [⟨none, [(some 3, .box 68 (.tmp 0)), (some 6, .mv (.con (.str []))), (some 7, .mv (.con (.int .i64 0)))]⟩]) (.seq (.seq (.region [⟨none, [(some 8, .load true 5 (.tmp 3)), (some 9, .mv (.tmp 1)), (some 10, .mv (.tmp
    2)), (some 11, .call 295 [.tmp 8, .tmp 9, .tmp 10, .con (.bool false)]), (some 12, .un .not (.tmp 11))]⟩]) (.cond (.tmp 12) (.seq (.region [⟨none, [(some 6, .mv (.con (.str []))), (some 7, .mv (.con (.int .i64 24)))]⟩]) .ret)
    .skip)) (.seq (.region [⟨none, [(some 13, .faddr 3 (.tmp 3)), (some 14, .load false 1 (.tmp 13)), (some 6, .mv (.tmp 14)), (some 7, .mv (.con (.int .i64 0)))]⟩]) .ret))
theorem low33 : lowerFO [] prog 297 = some ⟨15, [LRes.tmp 6, LRes.tmp 7], B33⟩ := by kernel_rfl

@[irreducible] def B34 : LCode :=
  .seq (.region [⟨none, [(some 3, .box 68 (.tmp 0)), (some 6, .mv (.con (.bool false))), (some 7, .mv (.con (.int .i64 0)))]⟩]) (.seq (.seq (.region [⟨none, [(some 8, .load true 5 (.tmp 3)), (some 9, .mv (.tmp 1)), (some 10, .mv
    (.tmp 2)), (some 11, .call 147 [.tmp 8, .tmp 9, .tmp 10, .con (.bool false)]), (some 12, .un .not (.tmp 11)), (some 13, .mv (.tmp 12))]⟩, ⟨some (13, false), [(some 14, .faddr 3 (.tmp 3)), (some 15, .load false 1 (.tmp 14)),
    (some 16, .lenS (.tmp 15)), (some 17, .bin .neq (.tmp 16) (.con (.int .i64 1)))]⟩, ⟨none, [(some 18, .pick (.tmp 13) (.con (.bool true)) (.tmp 17))]⟩]) (.cond (.tmp 18) (.seq (.region [⟨none, [(some 6, .mv (.con (.bool false))),
    (some 7, .mv (.con (.int .i64 24)))]⟩]) .ret) .skip)) (.seq (.region [⟨none, [(some 19, .faddr 3 (.tmp 3)), (some 20, .load false 1 (.tmp 19)), (some 21, .idx (.tmp 20) (.con (.int .i64 0))), (some 22, .bin .neq (.tmp 21) (.con
    (.int .u8 0))), (some 6, .mv (.tmp 22)), (some 7, .mv (.con (.int .i64 0)))]⟩]) .ret))
theorem low34 : lowerFO [] prog 318 = some ⟨23, [LRes.tmp 6, LRes.tmp 7], B34⟩ := by kernel_rfl

@[irreducible] def B35 : LCode :=
  .seq (.region [⟨none, [(some 3, .box 68 (.tmp 0)), (some 6, .mv (.con (.bool false))), (some 7, .mv (.con (.int .i64 0)))]⟩]) (.seq (.seq (.region [⟨none, [(some 8, .load true 5 (.tmp 3)), (some 9, .mv (.tmp 1)), (some 10, .mv
    (.tmp 2)), (some 11, .call 295 [.tmp 8, .tmp 9, .tmp 10, .con (.bool false)]), (some 12, .un .not (.tmp 11)), (some 13, .mv (.tmp 12))]⟩, ⟨some (13, false), [(some 14, .faddr 3 (.tmp 3)), (some 15, .load false 1 (.tmp 14)),
    (some 16, .lenS (.tmp 15)), (some 17, .bin .neq (.tmp 16) (.con (.int .i64 1)))]⟩, ⟨none, [(some 18, .pick (.tmp 13) (.con (.bool true)) (.tmp 17))]⟩]) (.cond (.tmp 18) (.seq (.region [⟨none, [(some 6, .mv (.con (.bool false))),
    (some 7, .mv (.con (.int .i64 24)))]⟩]) .ret) .skip)) (.seq (.region [⟨none, [(some 19, .faddr 3 (.tmp 3)), (some 20, .load false 1 (.tmp 19)), (some 21, .idx (.tmp 20) (.con (.int .i64 0))), (some 22, .bin .neq (.tmp 21) (.con
    (.int .u8 0))), (some 6, .mv (.tmp 22)), (some 7, .mv (.con (.int .i64 0)))]⟩]) .ret))
theorem low35 : lowerFO [] prog 298 = some ⟨23, [LRes.tmp 6, LRes.tmp 7], B35⟩ := by kernel_rfl

@[irreducible] def B36 : LCode :=
  .seq (.region [⟨none, [(some 3, .box 68 (.tmp 0)), (some 6, .mv (.con (.lit (.slice none 0 0)))), (some 7, .mv (.con (.int .i64 0)))]⟩]) (.seq (.seq (.region [⟨none, [(some 8, .load true 5 (.tmp 3)), (some 9, .mv (.tmp 1)), (some
    10, .mv (.tmp 2)), (some 11, .call 147 [.tmp 8, .tmp 9, .tmp 10, .con (.bool true)]), (some 12, .un .not (.tmp 11))]⟩]) (.cond (.tmp 12) (.seq (.region [⟨none, [(some 6, .mv (.con (.lit (.slice none 0 0)))), (some 7, .mv (.con
    (.int .i64 24)))]⟩]) .ret) .skip)) (.seq (.region [⟨none, [(some 13, .faddr 4 (.tmp 3)), (some 14, .load false 1 (.tmp 13)), (some 15, .call 265 [.tmp 14]), (some 6, .mv (.tmp 15)), (some 7, .mv (.con (.int .i64 0)))]⟩]) .ret))
theorem low36 : lowerFO [] prog 271 = some ⟨16, [LRes.tmp 6, LRes.tmp 7], B36⟩ := by kernel_rfl

@[irreducible] def B37 : LCode :=
  .seq (.region [⟨none, [(some 3, .box 68 (.tmp 0)), (some 6, .mv (.con (.lit (.slice none 0 0)))), (some 7, .mv (.con (.int .i64 0)))]⟩]) (.seq (.seq (.region [⟨none, [(some 8, .load true 5 (.tmp 3)), (some 9, .mv (.tmp 1)), (some
    10, .mv (.tmp 2)), (some 11, .call 295 [.tmp 8, .tmp 9, .tmp 10, .con (.bool true)]), (some 12, .un .not (.tmp 11))]⟩]) (.cond (.tmp 12) (.seq (.region [⟨none, [(some 6, .mv (.con (.lit (.slice none 0 0)))), (some 7, .mv (.con
    (.int .i64 24)))]⟩]) .ret) .skip)) (.seq (.region [⟨none, [(some 13, .faddr 4 (.tmp 3)), (some 14, .load false 1 (.tmp 13)), (some 6, .mv (.tmp 14)), (some 7, .mv (.con (.int .i64 0)))]⟩]) .ret))
theorem low37 : lowerFO [] prog 196 = some ⟨15, [LRes.tmp 6, LRes.tmp 7], B37⟩ := by kernel_rfl

@[irreducible] def B38 : LCode :=
  .seq (.region [⟨none, [(some 4, .mv (.con (.bool false)))]⟩]) (.seq (.seq (.region [⟨none, [(some 6, .mv (.tmp 0)), (some 7, .len (.tmp 6)), (some 8, .mv (.tmp 1)), (some 9, .len (.tmp 8)), (some 10, .bin .neq (.tmp 7) (.tmp
    9))]⟩]) (.cond (.tmp 10) (.seq (.region [⟨none, [(some 4, .mv (.con (.bool false)))]⟩]) .ret) .skip)) (.seq (.seq (.region [⟨none, [(some 5, .mv (.con (.int .i64 0)))]⟩]) (.block 0 (.loop (.seq (.seq (.region [⟨none, [(some 11,
    .mv (.tmp 5)), (some 12, .mv (.tmp 0)), (some 13, .len (.tmp 12)), (some 14, .bin .lss (.tmp 11) (.tmp 13))]⟩]) (.cond (.tmp 14) .skip (.exit 0))) (.seq (.block 1 (.seq (.quiet [⟨some 17, none, .mv (.tmp 0), false, 0, 0⟩, ⟨some
    18, none, .mv (.tmp 5), false, 0, 0⟩, ⟨some 19, none, .iaddr 5 (.tmp 17) (.tmp 18), false, 0, 0⟩, ⟨some 20, none, .load true 5 (.tmp 19), false, 0, 0⟩, ⟨some 21, none, .mv (.tmp 1), false, 0, 0⟩, ⟨some 22, none, .mv (.tmp 5),
    false, 0, 0⟩, ⟨some 23, none, .iaddr 5 (.tmp 21) (.tmp 22), false, 0, 0⟩, ⟨some 24, none, .load true 5 (.tmp 23), false, 0, 0⟩, ⟨some 25, none, .call 300 [.tmp 20, .tmp 24], false, 0, 0⟩, ⟨some 26, none, .un .not (.tmp 25),
    false, 0, 0⟩]) (.cond (.tmp 26) (.seq (.region [⟨none, [(some 4, .mv (.con (.bool false)))]⟩]) .ret) .skip))) (.region [⟨none, [(some 15, .mv (.tmp 5)), (some 16, .bin .add (.tmp 15) (.con (.int .i64 1))), (some 5, .mv (.tmp
    16))]⟩])))))) (.seq (.region [⟨none, [(some 4, .mv (.con (.bool true)))]⟩]) .ret)))
theorem low38 : lowerFO [] prog 213 = some ⟨27, [LRes.tmp 4], B38⟩ := by kernel_rfl

@[irreducible] def B39 : LCode :=
  .seq (.region [⟨none, [(some 2, .mv (.con (.int .i64 0))), (some 3, .mv (.con (.int .i64 0)))]⟩]) (.seq (.region [⟨none, [(some 8, .mv (.tmp 0)), (some 9, .call 294 [.tmp 8]), (some 7, .mv (.tmp 9)), (some 10, .extr 0 (.tmp 7)),
    (some 11, .extr 1 (.tmp 7)), (some 12, .extr 2 (.tmp 7)), (some 4, .mv (.tmp 10)), (some 5, .mv (.tmp 11)), (some 6, .mv (.tmp 12))]⟩]) (.seq (.seq (.region [⟨none, [(some 13, .mv (.tmp 6)), (some 14, .bin .neq (.tmp 13) (.con
    (.int .i64 0)))]⟩]) (.cond (.tmp 14) (.seq (.region [⟨none, [(some 15, .mv (.tmp 6)), (some 2, .mv (.con (.int .i64 0))), (some 3, .mv (.tmp 15))]⟩]) .ret) .skip)) (.seq (.seq (.region [⟨none, [(some 16, .mv (.tmp 4)), (some 17,
    .mv (.tmp 5)), (some 18, .bin .add (.tmp 16) (.tmp 17)), (some 19, .bin .gtr (.tmp 18) (.con (.int .i64 65536)))]⟩]) (.cond (.tmp 19) (.seq (.region [⟨none, [(some 2, .mv (.con (.int .i64 0))), (some 3, .mv (.con (.int .i64
    2)))]⟩]) .ret) .skip)) (.seq (.region [⟨none, [(some 20, .mv (.tmp 4)), (some 21, .mv (.tmp 5)), (some 22, .bin .add (.tmp 20) (.tmp 21)), (some 2, .mv (.tmp 22)), (some 3, .mv (.con (.int .i64 0)))]⟩]) .ret))))
theorem low39 : lowerFO [] prog 293 = some ⟨23, [LRes.tmp 2, LRes.tmp 3], B39⟩ := by kernel_rfl

@[irreducible] def B41 : LCode :=
  .seq (.region [⟨none, [(some 2, .alloc 68 [.int .i64 0, .int .i64 0, .bool false, .str [], .lit (.slice none 0 0)]), (some 3, .mv (.con (.int .i64 0)))]⟩]) (.seq (.region [⟨none, [(some 8, .mv (.tmp 0)), (some 9, .call 195 [.tmp
    8, .con (.int .i64 0)]), (some 7, .mv (.tmp 9)), (some 10, .extr 0 (.tmp 7)), (some 11, .extr 1 (.tmp 7)), (some 12, .extr 2 (.tmp 7)), (some 4, .alloc 68 [.int .i64 0, .int .i64 0, .bool false, .str [], .lit (.slice none 0
    0)]), (none, .store 5 (.tmp 4) (.tmp 10)), (some 5, .mv (.tmp 11)), (some 6, .mv (.tmp 12))]⟩]) (.seq (.seq (.region [⟨none, [(some 13, .mv (.tmp 6)), (some 14, .bin .neq (.tmp 13) (.con (.int .i64 0)))]⟩]) (.cond (.tmp 14)
    (.seq (.region [⟨none, [(some 15, .build [.int .i64 0, .int .i64 0, .bool false, .str [], .lit (.slice none 0 0)] []), (some 16, .mv (.tmp 6)), (none, .store 5 (.tmp 2) (.tmp 15)), (some 3, .mv (.tmp 16))]⟩]) .ret) .skip)) (.seq
    (.seq (.region [⟨none, [(some 17, .mv (.tmp 5)), (some 18, .mv (.tmp 0)), (some 19, .lenS (.tmp 18)), (some 20, .bin .lss (.tmp 17) (.tmp 19))]⟩]) (.cond (.tmp 20) (.seq (.region [⟨none, [(some 21, .build [.int .i64 0, .int .i64
    0, .bool false, .str [], .lit (.slice none 0 0)] []), (none, .store 5 (.tmp 2) (.tmp 21)), (some 3, .mv (.con (.int .i64 25)))]⟩]) .ret) .skip)) (.seq (.region [⟨none, [(some 22, .load true 5 (.tmp 4)), (none, .store 5 (.tmp 2)
    (.tmp 22)), (some 3, .mv (.con (.int .i64 0)))]⟩]) .ret))))
theorem low41 : lowerFO [] prog 53 = some ⟨23, [LRes.cell 2 true 5, LRes.tmp 3], B41⟩ := by kernel_rfl

@[irreducible] def B42 : LCode :=
  .seq (.region [⟨none, [(some 3, .box 68 (.tmp 0)), (some 6, .mv (.con (.bool false)))]⟩]) (.seq (.seq (.region [⟨none, [(some 9, .mv (.tmp 1)), (some 10, .bin .geq (.tmp 9) (.con (.int .i64 20)))]⟩]) (.cond (.tmp 10) (.seq
    (.region [⟨none, [(some 6, .mv (.con (.bool true)))]⟩]) .ret) .skip)) (.seq (.seq (.region [⟨none, [(some 11, .mv (.tmp 2)), (some 12, .load true 5 (.tmp 3)), (some 13, .callv (.tmp 11) [.tmp 12]), (some 14, .un .not (.tmp
    13))]⟩]) (.cond (.tmp 14) (.seq (.region [⟨none, [(some 6, .mv (.con (.bool false)))]⟩]) .ret) .skip)) (.seq (.seq (.region [⟨none, [(some 15, .faddr 4 (.tmp 3)), (some 16, .load false 1 (.tmp 15)), (some 17, .len (.tmp 16)),
    (some 18, .mv (.con (.int .i64 0)))]⟩]) (.block 0 (.loop (.seq (.region [⟨none, [(some 19, .bin .lss (.tmp 18) (.tmp 17))]⟩]) (.seq (.cond (.tmp 19) .skip (.exit 0)) (.seq (.block 1 (.seq (.region [⟨none, [(some 20, .iaddr 5
    (.tmp 16) (.tmp 18)), (some 21, .load true 5 (.tmp 20)), (some 8, .alloc 68 [.int .i64 0, .int .i64 0, .bool false, .str [], .lit (.slice none 0 0)]), (none, .store 5 (.tmp 8) (.tmp 21))]⟩]) (.seq (.region [⟨none, [(some 22,
    .load true 5 (.tmp 8)), (some 23, .mv (.tmp 1)), (some 24, .bin .add (.tmp 23) (.con (.int .i64 1))), (some 25, .mv (.tmp 2)), (some 26, .call 154 [.tmp 22, .tmp 24, .tmp 25]), (some 27, .un .not (.tmp 26))]⟩]) (.cond (.tmp 27)
    (.seq (.region [⟨none, [(some 6, .mv (.con (.bool false)))]⟩]) .ret) .skip)))) (.region [⟨none, [(some 28, .bin .add (.tmp 18) (.con (.int .i64 1))), (some 18, .mv (.tmp 28))]⟩]))))))) (.seq (.region [⟨none, [(some 6, .mv (.con
    (.bool true)))]⟩]) .ret))))
theorem low42 : lowerFO [] prog 154 = some ⟨29, [LRes.tmp 6], B42⟩ := by kernel_rfl

@[irreducible] def B43 : LCode :=
  .seq (.region [⟨none, [(some 1, .box 68 (.tmp 0)), (some 2, .mv (.con (.bool false)))]⟩]) (.seq (.region [⟨none, [(some 3, .faddr 0 (.tmp 1)), (some 4, .load false 1 (.tmp 3)), (some 5, .bin .geq (.tmp 4) (.con (.int .i64 0))),
    (some 6, .mv (.tmp 5))]⟩, ⟨some (6, true), [(some 7, .faddr 0 (.tmp 1)), (some 8, .load false 1 (.tmp 7)), (some 9, .bin .leq (.tmp 8) (.con (.int .i64 3)))]⟩, ⟨none, [(some 10, .pick (.tmp 6) (.tmp 9) (.con (.bool false))),
    (some 11, .mv (.tmp 10))]⟩, ⟨some (11, true), [(some 12, .faddr 1 (.tmp 1)), (some 13, .load false 1 (.tmp 12)), (some 14, .bin .geq (.tmp 13) (.con (.int .i64 0)))]⟩, ⟨none, [(some 15, .pick (.tmp 11) (.tmp 14) (.con (.bool
    false))), (some 16, .mv (.tmp 15))]⟩, ⟨some (16, true), [(some 17, .faddr 1 (.tmp 1)), (some 18, .load false 1 (.tmp 17)), (some 19, .bin .leq (.tmp 18) (.con (.int .i64 30)))]⟩, ⟨none, [(some 20, .pick (.tmp 16) (.tmp 19) (.con
    (.bool false))), (some 2, .mv (.tmp 20))]⟩]) .ret)
theorem low43 : lowerFO [] prog 155 = some ⟨21, [LRes.tmp 2], B43⟩ := by kernel_rfl

@[irreducible] def B44 : LCode :=
  .seq (.region [⟨none, [(some 1, .box 68 (.tmp 0)), (some 2, .mv (.con (.bool false)))]⟩]) (.seq (.seq (.region [⟨none, [(some 3, .faddr 2 (.tmp 1)), (some 4, .load false 1 (.tmp 3))]⟩]) (.cond (.tmp 4) (.seq (.region [⟨none,
    [(some 5, .faddr 3 (.tmp 1)), (some 6, .load false 1 (.tmp 5)), (some 7, .bin .eql (.tmp 6) (.con (.str []))), (some 2, .mv (.tmp 7))]⟩]) .ret) .skip)) (.seq (.region [⟨none, [(some 8, .faddr 4 (.tmp 1)), (some 9, .load false 1
    (.tmp 8)), (some 10, .len (.tmp 9)), (some 11, .bin .eql (.tmp 10) (.con (.int .i64 0))), (some 2, .mv (.tmp 11))]⟩]) .ret))
theorem low44 : lowerFO [] prog 156 = some ⟨12, [LRes.tmp 2], B44⟩ := by kernel_rfl

@[irreducible] def B45 : LCode :=
  .seq (.region [⟨none, [(some 2, .box 68 (.tmp 0)), (some 4, .mv (.con (.bool false)))]⟩]) (.seq (.seq (.region [⟨none, [(some 7, .mv (.tmp 1)), (some 8, .bin .geq (.tmp 7) (.con (.int .i64 20)))]⟩]) (.cond (.tmp 8) (.seq (.region
    [⟨none, [(some 4, .mv (.con (.bool true)))]⟩]) .ret) .skip)) (.seq (.seq (.region [⟨none, [(some 9, .faddr 4 (.tmp 2)), (some 10, .load false 1 (.tmp 9)), (some 11, .len (.tmp 10)), (some 12, .mv (.con (.int .i64 0)))]⟩])
    (.block 0 (.loop (.seq (.region [⟨none, [(some 13, .bin .lss (.tmp 12) (.tmp 11))]⟩]) (.seq (.cond (.tmp 13) .skip (.exit 0)) (.seq (.block 1 (.seq (.region [⟨none, [(some 14, .iaddr 5 (.tmp 10) (.tmp 12)), (some 15, .load true
    5 (.tmp 14)), (some 6, .alloc 68 [.int .i64 0, .int .i64 0, .bool false, .str [], .lit (.slice none 0 0)]), (none, .store 5 (.tmp 6) (.tmp 15))]⟩]) (.seq (.region [⟨none, [(some 16, .load true 5 (.tmp 6)), (some 17, .mv (.tmp
    1)), (some 18, .bin .add (.tmp 17) (.con (.int .i64 1))), (some 19, .call 157 [.tmp 16, .tmp 18])]⟩]) (.cond (.tmp 19) (.seq (.region [⟨none, [(some 4, .mv (.con (.bool true)))]⟩]) .ret) .skip)))) (.region [⟨none, [(some 20,
    .bin .add (.tmp 12) (.con (.int .i64 1))), (some 12, .mv (.tmp 20))]⟩]))))))) (.seq (.region [⟨none, [(some 4, .mv (.con (.bool false)))]⟩]) .ret)))
theorem low45 : lowerFO [] prog 157 = some ⟨21, [LRes.tmp 4], B45⟩ := by kernel_rfl

@[irreducible] def B46 : LCode :=
  .seq (.region [⟨none, [(some 1, .box 68 (.tmp 0)), (some 2, .mv (.con (.int .i64 0)))]⟩]) (.seq (.region [⟨none, [(some 6, .faddr 3 (.tmp 1)), (some 7, .load false 1 (.tmp 6)), (some 8, .lenS (.tmp 7)), (some 3, .mv (.tmp 8))]⟩])
    (.seq (.seq (.region [⟨none, [(some 9, .faddr 4 (.tmp 1)), (some 10, .load false 1 (.tmp 9)), (some 11, .len (.tmp 10)), (some 12, .mv (.con (.int .i64 0)))]⟩]) (.block 0 (.loop (.seq (.region [⟨none, [(some 13, .bin .lss (.tmp
    12) (.tmp 11))]⟩]) (.seq (.cond (.tmp 13) .skip (.exit 0)) (.seq (.block 1 (.seq (.region [⟨none, [(some 14, .iaddr 5 (.tmp 10) (.tmp 12)), (some 15, .load true 5 (.tmp 14)), (some 5, .alloc 68 [.int .i64 0, .int .i64 0, .bool
    false, .str [], .lit (.slice none 0 0)]), (none, .store 5 (.tmp 5) (.tmp 15))]⟩]) (.region [⟨none, [(some 16, .mv (.tmp 3)), (some 17, .load true 5 (.tmp 5)), (some 18, .call 158 [.tmp 17]), (some 19, .bin .add (.tmp 16) (.tmp
    18)), (some 20, .minI (.tmp 19) (.con (.int .i64 65537))), (some 3, .mv (.tmp 20))]⟩]))) (.region [⟨none, [(some 21, .bin .add (.tmp 12) (.con (.int .i64 1))), (some 12, .mv (.tmp 21))]⟩]))))))) (.seq (.region [⟨none, [(some 22,
    .mv (.tmp 3)), (some 23, .minI (.tmp 22) (.con (.int .i64 65537))), (some 24, .call 245 [.tmp 23]), (some 25, .lenS (.tmp 24)), (some 26, .bin .add (.con (.int .i64 1)) (.tmp 25)), (some 27, .mv (.tmp 3)), (some 28, .bin .add
    (.tmp 26) (.tmp 27)), (some 29, .minI (.tmp 28) (.con (.int .i64 65537))), (some 2, .mv (.tmp 29))]⟩]) .ret)))
theorem low46 : lowerFO [] prog 158 = some ⟨30, [LRes.tmp 2], B46⟩ := by kernel_rfl

@[irreducible] def B47 : LCode :=
  .seq (.region [⟨none, [(some 3, .box 68 (.tmp 1))]⟩]) (.seq (.region [⟨none, [(some 10, .faddr 0 (.tmp 3)), (some 11, .load false 1 (.tmp 10)), (some 12, .bin .shl (.tmp 11) (.con (.int .u64 6))), (some 13, .faddr 1 (.tmp 3)),
    (some 14, .load false 1 (.tmp 13)), (some 15, .bin .or (.tmp 12) (.tmp 14)), (some 4, .mv (.tmp 15))]⟩]) (.seq (.seq (.region [⟨none, [(some 16, .faddr 2 (.tmp 3)), (some 17, .load false 1 (.tmp 16))]⟩]) (.cond (.tmp 17)
    (.region [⟨none, [(some 18, .mv (.tmp 4)), (some 19, .bin .or (.tmp 18) (.con (.int .i64 32))), (some 4, .mv (.tmp 19))]⟩]) .skip)) (.seq (.region [⟨none, [(some 20, .faddr 3 (.tmp 3)), (some 21, .load false 1 (.tmp 20)), (some
    22, .lenS (.tmp 21)), (some 5, .mv (.tmp 22))]⟩]) (.seq (.seq (.region [⟨none, [(some 23, .faddr 4 (.tmp 3)), (some 24, .load false 1 (.tmp 23)), (some 25, .len (.tmp 24)), (some 26, .mv (.con (.int .i64 0)))]⟩]) (.block 0
    (.loop (.seq (.region [⟨none, [(some 27, .bin .lss (.tmp 26) (.tmp 25))]⟩]) (.seq (.cond (.tmp 27) .skip (.exit 0)) (.seq (.block 1 (.seq (.region [⟨none, [(some 28, .iaddr 5 (.tmp 24) (.tmp 26)), (some 29, .load true 5 (.tmp
    28)), (some 7, .alloc 68 [.int .i64 0, .int .i64 0, .bool false, .str [], .lit (.slice none 0 0)]), (none, .store 5 (.tmp 7) (.tmp 29))]⟩]) (.region [⟨none, [(some 30, .mv (.tmp 5)), (some 31, .load true 5 (.tmp 7)), (some 32,
    .call 158 [.tmp 31]), (some 33, .bin .add (.tmp 30) (.tmp 32)), (some 5, .mv (.tmp 33))]⟩]))) (.region [⟨none, [(some 34, .bin .add (.tmp 26) (.con (.int .i64 1))), (some 26, .mv (.tmp 34))]⟩]))))))) (.seq (.region [⟨none,
    [(some 35, .mv (.tmp 0)), (some 36, .mv (.tmp 4)), (some 37, .cvt (.int .u8) (.tmp 36)), (some 38, .call 246 [.tmp 35, .tmp 37])]⟩]) (.seq (.region [⟨none, [(some 39, .mv (.tmp 0)), (some 40, .mv (.tmp 5)), (some 41, .call 245
    [.tmp 40]), (some 42, .call 247 [.tmp 39, .tmp 41])]⟩]) (.seq (.region [⟨none, [(some 43, .mv (.tmp 0)), (some 44, .faddr 3 (.tmp 3)), (some 45, .load false 1 (.tmp 44)), (some 46, .call 247 [.tmp 43, .tmp 45])]⟩]) (.seq
    (.region [⟨none, [(some 47, .faddr 4 (.tmp 3)), (some 48, .load false 1 (.tmp 47)), (some 49, .len (.tmp 48)), (some 50, .mv (.con (.int .i64 0)))]⟩]) (.block 2 (.loop (.seq (.region [⟨none, [(some 51, .bin .lss (.tmp 50) (.tmp
    49))]⟩]) (.seq (.cond (.tmp 51) .skip (.exit 2)) (.seq (.block 3 (.seq (.region [⟨none, [(some 52, .iaddr 5 (.tmp 48) (.tmp 50)), (some 53, .load true 5 (.tmp 52)), (some 9, .alloc 68 [.int .i64 0, .int .i64 0, .bool false, .str
    [], .lit (.slice none 0 0)]), (none, .store 5 (.tmp 9) (.tmp 53))]⟩]) (.region [⟨none, [(some 54, .mv (.tmp 0)), (some 55, .load true 5 (.tmp 9)), (some 56, .call 159 [.tmp 54, .tmp 55])]⟩]))) (.region [⟨none, [(some 57, .bin
    .add (.tmp 50) (.con (.int .i64 1))), (some 50, .mv (.tmp 57))]⟩]))))))))))))))
theorem low47 : lowerFO [] prog 159 = some ⟨58, [], B47⟩ := by kernel_rfl

@[irreducible] def B48 : LCode :=
  .seq (.region [⟨none, [(some 2, .mv (.con (.str [])))]⟩]) (.seq (.quiet [⟨some 3, none, .mv (.tmp 0), false, 0, 1⟩, ⟨some 4, none, .nilchk (.tmp 3), false, 0, 1⟩, ⟨some 5, none, .faddr 1 (.tmp 4), false, 0, 1⟩, ⟨some 6, none,
    .load false 1 (.tmp 5), false, 0, 1⟩, ⟨some 7, none, .sdata (.tmp 6), false, 0, 0⟩, ⟨some 8, none, .mv (.tmp 0), false, 0, 1⟩, ⟨some 9, none, .nilchk (.tmp 8), false, 0, 1⟩, ⟨some 10, none, .faddr 1 (.tmp 9), false, 0, 1⟩, ⟨some
    11, none, .load false 1 (.tmp 10), false, 0, 1⟩, ⟨some 12, none, .len (.tmp 11), false, 0, 0⟩, ⟨some 13, none, .sstr 5 (.tmp 7) (.tmp 12), true, 0, 0⟩, ⟨some 2, none, .mv (.tmp 13), false, 0, 0⟩]) .ret)
theorem low48 : lowerFO [] prog 160 = some ⟨14, [LRes.tmp 2], B48⟩ := by kernel_rfl

@[irreducible] def B49 : LCode :=
  .seq (.region [⟨none, [(some 2, .box 68 (.tmp 0)), (some 4, .mv (.con (.bool false))), (some 5, .mv (.con (.bool false))), (some 6, .mv (.con (.bool false)))]⟩]) (.seq (.seq (.region [⟨none, [(some 14, .mv (.tmp 1)), (some 15,
    .bin .geq (.tmp 14) (.con (.int .i64 20)))]⟩]) (.cond (.tmp 15) (.seq (.region [⟨none, [(some 4, .mv (.con (.bool false))), (some 5, .mv (.con (.bool false))), (some 6, .mv (.con (.bool true)))]⟩]) .ret) .skip)) (.seq (.region
    [⟨none, [(some 16, .faddr 0 (.tmp 2)), (some 17, .load false 1 (.tmp 16)), (some 18, .bin .lss (.tmp 17) (.con (.int .i64 0))), (some 19, .mv (.tmp 18))]⟩, ⟨some (19, false), [(some 20, .faddr 0 (.tmp 2)), (some 21, .load false
    1 (.tmp 20)), (some 22, .bin .gtr (.tmp 21) (.con (.int .i64 3)))]⟩, ⟨none, [(some 23, .pick (.tmp 19) (.con (.bool true)) (.tmp 22)), (some 24, .mv (.tmp 23))]⟩, ⟨some (24, false), [(some 25, .faddr 1 (.tmp 2)), (some 26, .load
    false 1 (.tmp 25)), (some 27, .bin .lss (.tmp 26) (.con (.int .i64 0)))]⟩, ⟨none, [(some 28, .pick (.tmp 24) (.con (.bool true)) (.tmp 27)), (some 29, .mv (.tmp 28))]⟩, ⟨some (29, false), [(some 30, .faddr 1 (.tmp 2)), (some 31,
    .load false 1 (.tmp 30)), (some 32, .bin .gtr (.tmp 31) (.con (.int .i64 30)))]⟩, ⟨none, [(some 33, .pick (.tmp 29) (.con (.bool true)) (.tmp 32)), (some 7, .mv (.tmp 33))]⟩]) (.seq (.region [⟨none, [(some 34, .faddr 2 (.tmp
    2)), (some 35, .load false 1 (.tmp 34)), (some 36, .mv (.tmp 35))]⟩, ⟨some (36, true), [(some 37, .faddr 3 (.tmp 2)), (some 38, .load false 1 (.tmp 37)), (some 39, .lenS (.tmp 38)), (some 40, .bin .gtr (.tmp 39) (.con (.int .i64
    0)))]⟩, ⟨none, [(some 41, .pick (.tmp 36) (.tmp 40) (.con (.bool false))), (some 42, .mv (.tmp 41))]⟩, ⟨some (42, false), [(some 43, .faddr 2 (.tmp 2)), (some 44, .load false 1 (.tmp 43)), (some 45, .un .not (.tmp 44)), (some
    46, .mv (.tmp 45))]⟩, ⟨some (46, true), [(some 47, .faddr 4 (.tmp 2)), (some 48, .load false 1 (.tmp 47)), (some 49, .len (.tmp 48)), (some 50, .bin .gtr (.tmp 49) (.con (.int .i64 0)))]⟩, ⟨some (42, false), [(some 51, .pick
    (.tmp 46) (.tmp 50) (.con (.bool false)))]⟩, ⟨none, [(some 52, .pick (.tmp 42) (.con (.bool true)) (.tmp 51)), (some 8, .mv (.tmp 52))]⟩]) (.seq (.region [⟨none, [(some 9, .mv (.con (.bool false)))]⟩]) (.seq (.seq (.region
    [⟨none, [(some 10, .mv (.con (.int .i64 0)))]⟩]) (.block 0 (.loop (.seq (.seq (.region [⟨none, [(some 53, .mv (.tmp 10)), (some 54, .faddr 4 (.tmp 2)), (some 55, .load false 1 (.tmp 54)), (some 56, .len (.tmp 55)), (some 57,
    .bin .lss (.tmp 53) (.tmp 56))]⟩]) (.cond (.tmp 57) .skip (.exit 0))) (.seq (.block 1 (.seq (.region [⟨none, [(some 61, .faddr 4 (.tmp 2)), (some 62, .load false 1 (.tmp 61)), (some 63, .mv (.tmp 10)), (some 64, .iaddr 5 (.tmp
    62) (.tmp 63)), (some 65, .load true 5 (.tmp 64)), (some 66, .mv (.tmp 1)), (some 67, .bin .add (.tmp 66) (.con (.int .i64 1))), (some 68, .call 176 [.tmp 65, .tmp 67]), (some 60, .mv (.tmp 68)), (some 69, .extr 0 (.tmp 60)),
    (some 70, .extr 1 (.tmp 60)), (some 71, .extr 2 (.tmp 60)), (some 11, .mv (.tmp 69)), (some 12, .mv (.tmp 70)), (some 13, .mv (.tmp 71))]⟩]) (.region [⟨none, [(some 72, .mv (.tmp 7)), (some 73, .mv (.tmp 72))]⟩, ⟨some (73,
    false), [(some 74, .mv (.tmp 11))]⟩, ⟨none, [(some 75, .pick (.tmp 73) (.con (.bool true)) (.tmp 74)), (some 76, .mv (.tmp 8)), (some 77, .mv (.tmp 76))]⟩, ⟨some (77, false), [(some 78, .mv (.tmp 12))]⟩, ⟨none, [(some 79, .pick
    (.tmp 77) (.con (.bool true)) (.tmp 78)), (some 80, .mv (.tmp 9)), (some 81, .mv (.tmp 80))]⟩, ⟨some (81, false), [(some 82, .mv (.tmp 13))]⟩, ⟨none, [(some 83, .pick (.tmp 81) (.con (.bool true)) (.tmp 82)), (some 7, .mv (.tmp
    75)), (some 8, .mv (.tmp 79)), (some 9, .mv (.tmp 83))]⟩]))) (.region [⟨none, [(some 58, .mv (.tmp 10)), (some 59, .bin .add (.tmp 58) (.con (.int .i64 1))), (some 10, .mv (.tmp 59))]⟩])))))) (.seq (.region [⟨none, [(some 84,
    .mv (.tmp 7)), (some 85, .mv (.tmp 8)), (some 86, .mv (.tmp 9)), (some 4, .mv (.tmp 84)), (some 5, .mv (.tmp 85)), (some 6, .mv (.tmp 86))]⟩]) .ret))))))
theorem low49 : lowerFO [] prog 176 = some ⟨87, [LRes.tmp 4, LRes.tmp 5, LRes.tmp 6], B49⟩ := by kernel_rfl

@[irreducible] def B50 : LCode :=
  .seq (.region [⟨none, [(some 1, .box 68 (.tmp 0)), (some 2, .mv (.con (.int .i64 0)))]⟩]) (.seq (.region [⟨none, [(some 5, .faddr 3 (.tmp 1)), (some 6, .load false 1 (.tmp 5)), (some 7, .lenS (.tmp 6)), (some 3, .mv (.tmp 7))]⟩])
    (.seq (.seq (.region [⟨none, [(some 4, .mv (.con (.int .i64 0)))]⟩]) (.block 0 (.loop (.seq (.seq (.region [⟨none, [(some 8, .mv (.tmp 4)), (some 9, .faddr 4 (.tmp 1)), (some 10, .load false 1 (.tmp 9)), (some 11, .len (.tmp
    10)), (some 12, .bin .lss (.tmp 8) (.tmp 11)), (some 13, .mv (.tmp 12))]⟩, ⟨some (13, true), [(some 14, .mv (.tmp 3)), (some 15, .bin .leq (.tmp 14) (.con (.int .i64 65536)))]⟩, ⟨none, [(some 16, .pick (.tmp 13) (.tmp 15) (.con
    (.bool false)))]⟩]) (.cond (.tmp 16) .skip (.exit 0))) (.seq (.block 1 (.region [⟨none, [(some 19, .mv (.tmp 3)), (some 20, .faddr 4 (.tmp 1)), (some 21, .load false 1 (.tmp 20)), (some 22, .mv (.tmp 4)), (some 23, .iaddr 5
    (.tmp 21) (.tmp 22)), (some 24, .load true 5 (.tmp 23)), (some 25, .call 177 [.tmp 24]), (some 26, .bin .add (.tmp 19) (.tmp 25)), (some 3, .mv (.tmp 26))]⟩])) (.region [⟨none, [(some 17, .mv (.tmp 4)), (some 18, .bin .add (.tmp
    17) (.con (.int .i64 1))), (some 4, .mv (.tmp 18))]⟩])))))) (.seq (.block 2 (.seq (.region [⟨none, [(some 28, .mv (.tmp 3)), (some 29, .bin .gtr (.tmp 28) (.con (.int .i64 65536))), (some 27, .mv (.tmp 29))]⟩]) (.cond (.tmp 27)
    (.seq (.region [⟨none, [(some 2, .mv (.con (.int .i64 65537)))]⟩]) .ret) (.seq (.region [⟨none, [(some 31, .mv (.tmp 3)), (some 32, .bin .lss (.tmp 31) (.con (.int .i64 128))), (some 30, .mv (.tmp 32))]⟩]) (.cond (.tmp 30) (.seq
    (.region [⟨none, [(some 33, .mv (.tmp 3)), (some 34, .bin .add (.tmp 33) (.con (.int .i64 2))), (some 2, .mv (.tmp 34))]⟩]) .ret) (.seq (.region [⟨none, [(some 36, .mv (.tmp 3)), (some 37, .bin .lss (.tmp 36) (.con (.int .i64
    256))), (some 35, .mv (.tmp 37))]⟩]) (.cond (.tmp 35) (.seq (.region [⟨none, [(some 38, .mv (.tmp 3)), (some 39, .bin .add (.tmp 38) (.con (.int .i64 3))), (some 2, .mv (.tmp 39))]⟩]) .ret) .skip))))))) (.seq (.region [⟨none,
    [(some 40, .mv (.tmp 3)), (some 41, .bin .add (.tmp 40) (.con (.int .i64 4))), (some 2, .mv (.tmp 41))]⟩]) .ret))))
theorem low50 : lowerFO [] prog 177 = some ⟨42, [LRes.tmp 2], B50⟩ := by kernel_rfl

@[irreducible] def B51 : LCode :=
  .seq (.region [⟨none, [(some 3, .box 68 (.tmp 1)), (some 4, .mv (.con (.lit (.slice none 0 0))))]⟩]) (.seq (.region [⟨none, [(some 9, .faddr 0 (.tmp 3)), (some 10, .load false 1 (.tmp 9)), (some 11, .bin .mul (.con (.int .i64 64))
    (.tmp 10)), (some 12, .faddr 1 (.tmp 3)), (some 13, .load false 1 (.tmp 12)), (some 14, .bin .add (.tmp 11) (.tmp 13)), (some 5, .mv (.tmp 14))]⟩]) (.seq (.seq (.region [⟨none, [(some 15, .faddr 2 (.tmp 3)), (some 16, .load
    false 1 (.tmp 15))]⟩]) (.cond (.tmp 16) (.region [⟨none, [(some 17, .mv (.tmp 5)), (some 18, .bin .add (.tmp 17) (.con (.int .i64 32))), (some 5, .mv (.tmp 18))]⟩]) .skip)) (.seq (.region [⟨none, [(some 19, .faddr 3 (.tmp 3)),
    (some 20, .load false 1 (.tmp 19)), (some 21, .lenS (.tmp 20)), (some 6, .mv (.tmp 21))]⟩]) (.seq (.seq (.region [⟨none, [(some 7, .mv (.con (.int .i64 0)))]⟩]) (.block 0 (.loop (.seq (.seq (.region [⟨none, [(some 22, .mv (.tmp
    7)), (some 23, .faddr 4 (.tmp 3)), (some 24, .load false 1 (.tmp 23)), (some 25, .len (.tmp 24)), (some 26, .bin .lss (.tmp 22) (.tmp 25))]⟩]) (.cond (.tmp 26) .skip (.exit 0))) (.seq (.block 1 (.region [⟨none, [(some 29, .mv
    (.tmp 6)), (some 30, .faddr 4 (.tmp 3)), (some 31, .load false 1 (.tmp 30)), (some 32, .mv (.tmp 7)), (some 33, .iaddr 5 (.tmp 31) (.tmp 32)), (some 34, .load true 5 (.tmp 33)), (some 35, .call 177 [.tmp 34]), (some 36, .bin
    .add (.tmp 29) (.tmp 35)), (some 6, .mv (.tmp 36))]⟩])) (.region [⟨none, [(some 27, .mv (.tmp 7)), (some 28, .bin .add (.tmp 27) (.con (.int .i64 1))), (some 7, .mv (.tmp 28))]⟩])))))) (.seq (.region [⟨none, [(some 37, .mv (.tmp
    0)), (some 38, .mv (.tmp 5)), (some 39, .cvt (.int .u8) (.tmp 38)), (some 40, .bslice 5 1 [.tmp 39]), (some 41, .append false 5 1 1 (.tmp 37) (.tmp 40)), (some 0, .mv (.tmp 41))]⟩]) (.seq (.block 2 (.seq (.region [⟨none, [(some
    56, .mv (.tmp 6)), (some 57, .bin .lss (.tmp 56) (.con (.int .i64 128))), (some 55, .mv (.tmp 57))]⟩]) (.cond (.tmp 55) (.region [⟨none, [(some 58, .mv (.tmp 0)), (some 59, .mv (.tmp 6)), (some 60, .cvt (.int .u8) (.tmp 59)),
    (some 61, .bslice 5 1 [.tmp 60]), (some 62, .append false 5 1 1 (.tmp 58) (.tmp 61)), (some 0, .mv (.tmp 62))]⟩]) (.seq (.region [⟨none, [(some 64, .mv (.tmp 6)), (some 65, .bin .lss (.tmp 64) (.con (.int .i64 256))), (some 63,
    .mv (.tmp 65))]⟩]) (.cond (.tmp 63) (.region [⟨none, [(some 66, .mv (.tmp 0)), (some 67, .mv (.tmp 6)), (some 68, .cvt (.int .u8) (.tmp 67)), (some 69, .bslice 5 1 [.con (.int .u8 129), .tmp 68]), (some 70, .append false 5 1 1
    (.tmp 66) (.tmp 69)), (some 0, .mv (.tmp 70))]⟩]) (.seq (.region [⟨none, [(some 72, .mv (.tmp 6)), (some 73, .bin .lss (.tmp 72) (.con (.int .i64 65536))), (some 71, .mv (.tmp 73))]⟩]) (.cond (.tmp 71) (.region [⟨none, [(some
    74, .mv (.tmp 0)), (some 75, .mv (.tmp 6)), (some 76, .bin .quo (.tmp 75) (.con (.int .i64 256))), (some 77, .cvt (.int .u8) (.tmp 76)), (some 78, .mv (.tmp 6)), (some 79, .bin .rem (.tmp 78) (.con (.int .i64 256))), (some 80,
    .cvt (.int .u8) (.tmp 79)), (some 81, .bslice 5 1 [.con (.int .u8 130), .tmp 77, .tmp 80]), (some 82, .append false 5 1 1 (.tmp 74) (.tmp 81)), (some 0, .mv (.tmp 82))]⟩]) (.region [⟨none, [(some 42, .mv (.tmp 0)), (some 43, .mv
    (.tmp 6)), (some 44, .bin .quo (.tmp 43) (.con (.int .i64 65536))), (some 45, .cvt (.int .u8) (.tmp 44)), (some 46, .mv (.tmp 6)), (some 47, .bin .quo (.tmp 46) (.con (.int .i64 256))), (some 48, .bin .rem (.tmp 47) (.con (.int
    .i64 256))), (some 49, .cvt (.int .u8) (.tmp 48)), (some 50, .mv (.tmp 6)), (some 51, .bin .rem (.tmp 50) (.con (.int .i64 256))), (some 52, .cvt (.int .u8) (.tmp 51)), (some 53, .bslice 5 1 [.con (.int .u8 131), .tmp 45, .tmp
    49, .tmp 52]), (some 54, .append false 5 1 1 (.tmp 42) (.tmp 53)), (some 0, .mv (.tmp 54))]⟩])))))))) (.seq (.region [⟨none, [(some 83, .mv (.tmp 0)), (some 84, .faddr 3 (.tmp 3)), (some 85, .load false 1 (.tmp 84)), (some 86,
    .append true 5 1 1 (.tmp 83) (.tmp 85)), (some 0, .mv (.tmp 86))]⟩]) (.seq (.seq (.region [⟨none, [(some 8, .mv (.con (.int .i64 0)))]⟩]) (.block 3 (.loop (.seq (.seq (.region [⟨none, [(some 87, .mv (.tmp 8)), (some 88, .faddr 4
    (.tmp 3)), (some 89, .load false 1 (.tmp 88)), (some 90, .len (.tmp 89)), (some 91, .bin .lss (.tmp 87) (.tmp 90))]⟩]) (.cond (.tmp 91) .skip (.exit 3))) (.seq (.block 4 (.region [⟨none, [(some 94, .mv (.tmp 0)), (some 95,
    .faddr 4 (.tmp 3)), (some 96, .load false 1 (.tmp 95)), (some 97, .mv (.tmp 8)), (some 98, .iaddr 5 (.tmp 96) (.tmp 97)), (some 99, .load true 5 (.tmp 98)), (some 100, .call 178 [.tmp 94, .tmp 99]), (some 0, .mv (.tmp 100))]⟩]))
    (.region [⟨none, [(some 92, .mv (.tmp 8)), (some 93, .bin .add (.tmp 92) (.con (.int .i64 1))), (some 8, .mv (.tmp 93))]⟩])))))) (.seq (.region [⟨none, [(some 101, .mv (.tmp 0)), (some 4, .mv (.tmp 101))]⟩]) .ret)))))))))
theorem low51 : lowerFO [] prog 178 = some ⟨102, [LRes.tmp 4], B51⟩ := by kernel_rfl

@[irreducible] def B52 : LCode :=
  .seq (.region [⟨none, [(some 2, .mv (.con (.int .i64 0))), (some 3, .mv (.con (.int .i64 0))), (some 4, .mv (.con (.int .i64 0)))]⟩]) (.seq (.block 0 (.seq (.region [⟨none, [(some 9, .mv (.tmp 0)), (some 10, .bin .eql (.tmp 9)
    (.con (.str []))), (some 8, .mv (.tmp 10))]⟩]) (.cond (.tmp 8) (.seq (.region [⟨none, [(some 2, .mv (.con (.int .i64 0))), (some 3, .mv (.con (.int .i64 0))), (some 4, .mv (.con (.int .i64 20)))]⟩]) .ret) (.seq (.region [⟨none,
    [(some 12, .mv (.tmp 0)), (some 13, .idx (.tmp 12) (.con (.int .i64 0))), (some 14, .bin .and (.tmp 13) (.con (.int .u8 31))), (some 15, .bin .gtr (.tmp 14) (.con (.int .u8 30))), (some 11, .mv (.tmp 15))]⟩]) (.cond (.tmp 11)
    (.seq (.region [⟨none, [(some 2, .mv (.con (.int .i64 0))), (some 3, .mv (.con (.int .i64 0))), (some 4, .mv (.con (.int .i64 21)))]⟩]) .ret) (.seq (.region [⟨none, [(some 17, .mv (.tmp 0)), (some 18, .lenS (.tmp 17)), (some 19,
    .bin .eql (.tmp 18) (.con (.int .i64 1))), (some 16, .mv (.tmp 19))]⟩]) (.cond (.tmp 16) (.seq (.region [⟨none, [(some 2, .mv (.con (.int .i64 0))), (some 3, .mv (.con (.int .i64 0))), (some 4, .mv (.con (.int .i64 20)))]⟩])
    .ret) (.seq (.region [⟨none, [(some 21, .mv (.tmp 0)), (some 22, .idx (.tmp 21) (.con (.int .i64 1))), (some 23, .bin .lss (.tmp 22) (.con (.int .u8 128))), (some 20, .mv (.tmp 23))]⟩]) (.cond (.tmp 20) (.seq (.quiet [⟨some 24,
    none, .mv (.tmp 0), false, 0, 0⟩, ⟨some 25, none, .idx (.tmp 24) (.con (.int .i64 1)), false, 0, 0⟩, ⟨some 26, none, .cvt (.int .i64) (.tmp 25), false, 0, 0⟩, ⟨some 2, none, .mv (.con (.int .i64 2)), false, 0, 0⟩, ⟨some 3, none,
    .mv (.tmp 26), false, 0, 0⟩, ⟨some 4, none, .mv (.con (.int .i64 0)), false, 0, 0⟩]) .ret) .skip))))))))) (.seq (.region [⟨none, [(some 27, .mv (.tmp 0)), (some 28, .idx (.tmp 27) (.con (.int .i64 1))), (some 29, .cvt (.int
    .i64) (.tmp 28)), (some 30, .bin .sub (.tmp 29) (.con (.int .i64 128))), (some 5, .mv (.tmp 30))]⟩]) (.seq (.block 1 (.seq (.region [⟨none, [(some 32, .mv (.tmp 5)), (some 33, .bin .lss (.tmp 32) (.con (.int .i64 1))), (some 34,
    .mv (.tmp 33))]⟩, ⟨some (34, false), [(some 35, .mv (.tmp 5)), (some 36, .bin .gtr (.tmp 35) (.con (.int .i64 4)))]⟩, ⟨none, [(some 37, .pick (.tmp 34) (.con (.bool true)) (.tmp 36)), (some 31, .mv (.tmp 37))]⟩]) (.cond (.tmp
    31) (.seq (.region [⟨none, [(some 2, .mv (.con (.int .i64 0))), (some 3, .mv (.con (.int .i64 0))), (some 4, .mv (.con (.int .i64 22)))]⟩]) .ret) (.seq (.region [⟨none, [(some 39, .mv (.tmp 0)), (some 40, .lenS (.tmp 39)), (some
    41, .mv (.tmp 5)), (some 42, .bin .add (.con (.int .i64 2)) (.tmp 41)), (some 43, .bin .lss (.tmp 40) (.tmp 42)), (some 38, .mv (.tmp 43))]⟩]) (.cond (.tmp 38) (.seq (.region [⟨none, [(some 2, .mv (.con (.int .i64 0))), (some 3,
    .mv (.con (.int .i64 0))), (some 4, .mv (.con (.int .i64 20)))]⟩]) .ret) .skip))))) (.seq (.region [⟨none, [(some 45, .mv (.tmp 0)), (some 46, .mv (.tmp 5)), (some 47, .bin .add (.con (.int .i64 2)) (.tmp 46)), (some 48, .slcS
    (.tmp 45) (some (.con (.int .i64 2))) (some (.tmp 47))), (some 49, .call 242 [.tmp 48]), (some 44, .mv (.tmp 49)), (some 50, .extr 0 (.tmp 44)), (some 51, .extr 1 (.tmp 44)), (some 6, .mv (.tmp 50)), (some 7, .mv (.tmp 51))]⟩])
    (.seq (.seq (.region [⟨none, [(some 52, .mv (.tmp 5)), (some 53, .bin .add (.con (.int .i64 2)) (.tmp 52)), (some 54, .mv (.tmp 6)), (some 55, .bin .add (.tmp 53) (.tmp 54)), (some 56, .bin .gtr (.tmp 55) (.con (.int .i64
    65536)))]⟩]) (.cond (.tmp 56) (.seq (.region [⟨none, [(some 2, .mv (.con (.int .i64 0))), (some 3, .mv (.con (.int .i64 0))), (some 4, .mv (.con (.int .i64 2)))]⟩]) .ret) .skip)) (.seq (.region [⟨none, [(some 57, .mv (.tmp 5)),
    (some 58, .bin .add (.con (.int .i64 2)) (.tmp 57)), (some 59, .mv (.tmp 6)), (some 2, .mv (.tmp 58)), (some 3, .mv (.tmp 59)), (some 4, .mv (.con (.int .i64 0)))]⟩]) .ret))))))
theorem low52 : lowerFO [] prog 143 = some ⟨60, [LRes.tmp 2, LRes.tmp 3, LRes.tmp 4], B52⟩ := by kernel_rfl

@[irreducible] def B53 : LCode :=
  .seq (.region [⟨none, [(some 2, .mv (.con (.str [])))]⟩]) (.seq (.region [⟨none, [(some 3, .mv (.con (.int .i64 1)))]⟩]) (.seq (.block 0 (.loop (.seq (.seq (.region [⟨none, [(some 6, .mv (.tmp 3)), (some 7, .bin .lss (.tmp 6)
    (.con (.int .i64 8))), (some 8, .mv (.tmp 7))]⟩, ⟨some (8, true), [(some 9, .mv (.tmp 0)), (some 10, .mv (.tmp 0)), (some 11, .mv (.tmp 3)), (some 12, .bin .mul (.con (.int .i64 8)) (.tmp 11)), (some 13, .bin .sub (.con (.int
    .i64 64)) (.tmp 12)), (some 14, .bin .shl (.tmp 10) (.tmp 13)), (some 15, .mv (.tmp 3)), (some 16, .bin .mul (.con (.int .i64 8)) (.tmp 15)), (some 17, .bin .sub (.con (.int .i64 64)) (.tmp 16)), (some 18, .bin .shr (.tmp 14)
    (.tmp 17)), (some 19, .bin .neq (.tmp 9) (.tmp 18))]⟩, ⟨none, [(some 20, .pick (.tmp 8) (.tmp 19) (.con (.bool false)))]⟩]) (.cond (.tmp 20) .skip (.exit 0))) (.block 1 (.region [⟨none, [(some 21, .mv (.tmp 3)), (some 22, .bin
    .add (.tmp 21) (.con (.int .i64 1))), (some 3, .mv (.tmp 22))]⟩]))))) (.seq (.region [⟨none, [(some 23, .mv (.tmp 3)), (some 24, .mkslice 5 1 1 [.int .u8 0] (.tmp 23) (.tmp 23)), (some 4, .mv (.tmp 24))]⟩]) (.seq (.seq (.region
    [⟨none, [(some 25, .mv (.tmp 4)), (some 26, .len (.tmp 25)), (some 27, .mv (.con (.int .i64 0)))]⟩]) (.block 2 (.loop (.seq (.region [⟨none, [(some 28, .bin .lss (.tmp 27) (.tmp 26))]⟩]) (.seq (.cond (.tmp 28) .skip (.exit 2))
    (.seq (.block 3 (.seq (.region [⟨none, [(some 29, .mv (.tmp 27)), (some 5, .mv (.tmp 29))]⟩]) (.region [⟨none, [(some 30, .mv (.tmp 4)), (some 31, .mv (.tmp 3)), (some 32, .bin .sub (.tmp 31) (.con (.int .i64 1))), (some 33, .mv
    (.tmp 5)), (some 34, .bin .sub (.tmp 32) (.tmp 33)), (some 35, .mv (.tmp 0)), (some 36, .cvt (.int .u64) (.tmp 35)), (some 37, .mv (.tmp 5)), (some 38, .bin .mul (.con (.int .i64 8)) (.tmp 37)), (some 39, .bin .shr (.tmp 36)
    (.tmp 38)), (some 40, .cvt (.int .u8) (.tmp 39)), (some 41, .iaddr 1 (.tmp 30) (.tmp 34)), (none, .store 1 (.tmp 41) (.tmp 40))]⟩]))) (.region [⟨none, [(some 42, .bin .add (.tmp 27) (.con (.int .i64 1))), (some 27, .mv (.tmp
    42))]⟩]))))))) (.seq (.region [⟨none, [(some 43, .mv (.tmp 4)), (some 44, .cvt .b2s (.tmp 43)), (some 2, .mv (.tmp 44))]⟩]) .ret)))))
theorem low53 : lowerFO [] prog 249 = some ⟨45, [LRes.tmp 2], B53⟩ := by kernel_rfl

@[irreducible] def B54 : LCode :=
  .seq (.region [⟨none, [(some 2, .mv (.con (.lit (.slice none 0 0))))]⟩]) (.seq (.region [⟨none, [(some 3, .mv (.con (.lit (.slice none 0 0))))]⟩]) (.seq (.seq (.region [⟨none, [(some 6, .mv (.tmp 0)), (some 7, .len (.tmp 6)),
    (some 8, .mv (.con (.int .i64 0)))]⟩]) (.block 0 (.loop (.seq (.region [⟨none, [(some 9, .bin .lss (.tmp 8) (.tmp 7))]⟩]) (.seq (.cond (.tmp 9) .skip (.exit 0)) (.seq (.block 1 (.seq (.region [⟨none, [(some 10, .iaddr 5 (.tmp 6)
    (.tmp 8)), (some 11, .load true 5 (.tmp 10)), (some 5, .alloc 68 [.int .i64 0, .int .i64 0, .bool false, .str [], .lit (.slice none 0 0)]), (none, .store 5 (.tmp 5) (.tmp 11))]⟩]) (.seq (.region [⟨none, [(some 12, .faddr 4 (.tmp
    5)), (some 13, .load false 1 (.tmp 12)), (some 14, .call 265 [.tmp 13]), (some 15, .faddr 4 (.tmp 5)), (none, .store 1 (.tmp 15) (.tmp 14))]⟩]) (.region [⟨none, [(some 16, .mv (.tmp 3)), (some 17, .load true 5 (.tmp 5)), (some
    18, .bslice 68 5 [.tmp 17]), (some 19, .append false 68 5 64 (.tmp 16) (.tmp 18)), (some 3, .mv (.tmp 19))]⟩])))) (.region [⟨none, [(some 20, .bin .add (.tmp 8) (.con (.int .i64 1))), (some 8, .mv (.tmp 20))]⟩]))))))) (.seq
    (.region [⟨none, [(some 21, .mv (.tmp 3)), (some 2, .mv (.tmp 21))]⟩]) .ret)))
theorem low54 : lowerFO [] prog 265 = some ⟨22, [LRes.tmp 2], B54⟩ := by kernel_rfl

@[irreducible] def B55 : LCode :=
  .seq (.region [⟨none, [(some 2, .mv (.con (.str [])))]⟩]) (.seq (.region [⟨none, [(some 3, .mv (.con (.int .i64 1)))]⟩]) (.block 0 (.loop (.seq (.block 1 (.seq (.region [⟨none, [(some 11, .mv (.tmp 3)), (some 12, .mkslice 5 1 1
    [.int .u8 0] (.tmp 11) (.tmp 11)), (some 4, .mv (.tmp 12))]⟩]) (.seq (.region [⟨none, [(some 13, .mv (.tmp 0)), (some 5, .mv (.tmp 13))]⟩]) (.seq (.seq (.region [⟨none, [(some 14, .mv (.tmp 3)), (some 15, .bin .sub (.tmp 14)
    (.con (.int .i64 1))), (some 6, .mv (.tmp 15))]⟩]) (.block 2 (.loop (.seq (.seq (.region [⟨none, [(some 16, .mv (.tmp 6)), (some 17, .bin .geq (.tmp 16) (.con (.int .i64 0)))]⟩]) (.cond (.tmp 17) .skip (.exit 2))) (.seq (.block
    3 (.seq (.region [⟨none, [(some 20, .mv (.tmp 4)), (some 21, .mv (.tmp 6)), (some 22, .mv (.tmp 5)), (some 23, .bin .and (.tmp 22) (.con (.int .i64 255))), (some 24, .cvt (.int .u8) (.tmp 23)), (some 25, .iaddr 1 (.tmp 20) (.tmp
    21)), (none, .store 1 (.tmp 25) (.tmp 24))]⟩]) (.region [⟨none, [(some 26, .mv (.tmp 5)), (some 27, .bin .shr (.tmp 26) (.con (.int .u64 8))), (some 5, .mv (.tmp 27))]⟩]))) (.region [⟨none, [(some 18, .mv (.tmp 6)), (some 19,
    .bin .sub (.tmp 18) (.con (.int .i64 1))), (some 6, .mv (.tmp 19))]⟩])))))) (.seq (.region [⟨none, [(some 29, .mv (.tmp 4)), (some 30, .cvt .b2s (.tmp 29)), (some 31, .call 296 [.tmp 30]), (some 28, .mv (.tmp 31)), (some 32,
    .extr 0 (.tmp 28)), (some 33, .extr 1 (.tmp 28)), (some 7, .mv (.tmp 32)), (some 8, .mv (.tmp 33))]⟩]) (.seq (.region [⟨none, [(some 34, .mv (.tmp 7)), (some 35, .mv (.tmp 0)), (some 36, .bin .eql (.tmp 34) (.tmp 35))]⟩]) (.cond
    (.tmp 36) (.seq (.region [⟨none, [(some 37, .mv (.tmp 4)), (some 38, .cvt .b2s (.tmp 37)), (some 2, .mv (.tmp 38))]⟩]) .ret) .skip))))))) (.region [⟨none, [(some 9, .mv (.tmp 3)), (some 10, .bin .add (.tmp 9) (.con (.int .i64
    1))), (some 3, .mv (.tmp 10))]⟩])))))
theorem low55 : lowerFO [] prog 266 = some ⟨39, [LRes.tmp 2], B55⟩ := by kernel_rfl

@[irreducible] def B56 : LCode :=
  .seq (.region [⟨none, [(some 2, .mv (.con (.int .i64 0))), (some 3, .mv (.con (.int .i64 0)))]⟩]) (.seq (.seq (.region [⟨none, [(some 6, .mv (.tmp 0)), (some 7, .lenS (.tmp 6)), (some 8, .bin .lss (.tmp 7) (.con (.int .i64 1))),
    (some 9, .mv (.tmp 8))]⟩, ⟨some (9, false), [(some 10, .mv (.tmp 0)), (some 11, .lenS (.tmp 10)), (some 12, .bin .gtr (.tmp 11) (.con (.int .i64 8)))]⟩, ⟨none, [(some 13, .pick (.tmp 9) (.con (.bool true)) (.tmp 12))]⟩]) (.cond
    (.tmp 13) (.seq (.region [⟨none, [(some 2, .mv (.con (.int .i64 0))), (some 3, .mv (.con (.int .i64 1)))]⟩]) .ret) .skip)) (.seq (.region [⟨none, [(some 14, .mv (.tmp 0)), (some 15, .idx (.tmp 14) (.con (.int .i64 0))), (some
    16, .cvt (.int .i8) (.tmp 15)), (some 17, .cvt (.int .i64) (.tmp 16)), (some 4, .mv (.tmp 17))]⟩]) (.seq (.seq (.region [⟨none, [(some 5, .mv (.con (.int .i64 1)))]⟩]) (.block 0 (.loop (.seq (.seq (.region [⟨none, [(some 18, .mv
    (.tmp 5)), (some 19, .mv (.tmp 0)), (some 20, .lenS (.tmp 19)), (some 21, .bin .lss (.tmp 18) (.tmp 20))]⟩]) (.cond (.tmp 21) .skip (.exit 0))) (.seq (.block 1 (.region [⟨none, [(some 24, .mv (.tmp 4)), (some 25, .bin .shl (.tmp
    24) (.con (.int .u64 8))), (some 26, .mv (.tmp 0)), (some 27, .mv (.tmp 5)), (some 28, .idx (.tmp 26) (.tmp 27)), (some 29, .cvt (.int .i64) (.tmp 28)), (some 30, .bin .or (.tmp 25) (.tmp 29)), (some 4, .mv (.tmp 30))]⟩]))
    (.region [⟨none, [(some 22, .mv (.tmp 5)), (some 23, .bin .add (.tmp 22) (.con (.int .i64 1))), (some 5, .mv (.tmp 23))]⟩])))))) (.seq (.region [⟨none, [(some 31, .mv (.tmp 4)), (some 2, .mv (.tmp 31)), (some 3, .mv (.con (.int
    .i64 0)))]⟩]) .ret))))
theorem low56 : lowerFO [] prog 146 = some ⟨32, [LRes.tmp 2, LRes.tmp 3], B56⟩ := by kernel_rfl

@[irreducible] def B57 : LCode :=
  .seq (.region [⟨none, [(some 4, .box 68 (.tmp 0)), (some 8, .mv (.con (.bool false)))]⟩]) (.seq (.region [⟨none, [(some 9, .faddr 0 (.tmp 4)), (some 10, .load false 1 (.tmp 9)), (some 11, .mv (.tmp 1)), (some 12, .bin .eql (.tmp
    10) (.tmp 11)), (some 13, .mv (.tmp 12))]⟩, ⟨some (13, true), [(some 14, .faddr 1 (.tmp 4)), (some 15, .load false 1 (.tmp 14)), (some 16, .mv (.tmp 2)), (some 17, .bin .eql (.tmp 15) (.tmp 16))]⟩, ⟨none, [(some 18, .pick (.tmp
    13) (.tmp 17) (.con (.bool false))), (some 19, .mv (.tmp 18))]⟩, ⟨some (19, true), [(some 20, .faddr 2 (.tmp 4)), (some 21, .load false 1 (.tmp 20)), (some 22, .mv (.tmp 3)), (some 23, .eqb false (.tmp 21) (.tmp 22))]⟩, ⟨none,
    [(some 24, .pick (.tmp 19) (.tmp 23) (.con (.bool false))), (some 8, .mv (.tmp 24))]⟩]) .ret)
theorem low57 : lowerFO [] prog 147 = some ⟨25, [LRes.tmp 8], B57⟩ := by kernel_rfl

@[irreducible] def B58 : LCode :=
  .seq (.region [⟨none, [(some 4, .box 68 (.tmp 0)), (some 8, .mv (.con (.bool false)))]⟩]) (.seq (.region [⟨none, [(some 9, .faddr 0 (.tmp 4)), (some 10, .load false 1 (.tmp 9)), (some 11, .mv (.tmp 1)), (some 12, .bin .eql (.tmp
    10) (.tmp 11)), (some 13, .mv (.tmp 12))]⟩, ⟨some (13, true), [(some 14, .faddr 1 (.tmp 4)), (some 15, .load false 1 (.tmp 14)), (some 16, .mv (.tmp 2)), (some 17, .bin .eql (.tmp 15) (.tmp 16))]⟩, ⟨none, [(some 18, .pick (.tmp
    13) (.tmp 17) (.con (.bool false))), (some 19, .mv (.tmp 18))]⟩, ⟨some (19, true), [(some 20, .faddr 2 (.tmp 4)), (some 21, .load false 1 (.tmp 20)), (some 22, .mv (.tmp 3)), (some 23, .eqb false (.tmp 21) (.tmp 22))]⟩, ⟨none,
    [(some 24, .pick (.tmp 19) (.tmp 23) (.con (.bool false))), (some 8, .mv (.tmp 24))]⟩]) .ret)
theorem low58 : lowerFO [] prog 295 = some ⟨25, [LRes.tmp 8], B58⟩ := by kernel_rfl

@[irreducible] def B59 : LCode :=
  .seq (.region [⟨none, [(some 2, .mv (.con (.int .i64 0))), (some 3, .mv (.con (.int .i64 0)))]⟩]) (.seq (.seq (.region [⟨none, [(some 6, .mv (.tmp 0)), (some 7, .lenS (.tmp 6)), (some 8, .bin .lss (.tmp 7) (.con (.int .i64 1))),
    (some 9, .mv (.tmp 8))]⟩, ⟨some (9, false), [(some 10, .mv (.tmp 0)), (some 11, .lenS (.tmp 10)), (some 12, .bin .gtr (.tmp 11) (.con (.int .i64 8)))]⟩, ⟨none, [(some 13, .pick (.tmp 9) (.con (.bool true)) (.tmp 12))]⟩]) (.cond
    (.tmp 13) (.seq (.region [⟨none, [(some 2, .mv (.con (.int .i64 0))), (some 3, .mv (.con (.int .i64 1)))]⟩]) .ret) .skip)) (.seq (.region [⟨none, [(some 4, .mv (.con (.int .i64 0)))]⟩]) (.seq (.seq (.region [⟨none, [(some 14,
    .mv (.tmp 0)), (some 15, .idx (.tmp 14) (.con (.int .i64 0))), (some 16, .bin .geq (.tmp 15) (.con (.int .u8 128)))]⟩]) (.cond (.tmp 16) (.region [⟨none, [(some 4, .mv (.con (.int .i64 (-1))))]⟩]) .skip)) (.seq (.seq (.region
    [⟨none, [(some 5, .mv (.con (.int .i64 0)))]⟩]) (.block 0 (.loop (.seq (.seq (.region [⟨none, [(some 17, .mv (.tmp 5)), (some 18, .mv (.tmp 0)), (some 19, .lenS (.tmp 18)), (some 20, .bin .lss (.tmp 17) (.tmp 19))]⟩]) (.cond
    (.tmp 20) .skip (.exit 0))) (.seq (.block 1 (.region [⟨none, [(some 23, .mv (.tmp 4)), (some 24, .bin .mul (.tmp 23) (.con (.int .i64 256))), (some 25, .mv (.tmp 0)), (some 26, .mv (.tmp 5)), (some 27, .idx (.tmp 25) (.tmp 26)),
    (some 28, .cvt (.int .i64) (.tmp 27)), (some 29, .bin .add (.tmp 24) (.tmp 28)), (some 4, .mv (.tmp 29))]⟩])) (.region [⟨none, [(some 21, .mv (.tmp 5)), (some 22, .bin .add (.tmp 21) (.con (.int .i64 1))), (some 5, .mv (.tmp
    22))]⟩])))))) (.seq (.region [⟨none, [(some 30, .mv (.tmp 4)), (some 2, .mv (.tmp 30)), (some 3, .mv (.con (.int .i64 0)))]⟩]) .ret)))))
theorem low59 : lowerFO [] prog 296 = some ⟨31, [LRes.tmp 2, LRes.tmp 3], B59⟩ := by kernel_rfl

@[irreducible] def B60 : LCode :=
  .seq (.region [⟨none, [(some 2, .mv (.con (.int .i64 0))), (some 3, .mv (.con (.int .i64 0))), (some 4, .mv (.con (.int .i64 0)))]⟩]) (.seq (.seq (.region [⟨none, [(some 8, .mv (.tmp 0)), (some 9, .lenS (.tmp 8)), (some 10, .bin
    .lss (.tmp 9) (.con (.int .i64 1)))]⟩]) (.cond (.tmp 10) (.seq (.region [⟨none, [(some 2, .mv (.con (.int .i64 0))), (some 3, .mv (.con (.int .i64 0))), (some 4, .mv (.con (.int .i64 20)))]⟩]) .ret) .skip)) (.seq (.seq (.region
    [⟨none, [(some 11, .mv (.tmp 0)), (some 12, .idx (.tmp 11) (.con (.int .i64 0))), (some 13, .bin .rem (.tmp 12) (.con (.int .u8 32))), (some 14, .bin .eql (.tmp 13) (.con (.int .u8 31)))]⟩]) (.cond (.tmp 14) (.seq (.region
    [⟨none, [(some 2, .mv (.con (.int .i64 0))), (some 3, .mv (.con (.int .i64 0))), (some 4, .mv (.con (.int .i64 21)))]⟩]) .ret) .skip)) (.seq (.seq (.region [⟨none, [(some 15, .mv (.tmp 0)), (some 16, .lenS (.tmp 15)), (some 17,
    .bin .lss (.tmp 16) (.con (.int .i64 2)))]⟩]) (.cond (.tmp 17) (.seq (.region [⟨none, [(some 2, .mv (.con (.int .i64 0))), (some 3, .mv (.con (.int .i64 0))), (some 4, .mv (.con (.int .i64 20)))]⟩]) .ret) .skip)) (.seq (.seq
    (.region [⟨none, [(some 18, .mv (.tmp 0)), (some 19, .idx (.tmp 18) (.con (.int .i64 1))), (some 20, .bin .lss (.tmp 19) (.con (.int .u8 128)))]⟩]) (.cond (.tmp 20) (.seq (.quiet [⟨some 21, none, .mv (.tmp 0), false, 0, 0⟩,
    ⟨some 22, none, .idx (.tmp 21) (.con (.int .i64 1)), false, 0, 0⟩, ⟨some 23, none, .cvt (.int .i64) (.tmp 22), false, 0, 0⟩, ⟨some 2, none, .mv (.con (.int .i64 2)), false, 0, 0⟩, ⟨some 3, none, .mv (.tmp 23), false, 0, 0⟩,
    ⟨some 4, none, .mv (.con (.int .i64 0)), false, 0, 0⟩]) .ret) .skip)) (.seq (.region [⟨none, [(some 24, .mv (.tmp 0)), (some 25, .idx (.tmp 24) (.con (.int .i64 1))), (some 26, .cvt (.int .i64) (.tmp 25)), (some 27, .bin .sub
    (.tmp 26) (.con (.int .i64 128))), (some 5, .mv (.tmp 27))]⟩]) (.seq (.seq (.region [⟨none, [(some 28, .mv (.tmp 5)), (some 29, .bin .lss (.tmp 28) (.con (.int .i64 1))), (some 30, .mv (.tmp 29))]⟩, ⟨some (30, false), [(some 31,
    .mv (.tmp 5)), (some 32, .bin .gtr (.tmp 31) (.con (.int .i64 4)))]⟩, ⟨none, [(some 33, .pick (.tmp 30) (.con (.bool true)) (.tmp 32))]⟩]) (.cond (.tmp 33) (.seq (.region [⟨none, [(some 2, .mv (.con (.int .i64 0))), (some 3, .mv
    (.con (.int .i64 0))), (some 4, .mv (.con (.int .i64 22)))]⟩]) .ret) .skip)) (.seq (.seq (.region [⟨none, [(some 34, .mv (.tmp 0)), (some 35, .lenS (.tmp 34)), (some 36, .mv (.tmp 5)), (some 37, .bin .add (.con (.int .i64 2))
    (.tmp 36)), (some 38, .bin .lss (.tmp 35) (.tmp 37))]⟩]) (.cond (.tmp 38) (.seq (.region [⟨none, [(some 2, .mv (.con (.int .i64 0))), (some 3, .mv (.con (.int .i64 0))), (some 4, .mv (.con (.int .i64 20)))]⟩]) .ret) .skip))
    (.seq (.region [⟨none, [(some 40, .mv (.tmp 0)), (some 41, .mv (.tmp 5)), (some 42, .bin .add (.con (.int .i64 2)) (.tmp 41)), (some 43, .slcS (.tmp 40) (some (.con (.int .i64 2))) (some (.tmp 42))), (some 44, .call 319 [.tmp
    43]), (some 39, .mv (.tmp 44)), (some 45, .extr 0 (.tmp 39)), (some 46, .extr 1 (.tmp 39)), (some 6, .mv (.tmp 45)), (some 7, .mv (.tmp 46))]⟩]) (.seq (.region [⟨none, [(some 47, .mv (.tmp 5)), (some 48, .bin .add (.con (.int
    .i64 2)) (.tmp 47)), (some 49, .mv (.tmp 6)), (some 2, .mv (.tmp 48)), (some 3, .mv (.tmp 49)), (some 4, .mv (.con (.int .i64 0)))]⟩]) .ret)))))))))
theorem low60 : lowerFO [] prog 294 = some ⟨50, [LRes.tmp 2, LRes.tmp 3, LRes.tmp 4], B60⟩ := by kernel_rfl

@[irreducible] def B62 : LCode :=
  .seq (.region [⟨none, [(some 4, .alloc 68 [.int .i64 0, .int .i64 0, .bool false, .str [], .lit (.slice none 0 0)]), (some 5, .mv (.con (.str [])))]⟩]) (.seq (.region [⟨none, [(some 13, .mv (.tmp 0)), (some 14, .call 143 [.tmp
    13]), (some 12, .mv (.tmp 14)), (some 15, .extr 0 (.tmp 12)), (some 16, .extr 1 (.tmp 12)), (some 17, .extr 2 (.tmp 12)), (some 6, .mv (.tmp 15)), (some 7, .mv (.tmp 16)), (some 8, .mv (.tmp 17))]⟩]) (.seq (.block 0 (.seq
    (.region [⟨none, [(some 19, .mv (.tmp 8)), (some 20, .bin .neq (.tmp 19) (.con (.int .i64 0))), (some 18, .mv (.tmp 20))]⟩]) (.cond (.tmp 18) (.region [⟨none, [(some 21, .mv (.tmp 8)), (some 22, .iface 32 (.tmp 21)), (none,
    .panic (.tmp 22))]⟩]) (.seq (.region [⟨none, [(some 24, .mv (.tmp 1)), (some 25, .bin .geq (.tmp 24) (.con (.int .i64 20))), (some 23, .mv (.tmp 25))]⟩]) (.cond (.tmp 23) (.region [⟨none, [(some 26, .iface 32 (.con (.int .i64
    23))), (none, .panic (.tmp 26))]⟩]) (.seq (.region [⟨none, [(some 28, .mv (.tmp 0)), (some 29, .lenS (.tmp 28)), (some 30, .mv (.tmp 6)), (some 31, .mv (.tmp 7)), (some 32, .bin .add (.tmp 30) (.tmp 31)), (some 33, .bin .lss
    (.tmp 29) (.tmp 32)), (some 27, .mv (.tmp 33))]⟩]) (.cond (.tmp 27) (.region [⟨none, [(some 34, .iface 32 (.con (.int .i64 20))), (none, .panic (.tmp 34))]⟩]) .skip))))))) (.seq (.quiet [⟨some 35, none, .mv (.tmp 0), false, 0,
    1⟩, ⟨some 36, none, .idx (.tmp 35) (.con (.int .i64 0)), false, 0, 1⟩, ⟨some 37, none, .bin .shr (.tmp 36) (.con (.int .u64 6)), false, 0, 1⟩, ⟨some 38, none, .cvt (.int .i64) (.tmp 37), false, 0, 1⟩, ⟨some 39, none, .mv (.tmp
    0), false, 0, 1⟩, ⟨some 40, none, .idx (.tmp 39) (.con (.int .i64 0)), false, 0, 1⟩, ⟨some 41, none, .bin .and (.tmp 40) (.con (.int .u8 31)), false, 0, 1⟩, ⟨some 42, none, .cvt (.int .i64) (.tmp 41), false, 0, 1⟩, ⟨some 43,
    none, .mv (.tmp 0), false, 0, 1⟩, ⟨some 44, none, .idx (.tmp 43) (.con (.int .i64 0)), false, 0, 1⟩, ⟨some 45, none, .bin .and (.tmp 44) (.con (.int .u8 32)), false, 0, 1⟩, ⟨some 46, none, .bin .neq (.tmp 45) (.con (.int .u8
    0)), false, 0, 1⟩, ⟨some 47, none, .build [.int .i64 0, .int .i64 0, .bool false, .str [], .lit (.slice none 0 0)] [(0, 1, .tmp 38), (1, 1, .tmp 42), (2, 1, .tmp 46)], false, 0, 1⟩, ⟨some 9, none, .alloc 68 [.int .i64 0, .int
    .i64 0, .bool false, .str [], .lit (.slice none 0 0)], true, 0, 0⟩, ⟨none, none, .store 5 (.tmp 9) (.tmp 47), true, 0, 0⟩]) (.seq (.region [⟨none, [(some 48, .mv (.tmp 0)), (some 49, .mv (.tmp 6)), (some 50, .mv (.tmp 6)), (some
    51, .mv (.tmp 7)), (some 52, .bin .add (.tmp 50) (.tmp 51)), (some 53, .slcS (.tmp 48) (some (.tmp 49)) (some (.tmp 52))), (some 10, .mv (.tmp 53))]⟩]) (.seq (.seq (.region [⟨none, [(some 54, .faddr 2 (.tmp 9)), (some 55, .load
    false 1 (.tmp 54)), (some 56, .un .not (.tmp 55))]⟩]) (.cond (.tmp 56) (.seq (.region [⟨none, [(some 57, .mv (.tmp 10)), (some 58, .call 243 [.tmp 57]), (some 59, .faddr 3 (.tmp 9)), (none, .store 1 (.tmp 59) (.tmp 58))]⟩])
    (.seq (.quiet [⟨some 60, none, .load true 5 (.tmp 9), false, 0, 0⟩, ⟨some 61, none, .mv (.tmp 0), false, 0, 1⟩, ⟨some 62, none, .mv (.tmp 6), false, 0, 1⟩, ⟨some 63, none, .mv (.tmp 7), false, 0, 1⟩, ⟨some 64, none, .bin .add
    (.tmp 62) (.tmp 63), false, 0, 1⟩, ⟨some 65, none, .slcS (.tmp 61) (some (.tmp 64)) none, false, 0, 1⟩, ⟨none, none, .store 5 (.tmp 4) (.tmp 60), true, 0, 0⟩, ⟨some 5, none, .mv (.tmp 65), false, 0, 0⟩]) .ret)) .skip)) (.seq
    (.block 1 (.loop (.seq (.seq (.region [⟨none, [(some 66, .mv (.tmp 10)), (some 67, .bin .neq (.tmp 66) (.con (.str [])))]⟩]) (.cond (.tmp 67) .skip (.exit 1))) (.block 2 (.seq (.region [⟨none, [(some 11, .alloc 68 [.int .i64 0,
    .int .i64 0, .bool false, .str [], .lit (.slice none 0 0)])]⟩]) (.seq (.region [⟨none, [(some 69, .mv (.tmp 10)), (some 70, .mv (.tmp 1)), (some 71, .bin .add (.tmp 70) (.con (.int .i64 1))), (some 72, .call 145 [.tmp 69, .tmp
    71]), (some 68, .mv (.tmp 72)), (some 73, .extr 0 (.tmp 68)), (some 74, .extr 1 (.tmp 68)), (none, .store 5 (.tmp 11) (.tmp 73)), (some 10, .mv (.tmp 74))]⟩]) (.region [⟨none, [(some 75, .faddr 4 (.tmp 9)), (some 76, .load false
    1 (.tmp 75)), (some 77, .load true 5 (.tmp 11)), (some 78, .bslice 68 5 [.tmp 77]), (some 79, .append false 68 5 64 (.tmp 76) (.tmp 78)), (some 80, .faddr 4 (.tmp 9)), (none, .store 1 (.tmp 80) (.tmp 79))]⟩]))))))) (.seq (.quiet
    [⟨some 81, none, .load true 5 (.tmp 9), false, 0, 0⟩, ⟨some 82, none, .mv (.tmp 0), false, 0, 1⟩, ⟨some 83, none, .mv (.tmp 6), false, 0, 1⟩, ⟨some 84, none, .mv (.tmp 7), false, 0, 1⟩, ⟨some 85, none, .bin .add (.tmp 83) (.tmp
    84), false, 0, 1⟩, ⟨some 86, none, .slcS (.tmp 82) (some (.tmp 85)) none, false, 0, 1⟩, ⟨none, none, .store 5 (.tmp 4) (.tmp 81), true, 0, 0⟩, ⟨some 5, none, .mv (.tmp 86), false, 0, 0⟩]) .ret)))))))
theorem low62 : lowerFO [] prog 145 = some ⟨87, [LRes.cell 4 true 5, LRes.tmp 5], B62⟩ := by kernel_rfl

@[irreducible] def B63 : LCode :=
  .seq (.region [⟨none, [(some 4, .alloc 68 [.int .i64 0, .int .i64 0, .bool false, .str [], .lit (.slice none 0 0)]), (some 5, .mv (.con (.int .i64 0))), (some 6, .mv (.con (.int .i64 0)))]⟩]) (.seq (.region [⟨none, [(some 17, .mv
    (.tmp 0)), (some 18, .call 293 [.tmp 17]), (some 16, .mv (.tmp 18)), (some 19, .extr 0 (.tmp 16)), (some 20, .extr 1 (.tmp 16)), (some 7, .mv (.tmp 19)), (some 8, .mv (.tmp 20))]⟩]) (.seq (.seq (.region [⟨none, [(some 21, .mv
    (.tmp 8)), (some 22, .bin .neq (.tmp 21) (.con (.int .i64 0)))]⟩]) (.cond (.tmp 22) (.seq (.region [⟨none, [(some 23, .build [.int .i64 0, .int .i64 0, .bool false, .str [], .lit (.slice none 0 0)] []), (some 24, .mv (.tmp 8)),
    (none, .store 5 (.tmp 4) (.tmp 23)), (some 5, .mv (.con (.int .i64 0))), (some 6, .mv (.tmp 24))]⟩]) .ret) .skip)) (.seq (.seq (.region [⟨none, [(some 25, .mv (.tmp 1)), (some 26, .bin .geq (.tmp 25) (.con (.int .i64 20)))]⟩])
    (.cond (.tmp 26) (.seq (.region [⟨none, [(some 27, .build [.int .i64 0, .int .i64 0, .bool false, .str [], .lit (.slice none 0 0)] []), (none, .store 5 (.tmp 4) (.tmp 27)), (some 5, .mv (.con (.int .i64 0))), (some 6, .mv (.con
    (.int .i64 23)))]⟩]) .ret) .skip)) (.seq (.seq (.region [⟨none, [(some 28, .mv (.tmp 7)), (some 29, .mv (.tmp 0)), (some 30, .lenS (.tmp 29)), (some 31, .bin .gtr (.tmp 28) (.tmp 30))]⟩]) (.cond (.tmp 31) (.seq (.region [⟨none,
    [(some 32, .build [.int .i64 0, .int .i64 0, .bool false, .str [], .lit (.slice none 0 0)] []), (none, .store 5 (.tmp 4) (.tmp 32)), (some 5, .mv (.con (.int .i64 0))), (some 6, .mv (.con (.int .i64 20)))]⟩]) .ret) .skip)) (.seq
    (.region [⟨none, [(some 34, .mv (.tmp 0)), (some 35, .call 294 [.tmp 34]), (some 33, .mv (.tmp 35)), (some 36, .extr 0 (.tmp 33)), (some 37, .extr 1 (.tmp 33)), (some 38, .extr 2 (.tmp 33)), (some 9, .mv (.tmp 36)), (some 10,
    .mv (.tmp 37)), (some 11, .mv (.tmp 38))]⟩]) (.seq (.quiet [⟨some 39, none, .mv (.tmp 0), false, 0, 1⟩, ⟨some 40, none, .idx (.tmp 39) (.con (.int .i64 0)), false, 0, 1⟩, ⟨some 41, none, .bin .quo (.tmp 40) (.con (.int .u8 64)),
    false, 0, 1⟩, ⟨some 42, none, .cvt (.int .i64) (.tmp 41), false, 0, 1⟩, ⟨some 43, none, .mv (.tmp 0), false, 0, 1⟩, ⟨some 44, none, .idx (.tmp 43) (.con (.int .i64 0)), false, 0, 1⟩, ⟨some 45, none, .bin .rem (.tmp 44) (.con
    (.int .u8 32)), false, 0, 1⟩, ⟨some 46, none, .cvt (.int .i64) (.tmp 45), false, 0, 1⟩, ⟨some 47, none, .mv (.tmp 0), false, 0, 1⟩, ⟨some 48, none, .idx (.tmp 47) (.con (.int .i64 0)), false, 0, 1⟩, ⟨some 49, none, .bin .quo
    (.tmp 48) (.con (.int .u8 32)), false, 0, 1⟩, ⟨some 50, none, .bin .rem (.tmp 49) (.con (.int .u8 2)), false, 0, 1⟩, ⟨some 51, none, .bin .eql (.tmp 50) (.con (.int .u8 1)), false, 0, 1⟩, ⟨some 52, none, .build [.int .i64 0,
    .int .i64 0, .bool false, .str [], .lit (.slice none 0 0)] [(0, 1, .tmp 42), (1, 1, .tmp 46), (2, 1, .tmp 51)], false, 0, 1⟩, ⟨some 12, none, .alloc 68 [.int .i64 0, .int .i64 0, .bool false, .str [], .lit (.slice none 0 0)],
    true, 0, 0⟩, ⟨none, none, .store 5 (.tmp 12) (.tmp 52), true, 0, 0⟩]) (.seq (.seq (.region [⟨none, [(some 53, .faddr 2 (.tmp 12)), (some 54, .load false 1 (.tmp 53)), (some 55, .un .not (.tmp 54))]⟩]) (.cond (.tmp 55) (.seq
    (.region [⟨none, [(some 56, .mv (.tmp 0)), (some 57, .mv (.tmp 9)), (some 58, .mv (.tmp 7)), (some 59, .slcS (.tmp 56) (some (.tmp 57)) (some (.tmp 58))), (some 60, .faddr 3 (.tmp 12)), (none, .store 1 (.tmp 60) (.tmp 59))]⟩])
    (.seq (.region [⟨none, [(some 61, .load true 5 (.tmp 12)), (some 62, .mv (.tmp 7)), (none, .store 5 (.tmp 4) (.tmp 61)), (some 5, .mv (.tmp 62)), (some 6, .mv (.con (.int .i64 0)))]⟩]) .ret)) .skip)) (.seq (.block 0 (.loop (.seq
    (.seq (.region [⟨none, [(some 63, .mv (.tmp 9)), (some 64, .mv (.tmp 7)), (some 65, .bin .lss (.tmp 63) (.tmp 64))]⟩]) (.cond (.tmp 65) .skip (.exit 0))) (.block 1 (.seq (.region [⟨none, [(some 67, .mv (.tmp 0)), (some 68, .mv
    (.tmp 9)), (some 69, .mv (.tmp 7)), (some 70, .slcS (.tmp 67) (some (.tmp 68)) (some (.tmp 69))), (some 71, .mv (.tmp 1)), (some 72, .bin .add (.tmp 71) (.con (.int .i64 1))), (some 73, .call 195 [.tmp 70, .tmp 72]), (some 66,
    .mv (.tmp 73)), (some 74, .extr 0 (.tmp 66)), (some 75, .extr 1 (.tmp 66)), (some 76, .extr 2 (.tmp 66)), (some 13, .alloc 68 [.int .i64 0, .int .i64 0, .bool false, .str [], .lit (.slice none 0 0)]), (none, .store 5 (.tmp 13)
    (.tmp 74)), (some 14, .mv (.tmp 75)), (some 15, .mv (.tmp 76))]⟩]) (.seq (.seq (.region [⟨none, [(some 77, .mv (.tmp 15)), (some 78, .bin .neq (.tmp 77) (.con (.int .i64 0)))]⟩]) (.cond (.tmp 78) (.seq (.region [⟨none, [(some
    79, .build [.int .i64 0, .int .i64 0, .bool false, .str [], .lit (.slice none 0 0)] []), (some 80, .mv (.tmp 15)), (none, .store 5 (.tmp 4) (.tmp 79)), (some 5, .mv (.con (.int .i64 0))), (some 6, .mv (.tmp 80))]⟩]) .ret)
    .skip)) (.seq (.region [⟨none, [(some 81, .faddr 4 (.tmp 12)), (some 82, .load false 1 (.tmp 81)), (some 83, .load true 5 (.tmp 13)), (some 84, .bslice 68 5 [.tmp 83]), (some 85, .append false 68 5 64 (.tmp 82) (.tmp 84)), (some
    86, .faddr 4 (.tmp 12)), (none, .store 1 (.tmp 86) (.tmp 85))]⟩]) (.region [⟨none, [(some 87, .mv (.tmp 9)), (some 88, .mv (.tmp 14)), (some 89, .bin .add (.tmp 87) (.tmp 88)), (some 9, .mv (.tmp 89))]⟩])))))))) (.seq (.region
    [⟨none, [(some 90, .load true 5 (.tmp 12)), (some 91, .mv (.tmp 7)), (none, .store 5 (.tmp 4) (.tmp 90)), (some 5, .mv (.tmp 91)), (some 6, .mv (.con (.int .i64 0)))]⟩]) .ret)))))))))
theorem low63 : lowerFO [] prog 195 = some ⟨92, [LRes.cell 4 true 5, LRes.tmp 5, LRes.tmp 6], B63⟩ := by kernel_rfl

@[irreducible] def B64 : LCode :=
  .seq (.region [⟨none, [(some 2, .mv (.con (.str [])))]⟩]) (.seq (.seq (.region [⟨none, [(some 6, .mv (.tmp 0)), (some 7, .bin .lss (.tmp 6) (.con (.int .i64 128)))]⟩]) (.cond (.tmp 7) (.seq (.region [⟨none, [(some 8, .mv (.tmp
    0)), (some 9, .cvt (.int .u8) (.tmp 8)), (some 10, .bslice 5 1 [.tmp 9]), (some 11, .cvt .b2s (.tmp 10)), (some 2, .mv (.tmp 11))]⟩]) .ret) .skip)) (.seq (.region [⟨none, [(some 3, .mv (.con (.int .i64 1)))]⟩]) (.seq (.block 0
    (.loop (.seq (.seq (.region [⟨none, [(some 12, .mv (.tmp 0)), (some 13, .mv (.tmp 3)), (some 14, .bin .mul (.con (.int .i64 8)) (.tmp 13)), (some 15, .bin .shr (.tmp 12) (.tmp 14)), (some 16, .bin .neq (.tmp 15) (.con (.int .i64
    0)))]⟩]) (.cond (.tmp 16) .skip (.exit 0))) (.block 1 (.region [⟨none, [(some 17, .mv (.tmp 3)), (some 18, .bin .add (.tmp 17) (.con (.int .i64 1))), (some 3, .mv (.tmp 18))]⟩]))))) (.seq (.region [⟨none, [(some 20, .mv (.tmp
    0)), (some 21, .mv (.tmp 3)), (some 22, .call 307 [.tmp 20, .tmp 21]), (some 19, .mv (.tmp 22)), (some 23, .extr 0 (.tmp 19)), (some 24, .extr 1 (.tmp 19)), (some 4, .mv (.tmp 23)), (some 5, .mv (.tmp 24))]⟩]) (.seq (.region
    [⟨none, [(some 25, .mv (.tmp 3)), (some 26, .bin .add (.con (.int .i64 128)) (.tmp 25)), (some 27, .cvt (.int .u8) (.tmp 26)), (some 28, .bslice 5 1 [.tmp 27]), (some 29, .cvt .b2s (.tmp 28)), (some 30, .mv (.tmp 4)), (some 31,
    .bin .add (.tmp 29) (.tmp 30)), (some 2, .mv (.tmp 31))]⟩]) .ret)))))
theorem low64 : lowerFO [] prog 245 = some ⟨32, [LRes.tmp 2], B64⟩ := by kernel_rfl

@[irreducible] def B65 : LCode :=
  .seq (.region [⟨none, [(some 4, .mv (.con (.lit .nilIface)))]⟩]) (.seq (.region [⟨none, [(some 5, .mv (.tmp 0)), (some 6, .call 308 [.tmp 5])]⟩]) (.seq (.region [⟨none, [(some 7, .mv (.tmp 0)), (some 8, .mv (.tmp 0)), (some 9,
    .nilchk (.tmp 8)), (some 10, .faddr 1 (.tmp 9)), (some 11, .load false 1 (.tmp 10)), (some 12, .mv (.tmp 1)), (some 13, .bslice 5 1 [.tmp 12]), (some 14, .append false 5 1 1 (.tmp 11) (.tmp 13)), (some 15, .nilchk (.tmp 7)),
    (some 16, .faddr 1 (.tmp 15)), (none, .store 1 (.tmp 16) (.tmp 14))]⟩]) (.seq (.region [⟨none, [(some 4, .mv (.con (.lit .nilIface)))]⟩]) .ret)))
theorem low65 : lowerFO [] prog 246 = some ⟨17, [LRes.tmp 4], B65⟩ := by kernel_rfl

@[irreducible] def B66 : LCode :=
  .seq (.region [⟨none, [(some 4, .mv (.con (.int .i64 0))), (some 5, .mv (.con (.lit .nilIface)))]⟩]) (.seq (.region [⟨none, [(some 6, .mv (.tmp 0)), (some 7, .call 308 [.tmp 6])]⟩]) (.seq (.region [⟨none, [(some 8, .mv (.tmp 0)),
    (some 9, .mv (.tmp 0)), (some 10, .nilchk (.tmp 9)), (some 11, .faddr 1 (.tmp 10)), (some 12, .load false 1 (.tmp 11)), (some 13, .mv (.tmp 1)), (some 14, .append true 5 1 1 (.tmp 12) (.tmp 13)), (some 15, .nilchk (.tmp 8)),
    (some 16, .faddr 1 (.tmp 15)), (none, .store 1 (.tmp 16) (.tmp 14))]⟩]) (.seq (.region [⟨none, [(some 17, .mv (.tmp 1)), (some 18, .lenS (.tmp 17)), (some 4, .mv (.tmp 18)), (some 5, .mv (.con (.lit .nilIface)))]⟩]) .ret)))
theorem low66 : lowerFO [] prog 247 = some ⟨19, [LRes.tmp 4, LRes.tmp 5], B66⟩ := by kernel_rfl

@[irreducible] def B67 : LCode :=
  .seq (.region [⟨none, [(some 2, .mv (.con (.int .i64 0))), (some 3, .mv (.con (.int .i64 0)))]⟩]) (.seq (.seq (.region [⟨none, [(some 6, .mv (.tmp 0)), (some 7, .lenS (.tmp 6)), (some 8, .bin .lss (.tmp 7) (.con (.int .i64 1))),
    (some 9, .mv (.tmp 8))]⟩, ⟨some (9, false), [(some 10, .mv (.tmp 0)), (some 11, .lenS (.tmp 10)), (some 12, .bin .gtr (.tmp 11) (.con (.int .i64 7)))]⟩, ⟨none, [(some 13, .pick (.tmp 9) (.con (.bool true)) (.tmp 12))]⟩]) (.cond
    (.tmp 13) (.seq (.region [⟨none, [(some 2, .mv (.con (.int .i64 0))), (some 3, .mv (.con (.int .i64 1)))]⟩]) .ret) .skip)) (.seq (.region [⟨none, [(some 4, .mv (.con (.int .i64 0)))]⟩]) (.seq (.seq (.region [⟨none, [(some 14,
    .mv (.tmp 0)), (some 15, .lenS (.tmp 14)), (some 16, .mv (.con (.int .i64 0)))]⟩]) (.block 0 (.loop (.seq (.region [⟨none, [(some 17, .bin .lss (.tmp 16) (.tmp 15))]⟩]) (.seq (.cond (.tmp 17) .skip (.exit 0)) (.seq (.block 1
    (.seq (.region [⟨none, [(some 18, .mv (.tmp 16)), (some 5, .mv (.tmp 18))]⟩]) (.region [⟨none, [(some 19, .mv (.tmp 4)), (some 20, .bin .shl (.tmp 19) (.con (.int .u64 8))), (some 21, .mv (.tmp 0)), (some 22, .mv (.tmp 5)),
    (some 23, .idx (.tmp 21) (.tmp 22)), (some 24, .cvt (.int .i64) (.tmp 23)), (some 25, .bin .or (.tmp 20) (.tmp 24)), (some 4, .mv (.tmp 25))]⟩]))) (.region [⟨none, [(some 26, .bin .add (.tmp 16) (.con (.int .i64 1))), (some 16,
    .mv (.tmp 26))]⟩]))))))) (.seq (.region [⟨none, [(some 27, .mv (.tmp 4)), (some 2, .mv (.tmp 27)), (some 3, .mv (.con (.int .i64 0)))]⟩]) .ret))))
theorem low67 : lowerFO [] prog 242 = some ⟨28, [LRes.tmp 2, LRes.tmp 3], B67⟩ := by kernel_rfl

@[irreducible] def B68 : LCode :=
  .seq (.region [⟨none, [(some 2, .mv (.con (.int .i64 0))), (some 3, .mv (.con (.int .i64 0)))]⟩]) (.seq (.seq (.region [⟨none, [(some 6, .mv (.tmp 0)), (some 7, .lenS (.tmp 6)), (some 8, .bin .lss (.tmp 7) (.con (.int .i64 1))),
    (some 9, .mv (.tmp 8))]⟩, ⟨some (9, false), [(some 10, .mv (.tmp 0)), (some 11, .lenS (.tmp 10)), (some 12, .bin .gtr (.tmp 11) (.con (.int .i64 7)))]⟩, ⟨none, [(some 13, .pick (.tmp 9) (.con (.bool true)) (.tmp 12))]⟩]) (.cond
    (.tmp 13) (.seq (.region [⟨none, [(some 2, .mv (.con (.int .i64 0))), (some 3, .mv (.con (.int .i64 1)))]⟩]) .ret) .skip)) (.seq (.region [⟨none, [(some 4, .mv (.con (.int .i64 0)))]⟩]) (.seq (.seq (.region [⟨none, [(some 5, .mv
    (.con (.int .i64 0)))]⟩]) (.block 0 (.loop (.seq (.seq (.region [⟨none, [(some 14, .mv (.tmp 5)), (some 15, .mv (.tmp 0)), (some 16, .lenS (.tmp 15)), (some 17, .bin .lss (.tmp 14) (.tmp 16))]⟩]) (.cond (.tmp 17) .skip (.exit
    0))) (.seq (.block 1 (.region [⟨none, [(some 20, .mv (.tmp 4)), (some 21, .bin .mul (.tmp 20) (.con (.int .i64 256))), (some 22, .mv (.tmp 0)), (some 23, .mv (.tmp 5)), (some 24, .idx (.tmp 22) (.tmp 23)), (some 25, .cvt (.int
    .i64) (.tmp 24)), (some 26, .bin .add (.tmp 21) (.tmp 25)), (some 4, .mv (.tmp 26))]⟩])) (.region [⟨none, [(some 18, .mv (.tmp 5)), (some 19, .bin .add (.tmp 18) (.con (.int .i64 1))), (some 5, .mv (.tmp 19))]⟩])))))) (.seq
    (.region [⟨none, [(some 27, .mv (.tmp 4)), (some 2, .mv (.tmp 27)), (some 3, .mv (.con (.int .i64 0)))]⟩]) .ret))))
theorem low68 : lowerFO [] prog 319 = some ⟨28, [LRes.tmp 2, LRes.tmp 3], B68⟩ := by kernel_rfl

@[irreducible] def B69 : LCode :=
  .seq (.region [⟨none, [(some 2, .mv (.con (.str [])))]⟩]) (.seq (.region [⟨none, [(some 3, .mv (.tmp 0)), (some 4, .call 305 [.tmp 3]), (some 2, .mv (.tmp 4))]⟩]) .ret)
theorem low69 : lowerFO [] prog 243 = some ⟨5, [LRes.tmp 2], B69⟩ := by kernel_rfl

@[irreducible] def B70 : LCode :=
  .seq (.region [⟨none, [(some 4, .mv (.con (.str []))), (some 5, .mv (.con (.int .i64 0)))]⟩]) (.seq (.seq (.region [⟨none, [(some 8, .mv (.tmp 1)), (some 9, .bin .lss (.tmp 8) (.con (.int .i64 1))), (some 10, .mv (.tmp 9))]⟩,
    ⟨some (10, false), [(some 11, .mv (.tmp 1)), (some 12, .bin .gtr (.tmp 11) (.con (.int .i64 7)))]⟩, ⟨none, [(some 13, .pick (.tmp 10) (.con (.bool true)) (.tmp 12)), (some 14, .mv (.tmp 13))]⟩, ⟨some (14, false), [(some 15, .mv
    (.tmp 0)), (some 16, .bin .lss (.tmp 15) (.con (.int .i64 0)))]⟩, ⟨none, [(some 17, .pick (.tmp 14) (.con (.bool true)) (.tmp 16)), (some 18, .mv (.tmp 17))]⟩, ⟨some (18, false), [(some 19, .mv (.tmp 0)), (some 20, .mv (.tmp
    1)), (some 21, .bin .mul (.con (.int .i64 8)) (.tmp 20)), (some 22, .bin .shr (.tmp 19) (.tmp 21)), (some 23, .bin .neq (.tmp 22) (.con (.int .i64 0)))]⟩, ⟨none, [(some 24, .pick (.tmp 18) (.con (.bool true)) (.tmp 23))]⟩])
    (.cond (.tmp 24) (.seq (.region [⟨none, [(some 4, .mv (.con (.str []))), (some 5, .mv (.con (.int .i64 1)))]⟩]) .ret) .skip)) (.seq (.region [⟨none, [(some 25, .mv (.tmp 1)), (some 26, .mkslice 5 1 1 [.int .u8 0] (.tmp 25) (.tmp
    25)), (some 6, .mv (.tmp 26))]⟩]) (.seq (.seq (.region [⟨none, [(some 27, .mv (.tmp 6)), (some 28, .len (.tmp 27)), (some 29, .mv (.con (.int .i64 0)))]⟩]) (.block 0 (.loop (.seq (.region [⟨none, [(some 30, .bin .lss (.tmp 29)
    (.tmp 28))]⟩]) (.seq (.cond (.tmp 30) .skip (.exit 0)) (.seq (.block 1 (.seq (.region [⟨none, [(some 31, .mv (.tmp 29)), (some 7, .mv (.tmp 31))]⟩]) (.region [⟨none, [(some 32, .mv (.tmp 6)), (some 33, .mv (.tmp 1)), (some 34,
    .bin .sub (.tmp 33) (.con (.int .i64 1))), (some 35, .mv (.tmp 7)), (some 36, .bin .sub (.tmp 34) (.tmp 35)), (some 37, .mv (.tmp 0)), (some 38, .mv (.tmp 7)), (some 39, .bin .mul (.con (.int .i64 8)) (.tmp 38)), (some 40, .bin
    .shr (.tmp 37) (.tmp 39)), (some 41, .cvt (.int .u8) (.tmp 40)), (some 42, .iaddr 1 (.tmp 32) (.tmp 36)), (none, .store 1 (.tmp 42) (.tmp 41))]⟩]))) (.region [⟨none, [(some 43, .bin .add (.tmp 29) (.con (.int .i64 1))), (some
    29, .mv (.tmp 43))]⟩]))))))) (.seq (.region [⟨none, [(some 44, .mv (.tmp 6)), (some 45, .cvt .b2s (.tmp 44)), (some 4, .mv (.tmp 45)), (some 5, .mv (.con (.int .i64 0)))]⟩]) .ret))))
theorem low70 : lowerFO [] prog 307 = some ⟨46, [LRes.tmp 4, LRes.tmp 5], B70⟩ := by kernel_rfl

@[irreducible] def B71 : LCode :=
  .seq (.region [⟨none, [(some 2, .mv (.tmp 0)), (some 3, .nilchk (.tmp 2)), (some 4, .faddr 0 (.tmp 3)), (some 5, .load false 1 (.tmp 4)), (some 6, .peq false (.tmp 5) (.con (.lit (.pointer none))))]⟩]) (.cond (.tmp 6) (.region
    [⟨none, [(some 7, .mv (.tmp 0)), (some 8, .mv (.tmp 0)), (some 9, .p2u (.tmp 8)), (some 10, .noesc (.tmp 9)), (some 11, .u2p 175 2 (.tmp 10)), (some 12, .nilchk (.tmp 7)), (some 13, .faddr 0 (.tmp 12)), (none, .store 1 (.tmp 13)
    (.tmp 11))]⟩]) (.seq (.region [⟨none, [(some 14, .mv (.tmp 0)), (some 15, .nilchk (.tmp 14)), (some 16, .faddr 0 (.tmp 15)), (some 17, .load false 1 (.tmp 16)), (some 18, .mv (.tmp 0)), (some 19, .peq true (.tmp 17) (.tmp
    18))]⟩]) (.cond (.tmp 19) .bad .skip)))
theorem low71 : lowerFO [] prog 308 = some ⟨20, [], B71⟩ := by kernel_rfl

@[irreducible] def B72 : LCode :=
  .seq (.region [⟨none, [(some 2, .mv (.con (.str [])))]⟩]) (.seq (.seq (.region [⟨none, [(some 4, .mv (.tmp 0)), (some 5, .lenS (.tmp 4)), (some 6, .bin .eql (.tmp 5) (.con (.int .i64 0)))]⟩]) (.cond (.tmp 6) (.seq (.region [⟨none,
    [(some 2, .mv (.con (.str [])))]⟩]) .ret) .skip)) (.seq (.region [⟨none, [(some 7, .mv (.tmp 0)), (some 8, .lenS (.tmp 7)), (some 9, .mkslice 5 1 1 [.int .u8 0] (.tmp 8) (.tmp 8)), (some 3, .mv (.tmp 9))]⟩]) (.seq (.region
    [⟨none, [(some 10, .mv (.tmp 3)), (some 11, .mv (.tmp 0)), (some 12, .copyS (.tmp 10) (.tmp 11))]⟩]) (.seq (.region [⟨none, [(some 13, .mv (.tmp 3)), (some 14, .iaddr 1 (.tmp 13) (.con (.int .i64 0))), (some 15, .mv (.tmp 3)),
    (some 16, .len (.tmp 15)), (some 17, .sstr 5 (.tmp 14) (.tmp 16)), (some 2, .mv (.tmp 17))]⟩]) .ret))))
theorem low72 : lowerFO [] prog 305 = some ⟨18, [LRes.tmp 2], B72⟩ := by kernel_rfl

end Go.Proofs.YtajbeippbabhhaaGreatDoor.Eng

namespace Go.Proofs.YtajbeippbabhhaaGreatDoor.Eng
open Go Go.Proofs.Tryz

@[irreducible] def PA40 : LCode :=
  .region [⟨none, [(some 2, .alloc 68 [.int .i64 0, .int .i64 0, .bool false, .str [], .lit (.slice none 0 0)]), (some 3, .alloc 32 [.int .i64 0])]⟩]

@[irreducible] def PB40 : LCode :=
  .seq (.region [⟨none, [(some 8, .mv (.tmp 0)), (some 9, .call 145 [.tmp 8, .con (.int .i64 0)]), (some 7, .mv (.tmp 9)), (some 10, .extr 0 (.tmp 7)), (some 11, .extr 1 (.tmp 7)), (some 4, .alloc 68 [.int .i64 0, .int .i64 0, .bool
    false, .str [], .lit (.slice none 0 0)]), (none, .store 5 (.tmp 4) (.tmp 10)), (some 5, .mv (.tmp 11))]⟩]) (.seq (.seq (.region [⟨none, [(some 12, .mv (.tmp 5)), (some 13, .bin .neq (.tmp 12) (.con (.str [])))]⟩]) (.cond (.tmp
    13) (.seq (.region [⟨none, [(some 14, .build [.int .i64 0, .int .i64 0, .bool false, .str [], .lit (.slice none 0 0)] []), (none, .store 5 (.tmp 2) (.tmp 14)), (none, .store 1 (.tmp 3) (.con (.int .i64 25)))]⟩]) .ret) .skip))
    (.seq (.region [⟨none, [(some 15, .load true 5 (.tmp 4)), (none, .store 5 (.tmp 2) (.tmp 15)), (none, .store 1 (.tmp 3) (.con (.int .i64 0)))]⟩]) .ret))

@[irreducible] def PD61 : LCode :=
  .seq (.region [⟨none, [(some 6, .mv (.tmp 2)), (some 7, .inil true (.tmp 6))]⟩]) (.cond (.tmp 7) (.seq (.region [⟨none, [(some 9, .mv (.tmp 2)), (some 10, .tass 32 (.tmp 9)), (some 8, .mv (.tmp 10)), (some 11, .extr 0 (.tmp 8)),
    (some 12, .extr 1 (.tmp 8)), (some 3, .mv (.tmp 11)), (some 4, .mv (.tmp 12))]⟩]) (.seq (.seq (.region [⟨none, [(some 13, .mv (.tmp 4)), (some 14, .un .not (.tmp 13))]⟩]) (.cond (.tmp 14) (.region [⟨none, [(some 15, .mv (.tmp
    2)), (none, .panic (.tmp 15))]⟩]) .skip)) (.region [⟨none, [(some 16, .build [.int .i64 0, .int .i64 0, .bool false, .str [], .lit (.slice none 0 0)] []), (some 17, .mv (.tmp 3)), (none, .store 5 (.tmp 0) (.tmp 16)), (none,
    .store 1 (.tmp 1) (.tmp 17))]⟩]))) .skip)

end Go.Proofs.YtajbeippbabhhaaGreatDoor.Eng

namespace Go.Proofs.YtajbeippbabhhaaGreatDoor.Eng
open Go Go.Proofs.Tryz

/-! ## strings.Builder -/
/-- The builder at `l` holds `bs`; its row, if it has one, is named from `m` on. -/
def BS (m : Nat) (S : Store) (l : Nat) (bs : List UInt8) : Prop :=
  m ≤ l ∧ l < S.n ∧ ((∃ a, (a = .lit (.pointer none) ∨ a = .ptr l 0) ∧ S.get l = some (.box 175 [a, .lit (.slice none 0 0)]) ∧ bs = []) ∨
    ∃ k, m ≤ k ∧ k < S.n ∧ k ≠ l ∧ S.get l = some (.box 175 [.ptr l 0, .own k 0 bs.length]) ∧ S.get k = some (.row 5 1 0 (byteRow bs)) ∧ bs ≠ [])
theorem BS.grow {m : Nat} {S T : Store} {l : Nat} {bs : List UInt8} (h : BS m S l bs) (hn : S.n ≤ T.n) (hT : ∀ j, j < S.n → T.get j = S.get j) : BS m T l bs := by
  obtain ⟨h0, h1, ⟨a, ha, h2, h3⟩ | ⟨k, hk, hkS, hkl, h2, h3, h4⟩⟩ := h
  · exact ⟨h0, by omega, .inl ⟨a, ha, by rw [hT l h1]; exact h2, h3⟩⟩
  · exact ⟨h0, by omega, .inr ⟨k, hk, by omega, hkl, by rw [hT l h1]; exact h2, by rw [hT k hkS]; exact h3, h4⟩⟩
/-- What lies below `m` is as it was, and every variable but `l`. -/
structure Low (m l : Nat) (S T : Store) : Prop where
  n : S.n ≤ T.n
  get : ∀ j, j < m → j ≠ l → T.get j = S.get j
  box : ∀ j t cs, j ≠ l → S.get j = some (.box t cs) → T.get j = some (.box t cs)
  bnd : ∀ j o, T.get j = some o → (∃ o', S.get j = some o') ∨ j < T.n
theorem Low.refl (m l : Nat) (S : Store) : Low m l S S := ⟨Nat.le_refl _, fun _ _ _ => rfl, fun _ _ _ _ h => h, fun j o h => .inl ⟨o, h⟩⟩
theorem Low.trans {m l : Nat} {S T U : Store} (h : Low m l S T) (k : Low m l T U) : Low m l S U :=
  ⟨Nat.le_trans h.n k.n, fun j hj hl => (k.get j hj hl).trans (h.get j hj hl), fun j t cs hl e => k.box j t cs hl (h.box j t cs hl e), fun j o e => by
    rcases k.bnd j o e with ⟨o', e'⟩ | e'
    · rcases h.bnd j o' e' with h' | h'
      · exact .inl h'
      · exact .inr (Nat.lt_of_lt_of_le h' k.n)
    · exact .inr e'⟩
theorem Low.setl {m l : Nat} {S T : Store} (h : Low m l S T) (o : Option AObj) (hl : l < S.n) : Low m l S (T.set l o) :=
  ⟨h.n, fun j hj hl => by rw [Store.get_set_ne _ _ hl]; exact h.get j hj hl, fun j t cs hl e => by rw [Store.get_set_ne _ _ hl]; exact h.box j t cs hl e, fun j o' e => by
    by_cases ej : j = l
    · subst ej; exact .inr (Nat.lt_of_lt_of_le hl h.n)
    · rw [Store.get_set_ne _ _ ej] at e; exact h.bnd j o' e⟩
theorem Low.setk {m l k : Nat} {S T : Store} (h : Low m l S T) (hk : m ≤ k) (hn : ∀ t cs, S.get k ≠ some (.box t cs)) : Low m l S (T.set k none) :=
  ⟨h.n, fun j hj hl => by rw [Store.get_set_ne _ _ (by omega)]; exact h.get j hj hl, fun j t cs hl e => by
    rw [Store.get_set_ne _ _ (fun ej => by subst ej; exact hn _ _ e)]; exact h.box j t cs hl e, fun j o' e => by
    by_cases ej : j = k
    · subst ej; rw [Store.get_set_same] at e; cases e
    · rw [Store.get_set_ne _ _ ej] at e; exact h.bnd j o' e⟩
theorem Low.push {m l : Nat} {S T : Store} (h : Low m l S T) (o : AObj) (hm : m ≤ T.n) (hwf : ∀ j o, S.get j = some o → j < S.n) : Low m l S (T.push o) :=
  ⟨Nat.le_succ_of_le h.n, fun j hj hl => by rw [Store.get_push_ne _ _ (by omega)]; exact h.get j hj hl, fun j t cs hl e => by
    have := hwf j _ e; have := h.n
    rw [Store.get_push_ne _ _ (by omega)]; exact h.box j t cs hl e, fun j o' e => by
    by_cases ej : j = T.n
    · subst ej; exact .inr (Nat.lt_succ_self _)
    · rw [Store.get_push_ne _ _ ej] at e
      rcases h.bnd j o' e with h' | h'
      · exact .inl h'
      · exact .inr (Nat.lt_succ_of_lt h')⟩
theorem Low.bound {m l : Nat} {S T : Store} (h : Low m l S T) (hwf : ∀ j o, S.get j = some o → j < S.n) : ∀ j o, T.get j = some o → j < T.n := fun j o e => by
  rcases h.bnd j o e with ⟨o', e'⟩ | e'
  · exact Nat.lt_of_lt_of_le (hwf j o' e') h.n
  · exact e'
theorem WF.lt {S : Store} (h : WF S) : ∀ j o, S.get j = some o → j < S.n := fun j o e => (h j o e).1

/-- copyCheck: the address is laid down. -/
theorem c71 (S : Store) (l : Nat) (a b : AV) (h : S.get l = some (.box 175 [a, b])) (ha : a = .lit (.pointer none) ∨ a = .ptr l 0) :
    ACalls prog 308 [.ptr l 0] S fun r S' => r = .ret (.tup []) ∧ S' = S.set l (some (.box 175 [.ptr l 0, b])) := by
  refine acalls_of_vc low71 (by simp) ?_
  rcases ha with rfl | rfl
  · simp -implicitDefEqProofs only [B71, h, go_sem, reduceIte, Nat.reduceEqDiff, Nat.reduceAdd, Nat.reduceLeDiff, Nat.reduceLT, vc_cond, vcCond, vcGrps_guard, vcGuard, vcD_val, vcD_guard, vcDOut, vcDGuard, vcCond_T, vcCond_F]
  · simp -implicitDefEqProofs only [B71, h, go_sem, reduceIte, Nat.reduceEqDiff, Nat.reduceAdd, Nat.reduceLeDiff, Nat.reduceLT, vc_cond, vcCond, vcGrps_guard, vcGuard, vcD_val, vcD_guard, vcDOut, vcDGuard, vcCond_T, vcCond_F]
    exact (Store.set_self _ _ _ h).symm

theorem byteRow_append (a b : List UInt8) : byteRow (a ++ b) = byteRow a ++ byteRow b := by simp [byteRow]
theorem byteRow_length (a : List UInt8) : (byteRow a).length = a.length := by simp [byteRow]

theorem low_own {m : Nat} {S : Store} {l k : Nat} {o1 o2 o3 : AObj} (hwf : WF S) (hl : l < S.n) (hm : m ≤ S.n) (hk : m ≤ k) {t s frz : Nat} {es : List (List AV)} (hrow : S.get k = some (.row t s frz es)) : Low m l S ((((S.set l (some o1)).set k none).push o2).set l (some o3)) :=
  ((((Low.refl m l S).setl _ hl).setk hk (fun _ _ h => by rw [hrow] at h; cases h)).push _ hm hwf.lt).setl _ hl
theorem low_new {m : Nat} {S : Store} {l : Nat} {o1 o2 o3 : AObj} (hwf : WF S) (hl : l < S.n) (hm : m ≤ S.n) : Low m l S (((S.set l (some o1)).push o2).set l (some o3)) :=
  (((Low.refl m l S).setl _ hl).push _ hm hwf.lt).setl _ hl
theorem bs_new {m : Nat} {S : Store} {l : Nat} {o : AObj} {bs : List UInt8} {n : Nat} (hm : m ≤ S.n) (hml : m ≤ l) (hl : l < S.n) (hn : n = bs.length) (hne : bs ≠ []) {T : Store} (hT : T.n = S.n) :
    BS m ((T.push (.row 5 1 0 (byteRow bs))).set l (some (.box 175 [.ptr l 0, .own S.n 0 n]))) l bs := by
  subst hn
  refine ⟨hml, by rw [Store.n_set, Store.n_push, hT]; omega, .inr ⟨S.n, hm, by rw [Store.n_set, Store.n_push, hT]; omega, by omega, by rw [Store.get_set_same], ?_, hne⟩⟩
  rw [Store.get_set_ne _ _ (by omega), Store.get_push, hT, if_pos rfl]

theorem c65 (m : Nat) (S : Store) (l : Nat) (bs : List UInt8) (c : UInt8) (h : BS m S l bs) (hm : m ≤ S.n) (hb : bs.length + 1 ≤ 140737488355328) :
    ACalls prog 246 [.ptr l 0, .int .u8 c.toNat] S fun r S' => (∃ x, r = .ret x) ∧ BS m S' l (bs ++ [c]) ∧ Low m l S S' := by
  refine ACalls.wf fun hwf _ => acalls_of_vc low65 (by simp) ?_
  obtain ⟨hml, hlS, ⟨a, ha, hl, rfl⟩ | ⟨k, hk, hkS, hkl, hl, hrow, hne⟩⟩ := h
  · have hln := (hwf l _ hl).1
    simp -implicitDefEqProofs only [B65, go_sem, reduceIte, Nat.reduceEqDiff, Nat.reduceAdd, Nat.reduceLeDiff, Nat.reduceLT, vc_cond, vcCond, vcGrps_guard, vcGuard, vcD_val, vcD_guard, vcDOut, vcDGuard, vcCond_T, vcCond_F]
    refine (c71 S l _ _ hl ha).mono ?_
    rintro r S' ⟨rfl, rfl⟩
    have hne : l ≠ S.n := by omega
    simp -implicitDefEqProofs only [hne, go_sem, reduceIte, Nat.reduceEqDiff, Nat.reduceAdd, Nat.reduceLeDiff, Nat.reduceLT, vc_cond, vcCond, vcGrps_guard, vcGuard, vcD_val, vcD_guard, vcDOut, vcDGuard, vcCond_T, vcCond_F]
    exact ⟨by omega, ⟨_, rfl⟩, bs_new (bs := [c]) (o := .box 0 []) hm hml hln rfl (by simp) rfl, low_new hwf hlS hm⟩
  · have hln := (hwf l _ hl).1
    simp -implicitDefEqProofs only [B65, go_sem, reduceIte, Nat.reduceEqDiff, Nat.reduceAdd, Nat.reduceLeDiff, Nat.reduceLT, vc_cond, vcCond, vcGrps_guard, vcGuard, vcD_val, vcD_guard, vcDOut, vcDGuard, vcCond_T, vcCond_F]
    refine (c71 S l _ _ hl (.inr rfl)).mono ?_
    rintro r S' ⟨rfl, rfl⟩
    have hne : l ≠ S.n := by omega
    simp -implicitDefEqProofs only [hne, hkl, hkl.symm, hrow, byteRow_length, go_sem, reduceIte, Nat.reduceEqDiff, Nat.reduceAdd, Nat.reduceLeDiff, Nat.reduceLT, vc_cond, vcCond, vcGrps_guard, vcGuard, vcD_val, vcD_guard, vcDOut, vcDGuard, vcCond_T, vcCond_F]
    refine ⟨by omega, ⟨_, rfl⟩, ?_, low_own hwf hlS hm hk hrow⟩
    have e : byteRow bs ++ [[AV.int IntKind.u8 ↑c.toNat]] = byteRow (bs ++ [c]) := by rw [byteRow_append]; rfl
    rw [e]
    exact bs_new (o := .box 0 []) hm hml hln (by simp) (by simp) rfl

theorem c66 (m : Nat) (S : Store) (l : Nat) (bs s : List UInt8) (h : BS m S l bs) (hm : m ≤ S.n) (hb : bs.length + s.length ≤ 140737488355328) :
    ACalls prog 247 [.ptr l 0, .str s] S fun r S' => (∃ x, r = .ret x) ∧ BS m S' l (bs ++ s) ∧ Low m l S S' := by
  refine ACalls.wf fun hwf _ => acalls_of_vc low66 (by simp) ?_
  obtain ⟨hml, hlS, ⟨a, ha, hl, rfl⟩ | ⟨k, hk, hkS, hkl, hl, hrow, hne⟩⟩ := h
  · have hln := (hwf l _ hl).1
    have hne : l ≠ S.n := by omega
    cases s with
    | nil =>
      simp -implicitDefEqProofs only [B66, go_sem, reduceIte, Nat.reduceEqDiff, Nat.reduceAdd, Nat.reduceLeDiff, Nat.reduceLT, vc_cond, vcCond, vcGrps_guard, vcGuard, vcD_val, vcD_guard, vcDOut, vcDGuard, vcCond_T, vcCond_F]
      refine (c71 S l _ _ hl ha).mono ?_
      rintro r S' ⟨rfl, rfl⟩
      simp -implicitDefEqProofs only [hne, go_sem, reduceIte, Nat.reduceEqDiff, Nat.reduceAdd, Nat.reduceLeDiff, Nat.reduceLT, vc_cond, vcCond, vcGrps_guard, vcGuard, vcD_val, vcD_guard, vcDOut, vcDGuard, vcCond_T, vcCond_F]
      refine fun _ => ⟨⟨_, rfl⟩, ⟨hml, hlS, .inl ⟨_, .inr rfl, by rw [Store.get_set_same], rfl⟩⟩, ((Low.refl m l S).setl _ hlS).setl _ hlS⟩
    | cons b s =>
      simp -implicitDefEqProofs only [B66, go_sem, reduceIte, Nat.reduceEqDiff, Nat.reduceAdd, Nat.reduceLeDiff, Nat.reduceLT, vc_cond, vcCond, vcGrps_guard, vcGuard, vcD_val, vcD_guard, vcDOut, vcDGuard, vcCond_T, vcCond_F]
      refine (c71 S l _ _ hl ha).mono ?_
      rintro r S' ⟨rfl, rfl⟩
      simp -implicitDefEqProofs only [hne, List.length_map, go_sem, reduceIte, Nat.reduceEqDiff, Nat.reduceAdd, Nat.reduceLeDiff, Nat.reduceLT, vc_cond, vcCond, vcGrps_guard, vcGuard, vcD_val, vcD_guard, vcDOut, vcDGuard, vcCond_T, vcCond_F]
      simp only [List.length_cons, List.length_nil] at hb
      refine ⟨by omega, fun _ => ⟨⟨_, rfl⟩, ?_, low_new hwf hlS hm⟩⟩
      exact bs_new (bs := b :: s) (o := .box 0 []) hm hml hln (by simp) (by simp) rfl
  · have hln := (hwf l _ hl).1
    simp -implicitDefEqProofs only [B66, go_sem, reduceIte, Nat.reduceEqDiff, Nat.reduceAdd, Nat.reduceLeDiff, Nat.reduceLT, vc_cond, vcCond, vcGrps_guard, vcGuard, vcD_val, vcD_guard, vcDOut, vcDGuard, vcCond_T, vcCond_F]
    refine (c71 S l _ _ hl (.inr rfl)).mono ?_
    rintro r S' ⟨rfl, rfl⟩
    have hne : l ≠ S.n := by omega
    simp -implicitDefEqProofs only [hne, hkl, hkl.symm, hrow, byteRow_length, List.length_map, go_sem, reduceIte, Nat.reduceEqDiff, Nat.reduceAdd, Nat.reduceLeDiff, Nat.reduceLT, vc_cond, vcCond, vcGrps_guard, vcGuard, vcD_val, vcD_guard, vcDOut, vcDGuard, vcCond_T, vcCond_F]
    refine ⟨by omega, fun _ => ⟨⟨_, rfl⟩, ?_, low_own hwf hlS hm hk hrow⟩⟩
    have e : byteRow bs ++ List.map (fun b => [AV.int IntKind.u8 ↑b.toNat]) s = byteRow (bs ++ s) := by rw [byteRow_append]; rfl
    rw [e]
    exact bs_new (o := .box 0 []) hm hml hln (by simp) (by simp [*]) rfl

theorem rowBytes_byteRow : ∀ (l : List UInt8), rowBytes (byteRow l) = some l
  | [] => rfl
  | b :: l => by
    have := rowBytes_byteRow l
    simp only [byteRow, List.map_cons, rowBytes] at this ⊢
    have h : (0 : Int) ≤ b.toNat ∧ (b.toNat : Int) < 256 := ⟨by omega, by have := b.toNat_lt; omega⟩
    rw [if_pos h, this]
    simp

theorem c48 (m : Nat) (S : Store) (l : Nat) (bs : List UInt8) (h : BS m S l bs) (hne : bs ≠ []) :
    ACalls prog 160 [.ptr l 0] S fun r S' => r = .ret (.str bs) ∧ Low m l S S' := by
  refine ACalls.wf fun hwf _ => acalls_of_vc low48 (by simp) ?_
  obtain ⟨hml, hlS, ⟨a, ha, hl, rfl⟩ | ⟨k, hk, hkS, hkl, hl, hrow, hne⟩⟩ := h
  · exact absurd rfl hne
  · have hpos : 0 < bs.length := List.length_pos_iff.2 hne
    have hz : ¬ ((bs.length : Int) = 0) := by omega
    have h0 : (0 : Int) ≤ bs.length := by omega
    have ht : (byteRow bs).take bs.length = byteRow bs := by rw [← byteRow_length bs]; exact List.take_length ..
    simp -implicitDefEqProofs only [B48, hl, hrow, hkl, hkl.symm, hpos, hz, h0, ht, rowBytes_byteRow, byteRow_length, go_sem, reduceIte, Nat.reduceEqDiff, Nat.reduceAdd, Nat.reduceLeDiff, Nat.reduceLT, vc_cond, vcCond, vcGrps_guard, vcGuard, vcD_val, vcD_guard, vcDOut, vcDGuard, vcCond_T, vcCond_F]
    exact (Low.refl m l S).setk hk (fun _ _ h => by rw [hrow] at h; cases h)
end Go.Proofs.YtajbeippbabhhaaGreatDoor.Eng

namespace Go.Proofs.YtajbeippbabhhaaGreatDoor.Eng
open Go Go.Proofs.Tryz

theorem c72 (s : List UInt8) (hs : s.length ≤ 281474976710656) : Pure prog 305 [.str s] (.str s) := by
  refine Pure.of (fun _ _ => by simp only [nm]) fun S => acalls_of_vc low72 (by simp) ?_
  have hx := Ext.refl S
  by_cases h0 : s = []
  · subst h0
    simp -implicitDefEqProofs only [B72, go_sem, reduceIte, Nat.reduceEqDiff, Nat.reduceAdd, Nat.reduceLeDiff, Nat.reduceLT, vc_cond, vcCond, vcGrps_guard, vcGuard, vcD_val, vcD_guard, vcDOut, vcDGuard, vcCond_T, vcCond_F]
    simp [hx]
  · have hpos : 0 < s.length := List.length_pos_iff.2 h0
    have hz : ¬ ((s.length : Int) = 0) := by omega
    have hle : (0 : Int) ≤ s.length := by omega
    have hT : Int.toNat 0 = 0 := rfl
    have ht : (byteRow s).take s.length = byteRow s := by rw [← byteRow_length s]; exact List.take_length ..
    simp -implicitDefEqProofs only [B72, hz, hle, hT, hpos, ht, rowBytes_byteRow, byteRow_length, List.length_replicate, lenMax, Int.le_refl, decide_false, decide_true, go_sem, reduceIte, Nat.reduceEqDiff, Nat.reduceAdd, Nat.reduceLeDiff, Nat.reduceLT, vc_cond, vcCond, vcGrps_guard, vcGuard, vcD_val, vcD_guard, vcDOut, vcDGuard, vcCond_T, vcCond_F]
    refine fun _ _ => ⟨by omega, fun _ => ?_⟩
    exact ((hx.push _).set _ _ (Nat.le_refl _)).set _ _ (Nat.le_refl _)
theorem c69 (s : List UInt8) (hs : s.length ≤ 281474976710656) : Pure prog 243 [.str s] (.str s) := by
  refine Pure.of (fun _ _ => by simp only [nm]) fun S => acalls_of_vc low69 (by simp) ?_
  simp -implicitDefEqProofs only [B69, go_sem, reduceIte, Nat.reduceEqDiff, Nat.reduceAdd, Nat.reduceLeDiff, Nat.reduceLT, vc_cond, vcCond, vcGrps_guard, vcGuard, vcD_val, vcD_guard, vcDOut, vcDGuard, vcCond_T, vcCond_F]
  refine (c72 s hs).use ?_
  simp -implicitDefEqProofs only [go_sem, reduceIte, Nat.reduceEqDiff, Nat.reduceAdd, Nat.reduceLeDiff, Nat.reduceLT, vc_cond, vcCond, vcGrps_guard, vcGuard, vcD_val, vcD_guard, vcDOut, vcDGuard, vcCond_T, vcCond_F]
  exact Ext.refl S
end Go.Proofs.YtajbeippbabhhaaGreatDoor.Eng

namespace Go.Proofs.YtajbeippbabhhaaGreatDoor.Eng
open Go Go.Proofs.Tryz

/-- The low bytes of a number, the high one first. -/
def beN : Nat → Nat → List UInt8
  | 0, _ => []
  | i + 1, v => UInt8.ofNat (v / 2 ^ (8 * i)) :: beN i v
theorem beN_length : ∀ (i v : Nat), (beN i v).length = i
  | 0, _ => rfl
  | i + 1, v => by simp [beN, beN_length i v]

theorem fdiv_nat (a b : Nat) : (a : Int).fdiv (b : Int) = ((a / b : Nat) : Int) := by
  rw [Int.fdiv_eq_ediv_of_nonneg _ (by omega)]; rfl
theorem w8 (n : Nat) : IntKind.u8.wrap (n : Int) = ((UInt8.ofNat n).toNat : Int) := by
  rw [IntKind.wrap_u8]; simp

theorem rep_set (z : List AV) (b : UInt8) (k i : Nat) (rest : List UInt8) (hi : i < k) (hr : rest.length = i) (hz : z = [.int .u8 (0 : UInt8).toNat]) :
    (byteRow (List.replicate (k - i) 0 ++ rest)).set (k - 1 - i) [.int .u8 b.toNat] = byteRow (List.replicate (k - (i + 1)) 0 ++ b :: rest) := by
  obtain ⟨d, hd⟩ : ∃ d, k - i = d + 1 := ⟨k - i - 1, by omega⟩
  have e1 : k - 1 - i = d := by omega
  have e2 : k - (i + 1) = d := by omega
  rw [hd, e1, e2]
  simp only [byteRow, List.map_append, List.map_replicate, List.map_cons]
  rw [List.replicate_succ']
  simp [List.set_append]

theorem bytesOf_byteRow : ∀ (l : List UInt8), bytesOf (byteRow l) = some l
  | [] => rfl
  | b :: l => by
    have := bytesOf_byteRow l
    simp only [byteRow, List.map_cons, bytesOf] at this ⊢
    rw [this]; simp

theorem c70 (v k : Nat) (h1 : 1 ≤ k) (h7 : k ≤ 7) (hv : v < 2 ^ (8 * k)) : Pure prog 307 [.int .i64 v, .int .i64 k] (.tup [.str (beN k v), .int .i64 0]) := by
  refine Pure.of (fun _ _ => by simp only [nm, nmL, and_self]) fun S => acalls_of_vc low70 (by simp) ?_
  have hx := Ext.refl S
  have h1' : ¬ ((k : Int) < 1) := by omega
  have h7' : ¬ ((k : Int) > 7) := by omega
  have hv' : ¬ ((v : Int) < 0) := by omega
  have hw : IntKind.i64.wrap (8 * (k : Int)) = 8 * k := w64 _ (by omega) (by omega)
  have hnn : ¬ (8 * (k : Int) < 0) := by omega
  have hsh : (v : Int).fdiv (2 ^ min (8 * (k : Int)).toNat (bitsA .i64)) = 0 := by
    have e : min (8 * (k : Int)).toNat (bitsA .i64) = 8 * k := by
      have : (bitsA .i64) = 64 := rfl
      rw [this]; omega
    rw [e, show ((2 : Int) ^ (8 * k)) = ((2 ^ (8 * k) : Nat) : Int) by push_cast; rfl, fdiv_nat, Nat.div_eq_of_lt hv]; rfl
  have hk0 : (0 : Int) ≤ k := by omega
  simp -implicitDefEqProofs only [B70, ashift, h1', h7', hv', hw, hnn, hsh, List.length_replicate, List.take_replicate, decide_false, decide_true, ne_eq, not_true, go_sem, reduceIte, Nat.reduceEqDiff, Nat.reduceAdd, Nat.reduceLeDiff, Nat.reduceLT, vc_cond, vcCond, vcGrps_guard, vcGuard, vcD_val, vcD_guard, vcDOut, vcDGuard, vcCond_T, vcCond_F]
  refine ⟨by unfold lenMax; omega, fun _ => ?_⟩
  refine vc_loop (fun n fr S' => ∃ i, i + n = k ∧ fr 0 = .int .i64 v ∧ fr 1 = .int .i64 k ∧ fr 6 = .own S.n 0 k ∧ fr 28 = .int .i64 k ∧ fr 29 = .int .i64 i ∧ fr 5 = .int .i64 0 ∧
    S'.get S.n = some (.row 5 1 0 (byteRow (List.replicate (k - i) 0 ++ beN i v))) ∧ Ext S S') k ⟨0, by simp, rfl, rfl, rfl, by simp [upd_apply], rfl, rfl, ?_, hx.push _⟩ ?_
  · simp [Store.get_push, beN, byteRow]
  rintro n fr S' ⟨i, hin, f0, f1, f6, f28, f29, f5, hrow, hS⟩
  by_cases hlt : i < k
  · have hlt' : (i : Int) < k := by omega
    have hwk : IntKind.i64.wrap ((k : Int) - 1) = k - 1 := w64 _ (by omega) (by omega)
    have hwi : IntKind.i64.wrap ((k : Int) - 1 - i) = k - 1 - i := w64 _ (by omega) (by omega)
    have hw8 : IntKind.i64.wrap (8 * (i : Int)) = 8 * i := w64 _ (by omega) (by omega)
    have hi1 : IntKind.i64.wrap ((i : Int) + 1) = i + 1 := w64 _ (by omega) (by omega)
    have hn8 : ¬ (8 * (i : Int) < 0) := by omega
    have hsh : (v : Int).fdiv (2 ^ min (8 * (i : Int)).toNat (bitsA .i64)) = ((v / 2 ^ (8 * i) : Nat) : Int) := by
      have e : min (8 * (i : Int)).toNat (bitsA .i64) = 8 * i := by
        have : (bitsA .i64) = 64 := rfl
        rw [this]; omega
      rw [e, show ((2 : Int) ^ (8 * i)) = ((2 ^ (8 * i) : Nat) : Int) by push_cast; rfl, fdiv_nat]
    have hp : (0 : Int) ≤ (k : Int) - 1 - i := by omega
    have hj : ((k : Int) - 1 - i).toNat = k - 1 - i := by omega
    have hlen : (byteRow (List.replicate (k - i) 0 ++ beN i v)).length = k := by simp [byteRow, beN_length]; omega
    have hget : (byteRow (List.replicate (k - i) 0 ++ beN i v))[k - 1 - i]? = some [.int .u8 (0 : UInt8).toNat] := by
      simp only [byteRow, List.getElem?_map]
      rw [List.getElem?_append_left (by simp; omega), List.getElem?_replicate, if_pos (by omega)]; rfl
    have hset := rep_set _ (UInt8.ofNat (v / 2 ^ (8 * i))) k i (beN i v) hlt (beN_length i v) rfl
    simp -implicitDefEqProofs only [f0, f1, f6, f28, f29, f5, ashift, hlt', hwk, hwi, hw8, hi1, hn8, hsh, hp, hj, hrow, hlen, hget, w8, decide_true, go_sem, reduceIte, Nat.reduceEqDiff, Nat.reduceAdd, Nat.reduceLeDiff, Nat.reduceLT, vc_cond, vcCond, vcGrps_guard, vcGuard, vcD_val, vcD_guard, vcDOut, vcDGuard, vcCond_T, vcCond_F]
    refine ⟨by omega, n - 1, by omega, i + 1, by omega, by simp, ?_, hS.set _ _ (Nat.le_refl _)⟩
    rw [hset]; rfl
  · have hlt' : ¬ (i : Int) < k := by omega
    have hik : i = k := by omega
    subst hik
    have hb : bytesOf (byteRow (beN i v)) = some (beN i v) := bytesOf_byteRow _
    have hlen : (byteRow (beN i v)).length = i := by rw [byteRow_length, beN_length]
    have htk : (byteRow (beN i v)).take i = byteRow (beN i v) := by
      have := List.take_length (l := byteRow (beN i v)); rwa [hlen] at this
    simp only [Nat.sub_self, List.replicate_zero, List.nil_append] at hrow
    simp -implicitDefEqProofs only [f0, f1, f6, f28, f29, f5, hlt', hrow, hlen, htk, hb, decide_false, go_sem, reduceIte, Nat.reduceEqDiff, Nat.reduceAdd, Nat.reduceLeDiff, Nat.reduceLT, vc_cond, vcCond, vcGrps_guard, vcGuard, vcD_val, vcD_guard, vcDOut, vcDGuard, vcCond_T, vcCond_F]
    exact hS
end Go.Proofs.YtajbeippbabhhaaGreatDoor.Eng

namespace Go.Proofs.YtajbeippbabhhaaGreatDoor.Eng
open Go Go.Proofs.Tryz

def kOf (n : Nat) : Nat := if n < 256 then 1 else if n < 65536 then 2 else 3
def lenS (n : Nat) : List UInt8 := if n < 128 then [UInt8.ofNat n] else UInt8.ofNat (128 + kOf n) :: beN (kOf n) n
theorem kOf_lt (n : Nat) (h : n < 16777216) : 1 ≤ kOf n ∧ kOf n ≤ 3 ∧ n < 2 ^ (8 * kOf n) := by
  unfold kOf; split
  · exact ⟨by omega, by omega, by simpa using ‹_›⟩
  · split
    · exact ⟨by omega, by omega, by simpa using ‹_›⟩
    · exact ⟨by omega, by omega, by simpa using h⟩
theorem kOf_div (n k : Nat) (h : n < 16777216) (h1 : 1 ≤ k) (h2 : k ≤ kOf n) : (n / 2 ^ (8 * k) = 0) ↔ k = kOf n := by
  have hk := (kOf_lt n h).2.1
  have : k = 1 ∨ k = 2 ∨ k = 3 := by omega
  have e : kOf n = if n < 256 then 1 else if n < 65536 then 2 else 3 := rfl
  rw [e] at h2 ⊢
  by_cases h3 : n < 256
  · rw [if_pos h3] at h2 ⊢
    obtain rfl : k = 1 := by omega
    show n / 256 = 0 ↔ 1 = 1
    constructor <;> intro _ <;> omega
  · rw [if_neg h3] at h2 ⊢
    by_cases h4 : n < 65536
    · rw [if_pos h4] at h2 ⊢
      rcases this with rfl | rfl | rfl
      · show n / 256 = 0 ↔ 1 = 2
        constructor <;> intro _ <;> omega
      · show n / 65536 = 0 ↔ 2 = 2
        constructor <;> intro _ <;> omega
      · show n / 16777216 = 0 ↔ 3 = 2
        constructor <;> intro _ <;> omega
    · rw [if_neg h4] at h2 ⊢
      rcases this with rfl | rfl | rfl
      · show n / 256 = 0 ↔ 1 = 3
        constructor <;> intro _ <;> omega
      · show n / 65536 = 0 ↔ 2 = 3
        constructor <;> intro _ <;> omega
      · show n / 16777216 = 0 ↔ 3 = 3
        constructor <;> intro _ <;> omega

theorem c64 (n : Nat) (hn : n < 16777216) : Pure prog 245 [.int .i64 n] (.str (lenS n)) := by
  refine Pure.of (fun _ _ => by simp only [nm]) fun S => acalls_of_vc low64 (by simp) ?_
  have hx := Ext.refl S
  obtain ⟨hk1, hk3, hkn⟩ := kOf_lt n hn
  by_cases h128 : n < 128
  · have h' : (n : Int) < 128 := by omega
    simp -implicitDefEqProofs only [B64, h', w8, bytesOf, decide_true, go_sem, reduceIte, Nat.reduceEqDiff, Nat.reduceAdd, Nat.reduceLeDiff, Nat.reduceLT, vc_cond, vcCond, vcGrps_guard, vcGuard, vcD_val, vcD_guard, vcDOut, vcDGuard, vcCond_T, vcCond_F]
    refine ⟨?_, hx⟩
    simp [lenS, h128]
    apply UInt8.toNat_inj.1
    simp
  · have h' : ¬ (n : Int) < 128 := by omega
    simp -implicitDefEqProofs only [B64, h', decide_false, go_sem, reduceIte, Nat.reduceEqDiff, Nat.reduceAdd, Nat.reduceLeDiff, Nat.reduceLT, vc_cond, vcCond, vcGrps_guard, vcGuard, vcD_val, vcD_guard, vcDOut, vcDGuard, vcCond_T, vcCond_F]
    refine vc_loop (fun m fr S' => ∃ k, k + m = kOf n ∧ 1 ≤ k ∧ fr 0 = .int .i64 n ∧ fr 3 = .int .i64 k ∧ Ext S S') (kOf n - 1) ⟨1, by omega, by omega, rfl, rfl, hx⟩ ?_
    rintro m fr S' ⟨k, hkm, hk, f0, f3, hS⟩
    have hw8 : IntKind.i64.wrap (8 * (k : Int)) = 8 * k := w64 _ (by omega) (by omega)
    have hi1 : IntKind.i64.wrap ((k : Int) + 1) = k + 1 := w64 _ (by omega) (by omega)
    have hn8 : ¬ (8 * (k : Int) < 0) := by omega
    have hsh : (n : Int).fdiv (2 ^ min (8 * (k : Int)).toNat (bitsA .i64)) = ((n / 2 ^ (8 * k) : Nat) : Int) := by
      have e : min (8 * (k : Int)).toNat (bitsA .i64) = 8 * k := by
        have : (bitsA .i64) = 64 := rfl
        rw [this]; omega
      rw [e, show ((2 : Int) ^ (8 * k)) = ((2 ^ (8 * k) : Nat) : Int) by push_cast; rfl, fdiv_nat]
    have hd := kOf_div n k hn hk (by omega)
    by_cases hlt : k = kOf n
    · have h0 : ((n / 2 ^ (8 * k) : Nat) : Int) = 0 := by rw [hd.2 hlt]; rfl
      have hwk : IntKind.i64.wrap (128 + (k : Int)) = ((128 + k : Nat) : Int) := by rw [w64 _ (by omega) (by omega)]; push_cast; rfl
      simp -implicitDefEqProofs only [f0, f3, ashift, hw8, hi1, hn8, hsh, h0, ne_eq, not_true, not_false_eq_true, decide_false, decide_true, go_sem, reduceIte, Nat.reduceEqDiff, Nat.reduceAdd, Nat.reduceLeDiff, Nat.reduceLT, vc_cond, vcCond, vcGrps_guard, vcGuard, vcD_val, vcD_guard, vcDOut, vcDGuard, vcCond_T, vcCond_F]
      subst hlt
      refine (c70 n (kOf n) hk1 (by omega) hkn).use ?_
      simp -implicitDefEqProofs only [f0, f3, hwk, w8, bytesOf, beN_length, go_sem, reduceIte, Nat.reduceEqDiff, Nat.reduceAdd, Nat.reduceLeDiff, Nat.reduceLT, vc_cond, vcCond, vcGrps_guard, vcGuard, vcD_val, vcD_guard, vcDOut, vcDGuard, vcCond_T, vcCond_F]
      refine ⟨by unfold strMax; omega, ?_, hS⟩
      · simp only [lenS, if_neg h128, List.cons_append, List.nil_append, AEnd.ret.injEq, AV.str.injEq, List.cons.injEq, and_true]
        apply UInt8.toNat_inj.1
        simp
    · have h0 : ¬ ((n / 2 ^ (8 * k) : Nat) : Int) = 0 := fun h => hlt (hd.1 (by omega))
      simp -implicitDefEqProofs only [f0, f3, ashift, hw8, hi1, hn8, hsh, h0, ne_eq, not_true, not_false_eq_true, decide_false, decide_true, go_sem, reduceIte, Nat.reduceEqDiff, Nat.reduceAdd, Nat.reduceLeDiff, Nat.reduceLT, vc_cond, vcCond, vcGrps_guard, vcGuard, vcD_val, vcD_guard, vcDOut, vcDGuard, vcCond_T, vcCond_F]
      exact ⟨m - 1, by omega, k + 1, by omega, by omega, by simp, hS⟩
end Go.Proofs.YtajbeippbabhhaaGreatDoor.Eng

namespace Go.Proofs.YtajbeippbabhhaaGreatDoor.Eng
open Go Go.Proofs.Tryz

def maxB : Nat := 140737488351232
def i64ok (n : Int) : Prop := -9223372036854775808 ≤ n ∧ n ≤ 9223372036854775807
mutual
/-- What holds of every element that comes in. -/
def okE : Elem → Prop
  | .mk c t _ b ks _ => i64ok c ∧ i64ok t ∧ b.length ≤ maxB ∧ ks.length * 64 ≤ maxB ∧ okEs ks
def okEs : List Elem → Prop
  | [] => True
  | k :: ks => okE k ∧ okEs ks
end
theorem okEs_mem : ∀ (ks : List Elem), okEs ks → ∀ k ∈ ks, okE k
  | [], _, k, h => by simp at h
  | x :: ks, h, k, hk => by
    simp only [okEs] at h
    rcases List.mem_cons.1 hk with rfl | hk
    · exact h.1
    · exact okEs_mem ks h.2 k hk
theorem okE_eta {e : Elem} (h : okE e) : i64ok e.cls ∧ i64ok e.tag ∧ e.bytes.length ≤ maxB ∧ e.kids.length * 64 ≤ maxB ∧ ∀ k ∈ e.kids, okE k := by
  cases e; simp only [okE, Elem.cls, Elem.tag, Elem.bytes, Elem.kids] at h ⊢
  exact ⟨h.1, h.2.1, h.2.2.1, h.2.2.2.1, okEs_mem _ h.2.2.2.2⟩

/-! ## What the functions tell -/
def tagOk (e : Elem) : Bool := decide (0 ≤ e.cls ∧ e.cls ≤ 3 ∧ 0 ≤ e.tag ∧ e.tag ≤ 30)
def formOk (e : Elem) : Bool := if e.cons then decide (e.bytes = []) else decide (e.kids.length = 0)
mutual
def eachS (p : Elem → Bool) : Elem → Int → Bool
  | .mk c t k b ks ext, w => decide (w ≥ 20) || (p (.mk c t k b ks ext) && eachSs p ks (w + 1))
def eachSs (p : Elem → Bool) : List Elem → Int → Bool
  | [], _ => true
  | k :: ks, w => eachS p k w && eachSs p ks w
end
mutual
def deepS : Elem → Int → Bool
  | .mk _ _ _ _ ks _, w => decide (w ≥ 20) || deepSs ks (w + 1)
def deepSs : List Elem → Int → Bool
  | [], _ => false
  | k :: ks, w => deepS k w || deepSs ks w
end
mutual
def manyS : Elem → Int
  | .mk _ _ _ _ ks _ => manySs ks 1
def manySs : List Elem → Int → Int
  | [], n => n
  | k :: ks, n => if n ≤ 500 then manySs ks (IntKind.i64.wrap (n + manyS k)) else n
end
mutual
def sizeS : Elem → Nat
  | .mk _ _ _ b ks _ => min (1 + (lenS (min (sizeSs ks b.length) 65537)).length + sizeSs ks b.length) 65537
def sizeSs : List Elem → Nat → Nat
  | [], n => n
  | k :: ks, n => sizeSs ks (min (n + sizeS k) 65537)
end
def firstS (e : Elem) : UInt8 := UInt8.ofNat (64 * e.cls.toNat + e.tag.toNat + if e.cons then 32 else 0)
def sumS : List Elem → Nat
  | [] => 0
  | k :: ks => sizeS k + sumS ks
mutual
def putS : Elem → List UInt8
  | .mk c t k b ks ext => firstS (.mk c t k b ks ext) :: (lenS (b.length + sumS ks) ++ (b ++ putSs ks))
def putSs : List Elem → List UInt8
  | [] => []
  | k :: ks => putS k ++ putSs ks
end
def writeS (e : Elem) : List UInt8 × Int :=
  if !eachS tagOk e 0 then ([], 21) else if !eachS formOk e 0 then ([], 24) else if deepS e 0 then ([], 23) else if sizeS e > 65536 then ([], 2) else (putS e, 0)
mutual
def sameS : Elem → Elem → Bool
  | .mk c t k b ks _, e => decide (c = e.cls) && (decide (t = e.tag) && (decide (k = e.cons) && (decide (b = e.bytes) && sameSs ks e.kids)))
def sameSs : List Elem → List Elem → Bool
  | [], l => l.isEmpty
  | k :: ks, l => match l with
    | [] => false
    | x :: xs => sameS k x && sameSs ks xs
end
def marker : List AV := [.int .i64 0, .int .i64 (-77), .bool false, .str [], .lit (.slice none 0 0)]
mutual
def lentS : Elem → Elem
  | .mk c t k b ks _ => .mk c t k b (lentSs ks) [marker]
def lentSs : List Elem → List Elem
  | [] => []
  | k :: ks => lentS k :: lentSs ks
end

/-! ## The same, by the fields -/
theorem eachS_eta (p : Elem → Bool) (e : Elem) (w : Int) : eachS p e w = (decide (w ≥ 20) || (p e && eachSs p e.kids (w + 1))) := by cases e; simp only [eachS, Elem.kids]
theorem deepS_eta (e : Elem) (w : Int) : deepS e w = (decide (w ≥ 20) || deepSs e.kids (w + 1)) := by cases e; simp only [deepS, Elem.kids]
theorem manyS_eta (e : Elem) : manyS e = manySs e.kids 1 := by cases e; simp only [manyS, Elem.kids]
theorem sizeS_eta (e : Elem) : sizeS e = min (1 + (lenS (min (sizeSs e.kids e.bytes.length) 65537)).length + sizeSs e.kids e.bytes.length) 65537 := by cases e; simp only [sizeS, Elem.kids, Elem.bytes]
theorem putS_eta (e : Elem) : putS e = firstS e :: (lenS (e.bytes.length + sumS e.kids) ++ (e.bytes ++ putSs e.kids)) := by cases e; simp only [putS, Elem.kids, Elem.bytes]
theorem sameS_eta (a e : Elem) : sameS a e = (decide (a.cls = e.cls) && (decide (a.tag = e.tag) && (decide (a.cons = e.cons) && (decide (a.bytes = e.bytes) && sameSs a.kids e.kids)))) := by
  cases a; cases e; simp only [sameS, Elem.kids, Elem.bytes, Elem.cls, Elem.tag, Elem.cons]; rfl

theorem sizeSs_app : ∀ (a : List Elem) (k : Elem) (n : Nat), sizeSs (a ++ [k]) n = min (sizeSs a n + sizeS k) 65537
  | [], k, n => by simp [sizeSs]
  | x :: a, k, n => by simp only [List.cons_append, sizeSs]; exact sizeSs_app a k _
theorem take_succ {ks : List Elem} {i : Nat} {k : Elem} (h : ks[i]? = some k) : ks.take (i + 1) = ks.take i ++ [k] := by
  rw [List.take_add_one, h]; rfl
theorem drop_cons {ks : List Elem} {i : Nat} {k : Elem} (h : ks[i]? = some k) : ks.drop i = k :: ks.drop (i + 1) := by
  have hi := (List.getElem?_eq_some_iff.1 h)
  obtain ⟨hlt, he⟩ := hi
  rw [List.drop_eq_getElem_cons hlt, he]

theorem lenS_length (n : Nat) : (lenS n).length ≤ 4 ∧ 1 ≤ (lenS n).length := by
  unfold lenS kOf; split
  · simp
  · simp only [List.length_cons, beN_length]; split
    · omega
    · split <;> omega
theorem sizeS_le (e : Elem) : sizeS e ≤ 65537 := by rw [sizeS_eta]; exact Nat.min_le_right _ _
theorem sizeSs_le : ∀ (ks : List Elem) (n : Nat), sizeSs ks n ≤ max n 65537
  | [], n => by simp only [sizeSs]; omega
  | k :: ks, n => by simp only [sizeSs]; have := sizeSs_le ks (min (n + sizeS k) 65537); omega
theorem sizeSs_mono : ∀ (ks : List Elem) (n : Nat), 65537 ≤ n → 65537 ≤ sizeSs ks n
  | [], n, h => h
  | k :: ks, n, h => by simp only [sizeSs]; exact sizeSs_mono ks _ (by omega)
theorem sizeSs_sum : ∀ (ks : List Elem) (n : Nat), sizeSs ks n ≤ 65536 → sizeSs ks n = n + sumS ks ∧ ∀ k ∈ ks, sizeS k ≤ 65536
  | [], n, _ => by simp [sizeSs, sumS]
  | k :: ks, n, h => by
    simp only [sizeSs] at h ⊢
    have h1 : n + sizeS k < 65537 := by
      rcases Nat.lt_or_ge (n + sizeS k) 65537 with h1 | h1
      · exact h1
      · have := sizeSs_mono ks (min (n + sizeS k) 65537) (by omega); omega
    have e : min (n + sizeS k) 65537 = n + sizeS k := by omega
    rw [e] at h ⊢
    obtain ⟨a, b⟩ := sizeSs_sum ks _ h
    refine ⟨by rw [a, sumS]; omega, fun x hx => ?_⟩
    rcases List.mem_cons.1 hx with rfl | hx
    · omega
    · exact b x hx
theorem sizeS_sum (e : Elem) (h : sizeS e ≤ 65536) : sizeS e = 1 + (lenS (e.bytes.length + sumS e.kids)).length + (e.bytes.length + sumS e.kids) ∧ (∀ k ∈ e.kids, sizeS k ≤ 65536) ∧ e.bytes.length + sumS e.kids ≤ 65536 := by
  rw [sizeS_eta] at h
  have h1 : sizeSs e.kids e.bytes.length ≤ 65536 := by omega
  obtain ⟨a, b⟩ := sizeSs_sum _ _ h1
  rw [sizeS_eta, a]
  rw [a] at h h1
  have e1 : min (e.bytes.length + sumS e.kids) 65537 = e.bytes.length + sumS e.kids := by omega
  rw [e1] at h ⊢
  exact ⟨by omega, b, by omega⟩
mutual
theorem putS_length : ∀ (e : Elem), sizeS e ≤ 65536 → (putS e).length = sizeS e
  | .mk c t k b ks ext, h => by
    obtain ⟨h1, h2, _⟩ := sizeS_sum _ h
    simp only [Elem.kids, Elem.bytes] at h1 h2
    rw [h1]
    simp only [putS, List.length_cons, List.length_append]
    rw [putSs_length ks h2]; omega
theorem putSs_length : ∀ (ks : List Elem), (∀ k ∈ ks, sizeS k ≤ 65536) → (putSs ks).length = sumS ks
  | [], _ => rfl
  | k :: ks, h => by
    simp only [putSs, sumS, List.length_append]
    rw [putS_length k (h k (by simp)), putSs_length ks fun x hx => h x (by simp [hx])]
end
theorem putSs_app : ∀ (a : List Elem) (k : Elem), putSs (a ++ [k]) = putSs a ++ putS k
  | [], k => by simp [putSs]
  | x :: a, k => by simp only [List.cons_append, putSs, putSs_app a k, List.append_assoc]
theorem sumS_app : ∀ (a : List Elem) (k : Elem), sumS (a ++ [k]) = sumS a + sizeS k
  | [], k => by simp [sumS]
  | x :: a, k => by simp only [List.cons_append, sumS, sumS_app a k]; omega
theorem sumS_take (ks : List Elem) (i : Nat) : sumS (ks.take i) ≤ sumS ks := by
  induction ks generalizing i with
  | nil => simp
  | cons k ks ih => cases i with
    | zero => simp [sumS]
    | succ i => simp only [List.take_succ_cons, sumS]; have := ih i; omega
end Go.Proofs.YtajbeippbabhhaaGreatDoor.Eng

namespace Go.Proofs.YtajbeippbabhhaaGreatDoor.Eng
open Go Go.Proofs.Tryz

theorem c43 (e : Elem) : Pure prog 155 [.agg (encE e)] (.bool (tagOk e)) := by
  refine Pure.of (fun _ _ => by simp only [nm]) fun S => acalls_of_vc low43 (by simp) ?_
  rw [encE_eta]
  have hx := (Ext.refl S).push
  simp -implicitDefEqProofs only [B43, go_sem, reduceIte, Nat.reduceEqDiff, Nat.reduceAdd, Nat.reduceLeDiff, Nat.reduceLT, vc_cond, vcCond, vcGrps_guard, vcGuard, vcD_val, vcD_guard, vcDOut, vcDGuard, vcCond_T, vcCond_F]
  simp only [AEnd.ret.injEq, AV.bool.injEq]
  simp [tagOk, hx]
  grind

theorem c44 (e : Elem) : Pure prog 156 [.agg (encE e)] (.bool (formOk e)) := by
  refine Pure.of (fun _ _ => by simp only [nm]) fun S => acalls_of_vc low44 (by simp) ?_
  rw [encE_eta]
  have hx := (Ext.refl S).push
  simp -implicitDefEqProofs only [B44, encEs_take, encEs_length, go_sem, reduceIte, Nat.reduceEqDiff, Nat.reduceAdd, Nat.reduceLeDiff, Nat.reduceLT, vc_cond, vcCond, vcGrps_guard, vcGuard, vcD_val, vcD_guard, vcDOut, vcDGuard, vcCond_T, vcCond_F]
  refine ⟨fun h => ⟨by simp [formOk, h], hx _⟩, fun h _ => ⟨by simp [formOk, h], hx _⟩⟩

theorem has43 : hasBody prog 155 = true := by kernel_rfl
theorem has44 : hasBody prog 156 = true := by kernel_rfl

theorem eachSs_mem (p : Elem → Bool) (ks : List Elem) (w : Int) (i : Nat) (k : Elem) (h : ks[i]? = some k) (hk : eachS p k w = false) : eachSs p ks w = false := by
  induction ks generalizing i with
  | nil => simp at h
  | cons x xs ih =>
    cases i with
    | zero => simp at h; subst h; simp [eachSs, hk]
    | succ i => simp at h; simp [eachSs, ih i h]
theorem eachSs_app (p : Elem → Bool) : ∀ (a : List Elem) (k : Elem) (w : Int), eachSs p (a ++ [k]) w = (eachSs p a w && eachS p k w)
  | [], k, w => by simp [eachSs]
  | x :: a, k, w => by simp only [List.cons_append, eachSs, eachSs_app p a k w, Bool.and_assoc]

theorem c42 (f : Nat) (p : Elem → Bool) (hf : hasBody prog f = true) (hp : ∀ e, Pure prog f [.agg (encE e)] (.bool (p e))) : ∀ (e : Elem) (w : Int), 0 ≤ w → Pure prog 154 [.agg (encE e), .int .i64 w, .fn (.func f) []] (.bool (eachS p e w)) := by
  intro e
  induction e using Elem.ind with
  | h e ih =>
  intro w hw
  refine Pure.of (fun _ _ => by simp only [nm]) fun S => acalls_of_vc low42 (by simp) ?_
  rw [eachS_eta]
  have hx := (Ext.refl S).push
  simp -implicitDefEqProofs only [B42, hf, List.append_nil, encE_length, encE_take5, encE_drop4, encEs_take, encEs_length, go_sem, reduceIte, Nat.reduceEqDiff, Nat.reduceAdd, Nat.reduceLeDiff, Nat.reduceLT, vc_cond, vcCond, vcGrps_guard, vcGuard, vcD_val, vcD_guard, vcDOut, vcDGuard, vcCond_T, vcCond_F]
  refine ⟨fun h => ⟨by simp [h], hx _⟩, fun h20 => ?_⟩
  refine (hp e).use ?_
  simp -implicitDefEqProofs only [hf, List.append_nil, encE_length, encE_take5, encE_drop4, encEs_take, encEs_length, go_sem, reduceIte, Nat.reduceEqDiff, Nat.reduceAdd, Nat.reduceLeDiff, Nat.reduceLT, vc_cond, vcCond, vcGrps_guard, vcGuard, vcD_val, vcD_guard, vcDOut, vcDGuard, vcCond_T, vcCond_F]
  refine ⟨fun h => ⟨by simp at h20; simp [h, h20], hx _⟩, fun hpe hlen => ?_⟩
  refine vc_loop (fun n fr S' => ∃ i, i + n = e.kids.length ∧ fr 1 = .int .i64 w ∧ fr 2 = .fn (.func f) [] ∧ fr 16 = .sl 5 (encEs e.kids ++ e.ext) e.kids.length ∧ fr 17 = .int .i64 e.kids.length ∧ fr 18 = .int .i64 i ∧ Ext S S' ∧ eachSs p (e.kids.take i) (w + 1) = true) e.kids.length
    ⟨0, by simp, rfl, rfl, rfl, rfl, rfl, hx _, rfl⟩ ?_
  rintro n fr S' ⟨i, hin, f1, f2, f10, f11, f12, hS, hd⟩
  by_cases hlt : i < e.kids.length
  · obtain ⟨k, hk⟩ : ∃ k, e.kids[i]? = some k := ⟨_, List.getElem?_eq_getElem hlt⟩
    have hkm : k ∈ e.kids := List.mem_of_getElem? hk
    have hat := encEs_at e.kids e.ext i k hk
    have h0 : (0 : Int) ≤ i := by omega
    have hlt' : (i : Int) < e.kids.length := by omega
    unfold lenMax at hlen
    have hw1 : IntKind.i64.wrap (w + 1) = w + 1 := w64 _ (by omega) (by omega)
    have hi1 : IntKind.i64.wrap ((i : Int) + 1) = i + 1 := w64 _ (by omega) (by omega)
    simp -implicitDefEqProofs only [f1, f2, f10, f11, f12, hlt, hlt', h0, hat, hw1, hi1, encE_length, encE_take5, splice_encE, decide_true, go_sem, reduceIte, Nat.reduceEqDiff, Nat.reduceAdd, Nat.reduceLeDiff, Nat.reduceLT, vc_cond, vcCond, vcGrps_guard, vcGuard, vcD_val, vcD_guard, vcDOut, vcDGuard, vcCond_T, vcCond_F]
    refine (ih k hkm _ (by omega)).use ?_
    simp -implicitDefEqProofs only [f1, f2, f10, f11, f12, hi1, go_sem, reduceIte, Nat.reduceEqDiff, Nat.reduceAdd, Nat.reduceLeDiff, Nat.reduceLT, vc_cond, vcCond, vcGrps_guard, vcGuard, vcD_val, vcD_guard, vcDOut, vcDGuard, vcCond_T, vcCond_F]
    refine ⟨fun h => ⟨by rw [eachSs_mem _ _ _ _ _ hk h]; simp at h20; simp [h20], (hS.push _).set _ _ hS.n⟩, fun h => ⟨n - 1, by omega, i + 1, by omega, by simp, (hS.push _).set _ _ hS.n, by rw [take_succ hk, eachSs_app, hd, h]; rfl⟩⟩
  · have hlt' : ¬ (i : Int) < e.kids.length := by omega
    have hi : i = e.kids.length := by omega
    simp -implicitDefEqProofs only [f1, f10, f11, f12, hlt', decide_false, go_sem, reduceIte, Nat.reduceEqDiff, Nat.reduceAdd, Nat.reduceLeDiff, Nat.reduceLT, vc_cond, vcCond, vcGrps_guard, vcGuard, vcD_val, vcD_guard, vcDOut, vcDGuard, vcCond_T, vcCond_F]
    rw [hi, List.take_length] at hd
    exact ⟨by rw [hd]; simp at h20; simp [h20, hpe], hS⟩

theorem deepSs_mem (ks : List Elem) (w : Int) (i : Nat) (k : Elem) (h : ks[i]? = some k) (hk : deepS k w = true) : deepSs ks w = true := by
  induction ks generalizing i with
  | nil => simp at h
  | cons x xs ih =>
    cases i with
    | zero => simp at h; subst h; simp [deepSs, hk]
    | succ i => simp at h; simp [deepSs, ih i h]
theorem deepSs_app : ∀ (a : List Elem) (k : Elem) (w : Int), deepSs (a ++ [k]) w = (deepSs a w || deepS k w)
  | [], k, w => by simp [deepSs]
  | x :: a, k, w => by simp only [List.cons_append, deepSs, deepSs_app a k w, Bool.or_assoc]

theorem c45 : ∀ (e : Elem) (w : Int), 0 ≤ w → Pure prog 157 [.agg (encE e), .int .i64 w] (.bool (deepS e w)) := by
  intro e
  induction e using Elem.ind with
  | h e ih =>
  intro w hw
  refine Pure.of (fun _ _ => by simp only [nm]) fun S => acalls_of_vc low45 (by simp) ?_
  rw [encE_eta, deepS_eta]
  have hx := (Ext.refl S).push
  simp -implicitDefEqProofs only [B45, encEs_take, encEs_length, go_sem, reduceIte, Nat.reduceEqDiff, Nat.reduceAdd, Nat.reduceLeDiff, Nat.reduceLT, vc_cond, vcCond, vcGrps_guard, vcGuard, vcD_val, vcD_guard, vcDOut, vcDGuard, vcCond_T, vcCond_F]
  refine ⟨fun h => ⟨by simp [h], hx _⟩, fun h20 hlen => ?_⟩
  refine vc_loop (fun n fr S' => ∃ i, i + n = e.kids.length ∧ fr 1 = .int .i64 w ∧ fr 10 = .sl 5 (encEs e.kids ++ e.ext) e.kids.length ∧ fr 11 = .int .i64 e.kids.length ∧ fr 12 = .int .i64 i ∧ Ext S S' ∧ deepSs (e.kids.take i) (w + 1) = false) e.kids.length ⟨0, by simp, rfl, rfl, rfl, rfl, hx _, rfl⟩ ?_
  rintro n fr S' ⟨i, hin, f1, f10, f11, f12, hS, hd⟩
  by_cases hlt : i < e.kids.length
  · obtain ⟨k, hk⟩ : ∃ k, e.kids[i]? = some k := ⟨_, List.getElem?_eq_getElem hlt⟩
    have hkm : k ∈ e.kids := List.mem_of_getElem? hk
    have hat := encEs_at e.kids e.ext i k hk
    have h0 : (0 : Int) ≤ i := by omega
    have hlt' : (i : Int) < e.kids.length := by omega
    unfold lenMax at hlen
    have hw1 : IntKind.i64.wrap (w + 1) = w + 1 := w64 _ (by omega) (by omega)
    have hi1 : IntKind.i64.wrap ((i : Int) + 1) = i + 1 := w64 _ (by omega) (by omega)
    simp -implicitDefEqProofs only [f1, f10, f11, f12, hlt, hlt', h0, hat, hw1, hi1, encE_length, encE_take5, splice_encE, decide_true, go_sem, reduceIte, Nat.reduceEqDiff, Nat.reduceAdd, Nat.reduceLeDiff, Nat.reduceLT, vc_cond, vcCond, vcGrps_guard, vcGuard, vcD_val, vcD_guard, vcDOut, vcDGuard, vcCond_T, vcCond_F]
    refine (ih k hkm _ (by omega)).use ?_
    simp -implicitDefEqProofs only [f1, f10, f11, f12, hi1, go_sem, reduceIte, Nat.reduceEqDiff, Nat.reduceAdd, Nat.reduceLeDiff, Nat.reduceLT, vc_cond, vcCond, vcGrps_guard, vcGuard, vcD_val, vcD_guard, vcDOut, vcDGuard, vcCond_T, vcCond_F]
    refine ⟨fun h => ⟨by rw [deepSs_mem _ _ _ _ hk h]; simp, (hS.push _).set _ _ hS.n⟩, fun h => ⟨n - 1, by omega, i + 1, by omega, by simp, (hS.push _).set _ _ hS.n, by rw [take_succ hk, deepSs_app, hd, h]; rfl⟩⟩
  · have hlt' : ¬ (i : Int) < e.kids.length := by omega
    have hi : i = e.kids.length := by omega
    simp -implicitDefEqProofs only [f1, f10, f11, f12, hlt', decide_false, go_sem, reduceIte, Nat.reduceEqDiff, Nat.reduceAdd, Nat.reduceLeDiff, Nat.reduceLT, vc_cond, vcCond, vcGrps_guard, vcGuard, vcD_val, vcD_guard, vcDOut, vcDGuard, vcCond_T, vcCond_F]
    rw [hi, List.take_length] at hd
    exact ⟨by rw [hd]; simp at h20; simp [h20], hS⟩

theorem manySs_stop (ks : List Elem) (n : Int) (h : ¬ n ≤ 500) : manySs ks n = n := by cases ks <;> simp [manySs, h]

end Go.Proofs.YtajbeippbabhhaaGreatDoor.Eng

namespace Go.Proofs.YtajbeippbabhhaaGreatDoor.Eng
open Go Go.Proofs.Tryz

theorem minV_nat (a b : Nat) : (if (b : Int) < a then (b : Int) else a) = ((min a b : Nat) : Int) := by split <;> omega
theorem minV_k (a : Nat) : (if (65537 : Int) < a then (65537 : Int) else a) = ((min a 65537 : Nat) : Int) := by split <;> omega

theorem c46 : ∀ (e : Elem), okE e → Pure prog 158 [.agg (encE e)] (.int .i64 (sizeS e)) := by
  intro e
  induction e using Elem.ind with
  | h e ih =>
  intro hok
  obtain ⟨_, _, hbl, hkl, hks⟩ := okE_eta hok
  unfold maxB at hbl hkl
  refine Pure.of (fun _ _ => by simp only [nm]) fun S => acalls_of_vc low46 (by simp) ?_
  rw [encE_eta, sizeS_eta]
  have hx := (Ext.refl S).push
  simp -implicitDefEqProofs only [B46, encEs_take, encEs_length, go_sem, reduceIte, Nat.reduceEqDiff, Nat.reduceAdd, Nat.reduceLeDiff, Nat.reduceLT, vc_cond, vcCond, vcGrps_guard, vcGuard, vcD_val, vcD_guard, vcDOut, vcDGuard, vcCond_T, vcCond_F]
  intro _ hlen
  refine vc_loop (fun n fr S' => ∃ i c, i + n = e.kids.length ∧ c ≤ maxB + 65537 ∧ fr 3 = .int .i64 (c : Nat) ∧ fr 10 = .sl 5 (encEs e.kids ++ e.ext) e.kids.length ∧ fr 11 = .int .i64 e.kids.length ∧ fr 12 = .int .i64 i ∧ Ext S S' ∧ sizeSs (e.kids.take i) e.bytes.length = c) e.kids.length
    ⟨0, e.bytes.length, by simp, by unfold maxB; omega, rfl, rfl, rfl, rfl, hx _, rfl⟩ ?_
  rintro n fr S' ⟨i, c, hin, hcb, f3, f10, f11, f12, hS, hd⟩
  unfold maxB at hcb
  by_cases hlt : i < e.kids.length
  · obtain ⟨k, hk⟩ : ∃ k, e.kids[i]? = some k := ⟨_, List.getElem?_eq_getElem hlt⟩
    have hkm : k ∈ e.kids := List.mem_of_getElem? hk
    have hat := encEs_at e.kids e.ext i k hk
    have h0 : (0 : Int) ≤ i := by omega
    have hlt' : (i : Int) < e.kids.length := by omega
    unfold lenMax at hlen
    have hsz := sizeS_le k
    have hi1 : IntKind.i64.wrap ((i : Int) + 1) = i + 1 := w64 _ (by omega) (by omega)
    have hs1 : IntKind.i64.wrap ((c : Int) + (sizeS k : Nat)) = ((c + sizeS k : Nat) : Int) := by rw [w64 _ (by omega) (by omega)]; push_cast; rfl
    simp -implicitDefEqProofs only [f3, f10, f11, f12, hlt, hlt', h0, hat, hi1, encE_length, encE_take5, splice_encE, decide_true, go_sem, reduceIte, Nat.reduceEqDiff, Nat.reduceAdd, Nat.reduceLeDiff, Nat.reduceLT, vc_cond, vcCond, vcGrps_guard, vcGuard, vcD_val, vcD_guard, vcDOut, vcDGuard, vcCond_T, vcCond_F]
    refine (ih k hkm (hks k hkm)).use ?_
    simp -implicitDefEqProofs only [f3, f10, f11, f12, hi1, hs1, minV_k, go_sem, reduceIte, Nat.reduceEqDiff, Nat.reduceAdd, Nat.reduceLeDiff, Nat.reduceLT, vc_cond, vcCond, vcGrps_guard, vcGuard, vcD_val, vcD_guard, vcDOut, vcDGuard, vcCond_T, vcCond_F]
    refine ⟨n - 1, by omega, i + 1, min (c + sizeS k) 65537, by omega, by unfold maxB; omega, rfl, by simp, (hS.push _).set _ _ hS.n, ?_⟩
    rw [take_succ hk, sizeSs_app, hd]
  · have hlt' : ¬ (i : Int) < e.kids.length := by omega
    have hi : i = e.kids.length := by omega
    rw [hi, List.take_length] at hd
    simp -implicitDefEqProofs only [f3, f10, f11, f12, hlt', minV_k, decide_false, go_sem, reduceIte, Nat.reduceEqDiff, Nat.reduceAdd, Nat.reduceLeDiff, Nat.reduceLT, vc_cond, vcCond, vcGrps_guard, vcGuard, vcD_val, vcD_guard, vcDOut, vcDGuard, vcCond_T, vcCond_F]
    refine (c64 (min c 65537) (by omega)).use ?_
    have hll := lenS_length (min c 65537)
    have ha : IntKind.i64.wrap (1 + ((lenS (min c 65537)).length : Int)) = ((1 + (lenS (min c 65537)).length : Nat) : Int) := by rw [w64 _ (by omega) (by omega)]; push_cast; rfl
    have hb : IntKind.i64.wrap (((1 + (lenS (min c 65537)).length : Nat) : Int) + c) = ((1 + (lenS (min c 65537)).length + c : Nat) : Int) := by rw [w64 _ (by omega) (by omega)]; push_cast; rfl
    simp -implicitDefEqProofs only [f3, f10, f11, f12, ha, hb, minV_k, go_sem, reduceIte, Nat.reduceEqDiff, Nat.reduceAdd, Nat.reduceLeDiff, Nat.reduceLT, vc_cond, vcCond, vcGrps_guard, vcGuard, vcD_val, vcD_guard, vcDOut, vcDGuard, vcCond_T, vcCond_F]
    intro _
    exact ⟨by rw [hd], hS⟩
end Go.Proofs.YtajbeippbabhhaaGreatDoor.Eng

namespace Go.Proofs.YtajbeippbabhhaaGreatDoor.Eng
open Go Go.Proofs.Tryz

mutual
def allTag : Elem → Bool
  | .mk c t k b ks ext => tagOk (.mk c t k b ks ext) && allTags ks
def allTags : List Elem → Bool
  | [] => true
  | k :: ks => allTag k && allTags ks
end
theorem allTags_mem : ∀ (ks : List Elem), allTags ks = true → ∀ k ∈ ks, allTag k = true
  | [], _, k, h => by simp at h
  | x :: ks, h, k, hk => by
    simp only [allTags, Bool.and_eq_true] at h
    rcases List.mem_cons.1 hk with rfl | hk
    · exact h.1
    · exact allTags_mem ks h.2 k hk
theorem allTag_eta {e : Elem} (h : allTag e = true) : tagOk e = true ∧ ∀ k ∈ e.kids, allTag k = true := by
  cases e; simp only [allTag, Bool.and_eq_true, Elem.kids] at h ⊢
  exact ⟨h.1, allTags_mem _ h.2⟩

theorem or_first : ∀ (c : Fin 4) (t : Fin 31), IntKind.i64.wrap ((c.val : Int) * 2 ^ min (6 : Int).toNat (bitsA .i64)) = 64 * c.val ∧
    IntKind.i64.wrap ((BitVec.ofInt (bitsA .i64) (64 * c.val) ||| BitVec.ofInt (bitsA .i64) t.val).toNat : Int) = ((64 * c.val + t.val : Nat) : Int) ∧
    IntKind.i64.wrap ((BitVec.ofInt (bitsA .i64) ((64 * c.val + t.val : Nat) : Int) ||| BitVec.ofInt (bitsA .i64) 32).toNat : Int) = ((64 * c.val + t.val + 32 : Nat) : Int) := by decide

theorem c47 : ∀ (e : Elem), okE e → allTag e = true → sizeS e ≤ 65536 → ∀ (m : Nat) (S : Store) (l : Nat) (bs : List UInt8), BS m S l bs → m ≤ S.n → bs.length + sizeS e ≤ 1048576 →
    ACalls prog 159 [.ptr l 0, .agg (encE e)] S fun r S' => r = .ret (.tup []) ∧ BS m S' l (bs ++ putS e) ∧ Low m l S S' := by
  intro e
  induction e using Elem.ind with
  | h e ih =>
  intro hok htag hsize m S l bs hbs hm hbl
  obtain ⟨_, _, hbl', hkl, hks⟩ := okE_eta hok
  obtain ⟨htag, htags⟩ := allTag_eta htag
  obtain ⟨hsum, hsk, hcl⟩ := sizeS_sum e hsize
  unfold maxB at hbl' hkl
  have hfirst : ∃ c t : Nat, e.cls = c ∧ e.tag = t ∧ c < 4 ∧ t < 31 := by
    simp only [tagOk, decide_eq_true_eq] at htag
    exact ⟨e.cls.toNat, e.tag.toNat, by omega, by omega, by omega, by omega⟩
  obtain ⟨c, t, hc, ht, hc4, ht31⟩ := hfirst
  obtain ⟨o1, o2, o3⟩ := or_first ⟨c, hc4⟩ ⟨t, ht31⟩
  simp only at o1 o2 o3
  refine ACalls.wf fun hwf _ => acalls_of_vc low47 (by simp) ?_
  have hlS : l < S.n := hbs.2.1
  have hln : l ≠ S.n := by omega
  have h06 : ¬ ((6 : Int) < 0) := by decide
  have hff : firstS e = UInt8.ofNat (64 * c + t + if e.cons then 32 else 0) := by unfold firstS; rw [hc, ht]; simp
  rw [putS_eta, encE_eta, hc, ht]
  have hbox : ∀ (x : AV), (S.push (.box 68 [.int .i64 c, .int .i64 t, x, .str e.bytes, .sl 5 (encEs e.kids ++ e.ext) e.kids.length])).get S.n = some (.box 68 [.int .i64 c, .int .i64 t, x, .str e.bytes, .sl 5 (encEs e.kids ++ e.ext) e.kids.length]) := fun x => Store.get_push_same _ _
  cases hcons : e.cons
  all_goals
    simp -implicitDefEqProofs only [B47, ashift, o1, o2, o3, h06, encEs_take, encEs_length, go_sem, reduceIte, Nat.reduceEqDiff, Nat.reduceAdd, Nat.reduceLeDiff, Nat.reduceLT, vc_cond, vcCond, vcGrps_guard, vcGuard, vcD_val, vcD_guard, vcDOut, vcDGuard, vcCond_T, vcCond_F]
    intro _ hlen
    unfold lenMax at hlen
    refine vc_loop (fun n fr S' => ∃ i f, i + n = e.kids.length ∧ UInt8.ofNat f = firstS e ∧ fr 0 = .ptr l 0 ∧ fr 3 = .ptr S.n 0 ∧ fr 4 = .int .i64 (f : Nat) ∧ fr 5 = .int .i64 ((e.bytes.length + sumS (e.kids.take i) : Nat) : Int) ∧
      fr 24 = .sl 5 (encEs e.kids ++ e.ext) e.kids.length ∧ fr 25 = .int .i64 e.kids.length ∧ fr 26 = .int .i64 i ∧
      (∃ x, S'.get S.n = some (.box 68 [.int .i64 c, .int .i64 t, x, .str e.bytes, .sl 5 (encEs e.kids ++ e.ext) e.kids.length])) ∧ Ext S S' ∧ S.n < S'.n ∧ ∀ j o, S'.get j = some o → (∃ o', S.get j = some o') ∨ j < S'.n) e.kids.length
      ⟨0, 64 * c + t + (if e.cons then 32 else 0), by simp, by rw [hff], rfl, rfl, by simp [upd_apply, hcons] <;> omega, by simp [upd_apply, sumS], rfl, rfl, rfl, ⟨_, hbox _⟩, (Ext.refl S).push _, by rw [Store.n_push]; omega, fun j o h => by
        rw [Store.get_push] at h
        by_cases ej : j = S.n
        · subst ej; exact .inr (by rw [Store.n_push]; omega)
        · rw [if_neg ej] at h; exact .inl ⟨o, h⟩⟩ ?_
    rintro n fr S' ⟨i, f, hin, hf, f0, f3, f4, f5, f24, f25, f26, ⟨x, hx⟩, hS, hSn, hSb⟩
    by_cases hlt : i < e.kids.length
    · obtain ⟨k, hk⟩ : ∃ k, e.kids[i]? = some k := ⟨_, List.getElem?_eq_getElem hlt⟩
      have hkm : k ∈ e.kids := List.mem_of_getElem? hk
      have hat := encEs_at e.kids e.ext i k hk
      have h0 : (0 : Int) ≤ i := by omega
      have hlt' : (i : Int) < e.kids.length := by omega
      have hi1 : IntKind.i64.wrap ((i : Int) + 1) = i + 1 := w64 _ (by omega) (by omega)
      have hsz := sizeS_le k
      have hst := sumS_take e.kids i
      have hs1 : IntKind.i64.wrap (((e.bytes.length + sumS (e.kids.take i) : Nat) : Int) + (sizeS k : Nat)) = ((e.bytes.length + sumS (e.kids.take i) + sizeS k : Nat) : Int) := by rw [w64 _ (by omega) (by omega)]; push_cast; rfl
      simp -implicitDefEqProofs only [f0, f3, f4, f5, f24, f25, f26, hlt, hlt', h0, hat, hi1, encE_length, encE_take5, splice_encE, decide_true, go_sem, reduceIte, Nat.reduceEqDiff, Nat.reduceAdd, Nat.reduceLeDiff, Nat.reduceLT, vc_cond, vcCond, vcGrps_guard, vcGuard, vcD_val, vcD_guard, vcDOut, vcDGuard, vcCond_T, vcCond_F]
      refine (c46 k (hks k hkm)).use ?_
      have hne2 : ¬ S.n = S'.n := by omega
      simp -implicitDefEqProofs only [f0, f3, f4, f5, f24, f25, f26, hi1, hs1, hne2, go_sem, reduceIte, Nat.reduceEqDiff, Nat.reduceAdd, Nat.reduceLeDiff, Nat.reduceLT, vc_cond, vcCond, vcGrps_guard, vcGuard, vcD_val, vcD_guard, vcDOut, vcDGuard, vcCond_T, vcCond_F]
      exact ⟨n - 1, by omega, i + 1, f, by omega, hf, rfl, by rw [take_succ hk, sumS_app], by simp, ⟨x, hx⟩, (hS.push _).set _ _ hS.n, by omega, fun j o h => by
        by_cases ej : j = S'.n
        · subst ej; exact .inr (by simp)
        · simp only [ej, if_false] at h
          rcases hSb j o h with h' | h'
          · exact .inl h'
          · exact .inr (by omega)⟩
    · have hlt' : ¬ (i : Int) < e.kids.length := by omega
      have hi : i = e.kids.length := by omega
      rw [hi, List.take_length] at f5
      simp -implicitDefEqProofs only [f0, f3, f4, f5, f24, f25, f26, hlt', w8, decide_false, go_sem, reduceIte, Nat.reduceEqDiff, Nat.reduceAdd, Nat.reduceLeDiff, Nat.reduceLT, vc_cond, vcCond, vcGrps_guard, vcGuard, vcD_val, vcD_guard, vcDOut, vcDGuard, vcCond_T, vcCond_F]
      have hS1 : Low m l S S' := ⟨hS.n, fun j hj _ => hS.get j (by omega), fun j t cs _ h => by rw [hS.get j (hwf j _ h).1]; exact h, hSb⟩
      have hbs1 : BS m S' l bs := hbs.grow hS.n hS.get
      rw [hf]
      refine (c65 m S' l bs (firstS e) hbs1 (by omega) (by omega)).mono ?_
      rintro r S2 ⟨⟨y, rfl⟩, hbs2, hL2⟩
      simp -implicitDefEqProofs only [f0, f3, f4, f5, f24, f25, f26, go_sem, reduceIte, Nat.reduceEqDiff, Nat.reduceAdd, Nat.reduceLeDiff, Nat.reduceLT, vc_cond, vcCond, vcGrps_guard, vcGuard, vcD_val, vcD_guard, vcDOut, vcDGuard, vcCond_T, vcCond_F]
      refine (c64 (e.bytes.length + sumS e.kids) (by omega)).use ?_
      simp -implicitDefEqProofs only [f0, f3, f4, f5, f24, f25, f26, go_sem, reduceIte, Nat.reduceEqDiff, Nat.reduceAdd, Nat.reduceLeDiff, Nat.reduceLT, vc_cond, vcCond, vcGrps_guard, vcGuard, vcD_val, vcD_guard, vcDOut, vcDGuard, vcCond_T, vcCond_F]
      refine (c66 m S2 l _ (lenS (e.bytes.length + sumS e.kids)) hbs2 (by have := hL2.n; omega) (by simp only [List.length_append, List.length_cons, List.length_nil]; omega)).mono ?_
      rintro r S3 ⟨⟨y, rfl⟩, hbs3, hL3⟩
      have hx3 := hL3.box _ _ _ (Ne.symm hln) (hL2.box _ _ _ (Ne.symm hln) hx)
      simp -implicitDefEqProofs only [f0, f3, f4, f5, f24, f25, f26, hx3, go_sem, reduceIte, Nat.reduceEqDiff, Nat.reduceAdd, Nat.reduceLeDiff, Nat.reduceLT, vc_cond, vcCond, vcGrps_guard, vcGuard, vcD_val, vcD_guard, vcDOut, vcDGuard, vcCond_T, vcCond_F]
      refine (c66 m S3 l _ e.bytes hbs3 (by have := hL2.n; have := hL3.n; omega) (by simp only [List.length_append, List.length_cons, List.length_nil]; omega)).mono ?_
      rintro r S4 ⟨⟨y, rfl⟩, hbs4, hL4⟩
      have hx4 := hL4.box _ _ _ (Ne.symm hln) hx3
      simp -implicitDefEqProofs only [f0, f3, f4, f5, f24, f25, f26, hx4, encEs_take, encEs_length, go_sem, reduceIte, Nat.reduceEqDiff, Nat.reduceAdd, Nat.reduceLeDiff, Nat.reduceLT, vc_cond, vcCond, vcGrps_guard, vcGuard, vcD_val, vcD_guard, vcDOut, vcDGuard, vcCond_T, vcCond_F]
      intro _
      have hL : Low m l S S4 := (hS1.trans hL2).trans (hL3.trans hL4)
      refine vc_loop (fun n fr S' => ∃ i, i + n = e.kids.length ∧ fr 0 = .ptr l 0 ∧ fr 48 = .sl 5 (encEs e.kids ++ e.ext) e.kids.length ∧ fr 49 = .int .i64 e.kids.length ∧ fr 50 = .int .i64 i ∧
        BS m S' l (bs ++ [firstS e] ++ lenS (e.bytes.length + sumS e.kids) ++ e.bytes ++ putSs (e.kids.take i)) ∧ Low m l S S') e.kids.length
        ⟨0, by simp, by simp [upd_apply, f0], rfl, rfl, rfl, by simpa [putSs] using hbs4, hL⟩ ?_
      clear f0 f3 f4 f5 f24 f25 f26 hin hlt' hlt hbs1 hbs2 hbs3 hbs4 hi hf hS hSn hx hx3 hx4 hS1 hL2 hL3 hL4 hL
      rintro n fr S' ⟨i, hin, f0, f48, f49, f50, hB, hL⟩
      by_cases hlt : i < e.kids.length
      · obtain ⟨k, hk⟩ : ∃ k, e.kids[i]? = some k := ⟨_, List.getElem?_eq_getElem hlt⟩
        have hkm : k ∈ e.kids := List.mem_of_getElem? hk
        have hat := encEs_at e.kids e.ext i k hk
        have h0 : (0 : Int) ≤ i := by omega
        have hlt' : (i : Int) < e.kids.length := by omega
        have hi1 : IntKind.i64.wrap ((i : Int) + 1) = i + 1 := w64 _ (by omega) (by omega)
        simp -implicitDefEqProofs only [f0, f48, f49, f50, hlt, hlt', h0, hat, hi1, encE_length, encE_take5, splice_encE, decide_true, go_sem, reduceIte, Nat.reduceEqDiff, Nat.reduceAdd, Nat.reduceLeDiff, Nat.reduceLT, vc_cond, vcCond, vcGrps_guard, vcGuard, vcD_val, vcD_guard, vcDOut, vcDGuard, vcCond_T, vcCond_F]
        have hst : sumS (e.kids.take i) + sizeS k ≤ sumS e.kids := by
          have := sumS_take e.kids (i + 1)
          rw [take_succ hk, sumS_app] at this; exact this
        have hpl := putSs_length (e.kids.take i) fun x hx => hsk x (List.mem_of_mem_take hx)
        refine (ih k hkm (hks k hkm) (htags k hkm) (hsk k hkm) m _ l _ (hB.grow (by simp [Store.n_set, Store.n_push]) fun j hj => by rw [Store.get_set_ne _ _ (by omega), Store.get_push_ne _ _ (by omega)]) (by rw [Store.n_set, Store.n_push]; have := hL.n; omega) (by simp only [List.length_append, List.length_cons, List.length_nil]; omega)).mono ?_
        rintro r S2 ⟨rfl, hB2, hL2⟩
        simp -implicitDefEqProofs only [f0, f48, f49, f50, hi1, go_sem, reduceIte, Nat.reduceEqDiff, Nat.reduceAdd, Nat.reduceLeDiff, Nat.reduceLT, vc_cond, vcCond, vcGrps_guard, vcGuard, vcD_val, vcD_guard, vcDOut, vcDGuard, vcCond_T, vcCond_F]
        have hL1 : Low m l S' ((S'.push (.box 68 [.int .i64 0, .int .i64 0, .bool false, .str [], .lit (.slice none 0 0)])).set S'.n (some (.box 68 (encE k)))) := by
          refine ⟨by simp [Store.n_set, Store.n_push], fun j hj _ => by rw [Store.get_set_ne _ _ (by have := hL.n; omega), Store.get_push_ne _ _ (by have := hL.n; omega)], fun j t cs _ h => ?_, fun j o h => ?_⟩
          · have hj := hL.bound hwf.lt j _ h
            rw [Store.get_set_ne _ _ (by omega), Store.get_push_ne _ _ (by omega)]; exact h
          · rw [Store.get_set, Store.get_push] at h
            by_cases ej : j = S'.n
            · subst ej; exact .inr (by rw [Store.n_set, Store.n_push]; omega)
            · rw [if_neg ej, if_neg ej] at h; exact .inl ⟨o, h⟩
        exact ⟨n - 1, by omega, i + 1, by omega, by simp, by rw [take_succ hk, putSs_app]; simpa using hB2, hL.trans (hL1.trans hL2)⟩
      · have hlt' : ¬ (i : Int) < e.kids.length := by omega
        have hi : i = e.kids.length := by omega
        rw [hi, List.take_length] at hB
        simp -implicitDefEqProofs only [f0, f48, f49, f50, hlt', decide_false, go_sem, reduceIte, Nat.reduceEqDiff, Nat.reduceAdd, Nat.reduceLeDiff, Nat.reduceLT, vc_cond, vcCond, vcGrps_guard, vcGuard, vcD_val, vcD_guard, vcDOut, vcDGuard, vcCond_T, vcCond_F]
        refine ⟨?_, hL⟩
        simpa using hB
end Go.Proofs.YtajbeippbabhhaaGreatDoor.Eng

namespace Go.Proofs.YtajbeippbabhhaaGreatDoor.Eng
open Go Go.Proofs.Tryz
mutual
theorem allTag_of : ∀ (e : Elem) (w : Int), eachS tagOk e w = true → deepS e w = false → allTag e = true
  | .mk c t k b ks ext, w, h, hd => by
    simp only [eachS, deepS, Bool.or_eq_true, Bool.or_eq_false_iff, decide_eq_true_eq, decide_eq_false_iff_not, Bool.and_eq_true] at h hd
    rcases h with h | h
    · exact absurd h hd.1
    · simp only [allTag, Bool.and_eq_true]; exact ⟨h.1, allTags_of ks (w + 1) h.2 hd.2⟩
theorem allTags_of : ∀ (ks : List Elem) (w : Int), eachSs tagOk ks w = true → deepSs ks w = false → allTags ks = true
  | [], w, h, hd => rfl
  | k :: ks, w, h, hd => by
    simp only [eachSs, deepSs, Bool.or_eq_false_iff, Bool.and_eq_true] at h hd
    simp only [allTags, Bool.and_eq_true]; exact ⟨allTag_of k w h.1 hd.1, allTags_of ks w h.2 hd.2⟩
end
theorem putS_ne (e : Elem) : putS e ≠ [] := by rw [putS_eta]; simp

theorem c15 (e : Elem) (hok : okE e) : Pure prog 34 [.agg (encE e)] (.tup [.str (writeS e).1, .int .i64 (writeS e).2]) := by
  refine Pure.of (fun _ _ => by simp only [nm, nmL, and_self]) fun S => acalls_of_vc low15 (by simp) ?_
  have hx := (Ext.refl S).push
  simp -implicitDefEqProofs only [B15, encE_length, encE_take5, go_sem, reduceIte, Nat.reduceEqDiff, Nat.reduceAdd, Nat.reduceLeDiff, Nat.reduceLT, vc_cond, vcCond, vcGrps_guard, vcGuard, vcD_val, vcD_guard, vcDOut, vcDGuard, vcCond_T, vcCond_F]
  refine (c42 155 tagOk has43 c43 e 0 (by omega)).use ?_
  simp -implicitDefEqProofs only [encE_length, encE_take5, go_sem, reduceIte, Nat.reduceEqDiff, Nat.reduceAdd, Nat.reduceLeDiff, Nat.reduceLT, vc_cond, vcCond, vcGrps_guard, vcGuard, vcD_val, vcD_guard, vcDOut, vcDGuard, vcCond_T, vcCond_F]
  refine ⟨fun h => ⟨by simp [writeS, h], hx _⟩, fun h1 => ?_⟩
  refine (c42 156 formOk has44 c44 e 0 (by omega)).use ?_
  simp -implicitDefEqProofs only [encE_length, encE_take5, go_sem, reduceIte, Nat.reduceEqDiff, Nat.reduceAdd, Nat.reduceLeDiff, Nat.reduceLT, vc_cond, vcCond, vcGrps_guard, vcGuard, vcD_val, vcD_guard, vcDOut, vcDGuard, vcCond_T, vcCond_F]
  refine ⟨fun h => ⟨by simp [writeS, h1, h], hx _⟩, fun h2 => ?_⟩
  refine (c45 e 0 (by omega)).use ?_
  simp -implicitDefEqProofs only [encE_length, encE_take5, go_sem, reduceIte, Nat.reduceEqDiff, Nat.reduceAdd, Nat.reduceLeDiff, Nat.reduceLT, vc_cond, vcCond, vcGrps_guard, vcGuard, vcD_val, vcD_guard, vcDOut, vcDGuard, vcCond_T, vcCond_F]
  refine ⟨fun h => ⟨by simp [writeS, h1, h2, h], hx _⟩, fun h3 => ?_⟩
  refine (c46 e hok).use ?_
  simp -implicitDefEqProofs only [encE_length, encE_take5, go_sem, reduceIte, Nat.reduceEqDiff, Nat.reduceAdd, Nat.reduceLeDiff, Nat.reduceLT, vc_cond, vcCond, vcGrps_guard, vcGuard, vcD_val, vcD_guard, vcDOut, vcDGuard, vcCond_T, vcCond_F]
  have hlong : (sizeS e : Int) > 65536 → writeS e = ([], 2) := fun h => by
    have : sizeS e > 65536 := by omega
    simp [writeS, h1, h2, h3, this]
  refine ⟨fun h => ⟨by rw [hlong h], hx _⟩, fun h4 => ?_⟩
  have h4' : sizeS e ≤ 65536 := by omega
  refine (c47 e hok (allTag_of e 0 h1 h3) h4' (S.n + 1) _ (S.n + 1) [] ⟨Nat.le_refl _, by simp [Store.n_push], .inl ⟨_, .inl rfl, by simp [Store.get_push, Store.n_push], rfl⟩⟩ (by simp [Store.n_push]) (by simp; omega)).mono ?_
  rintro r S2 ⟨rfl, hB, hL⟩
  simp -implicitDefEqProofs only [go_sem, reduceIte, Nat.reduceEqDiff, Nat.reduceAdd, Nat.reduceLeDiff, Nat.reduceLT, vc_cond, vcCond, vcGrps_guard, vcGuard, vcD_val, vcD_guard, vcDOut, vcDGuard, vcCond_T, vcCond_F]
  refine (c48 (S.n + 1) S2 (S.n + 1) (putS e) (by simpa using hB) (putS_ne e)).mono ?_
  rintro r S3 ⟨rfl, hL2⟩
  simp -implicitDefEqProofs only [go_sem, reduceIte, Nat.reduceEqDiff, Nat.reduceAdd, Nat.reduceLeDiff, Nat.reduceLT, vc_cond, vcCond, vcGrps_guard, vcGuard, vcD_val, vcD_guard, vcDOut, vcDGuard, vcCond_T, vcCond_F]
  have hw : writeS e = (putS e, 0) := by
    have : ¬ sizeS e > 65536 := by omega
    simp [writeS, h1, h2, h3, this]
  rw [hw]
  refine ⟨rfl, ?_⟩
  have hL3 := hL.trans hL2
  exact ⟨by have := hL3.n; simp only [Store.n_push] at this; omega, fun j hj => by rw [hL3.get j (by omega) (by omega), Store.get_push_ne _ _ (by simp [Store.n_push]; omega), Store.get_push_ne _ _ (by omega)]⟩
end Go.Proofs.YtajbeippbabhhaaGreatDoor.Eng

namespace Go.Proofs.YtajbeippbabhhaaGreatDoor.Eng
open Go Go.Proofs.Tryz
mutual
def rsizeS : Elem → Nat
  | .mk _ _ _ b ks _ => if rsizeSs ks b.length > 65536 then 65537 else if rsizeSs ks b.length < 128 then rsizeSs ks b.length + 2 else if rsizeSs ks b.length < 256 then rsizeSs ks b.length + 3 else rsizeSs ks b.length + 4
def rsizeSs : List Elem → Nat → Nat
  | [], n => n
  | k :: ks, n => if n ≤ 65536 then rsizeSs ks (n + rsizeS k) else n
end
theorem rsizeS_eta (e : Elem) : rsizeS e = if rsizeSs e.kids e.bytes.length > 65536 then 65537 else if rsizeSs e.kids e.bytes.length < 128 then rsizeSs e.kids e.bytes.length + 2 else if rsizeSs e.kids e.bytes.length < 256 then rsizeSs e.kids e.bytes.length + 3 else rsizeSs e.kids e.bytes.length + 4 := by
  cases e; simp only [rsizeS, Elem.kids, Elem.bytes]; rfl
theorem rsizeS_le (e : Elem) : rsizeS e ≤ 65540 := by rw [rsizeS_eta]; split <;> (try split) <;> (try split) <;> omega
theorem rsizeSs_stop (ks : List Elem) (n : Nat) (h : ¬ n ≤ 65536) : rsizeSs ks n = n := by cases ks <;> simp [rsizeSs, h]
theorem lenS_len (n : Nat) : (lenS n).length = if n < 128 then 1 else if n < 256 then 2 else if n < 65536 then 3 else 4 := by
  unfold lenS kOf
  by_cases h1 : n < 128
  · simp [h1]
  · rw [if_neg h1, if_neg h1]
    simp only [List.length_cons, beN_length]
    by_cases h2 : n < 256
    · rw [if_pos h2, if_pos h2]
    · rw [if_neg h2, if_neg h2]; split <;> rfl
theorem size_key (x y : Nat) (h : min x 65537 = min y 65537) : min (1 + (if min x 65537 < 128 then 1 else if min x 65537 < 256 then 2 else if min x 65537 < 65536 then 3 else 4) + x) 65537 =
    min (if y > 65536 then 65537 else if y < 128 then y + 2 else if y < 256 then y + 3 else y + 4) 65537 := by
  by_cases h1 : y > 65536
  · rw [if_pos h1]; omega
  · rw [if_neg h1]
    have hxy : x = y := by omega
    subst hxy
    have e : min x 65537 = x := by omega
    rw [e]
    by_cases h2 : x < 128
    · rw [if_pos h2, if_pos h2]; omega
    · rw [if_neg h2, if_neg h2]
      by_cases h3 : x < 256
      · rw [if_pos h3, if_pos h3]; omega
      · rw [if_neg h3, if_neg h3]; split <;> omega
mutual
theorem size_ref : ∀ (e : Elem), sizeS e = min (rsizeS e) 65537
  | .mk c t k b ks ext => by
    have h := size_refs ks b.length b.length rfl
    rw [sizeS_eta, rsizeS_eta]
    simp only [Elem.kids, Elem.bytes]
    rw [lenS_len]
    exact size_key _ _ h
theorem size_refs : ∀ (ks : List Elem) (n n' : Nat), min n 65537 = min n' 65537 → min (sizeSs ks n) 65537 = min (rsizeSs ks n') 65537
  | [], n, n', h => by simpa only [sizeSs, rsizeSs] using h
  | k :: ks, n, n', h => by
    have hk := size_ref k
    simp only [sizeSs, rsizeSs]
    by_cases h1 : n' ≤ 65536
    · rw [if_pos h1]
      exact size_refs ks _ _ (by omega)
    · rw [if_neg h1]
      have := sizeSs_mono ks (min (n + sizeS k) 65537) (by omega)
      omega
end

theorem c50 : ∀ (e : Elem), okE e → Pure prog 177 [.agg (encE e)] (.int .i64 (rsizeS e)) := by
  intro e
  induction e using Elem.ind with
  | h e ih =>
  intro hok
  obtain ⟨_, _, hbl, hkl, hks⟩ := okE_eta hok
  unfold maxB at hbl hkl
  refine Pure.of (fun _ _ => by simp only [nm]) fun S => acalls_of_vc low50 (by simp) ?_
  rw [encE_eta, rsizeS_eta]
  obtain ⟨bx, hbx⟩ : ∃ bx, bx = AObj.box 68 [AV.int .i64 e.cls, .int .i64 e.tag, .bool e.cons, .str e.bytes, .sl 5 (encEs e.kids ++ e.ext) e.kids.length] := ⟨_, rfl⟩
  have hx := (Ext.refl S).push
  have hl : (S.push bx).get S.n = some bx := Store.get_push_same S bx
  simp -implicitDefEqProofs only [B50, encEs_take, encEs_length, go_sem, reduceIte, Nat.reduceEqDiff, Nat.reduceAdd, Nat.reduceLeDiff, Nat.reduceLT, vc_cond, vcCond, vcGrps_guard, vcGuard, vcD_val, vcD_guard, vcDOut, vcDGuard, vcCond_T, vcCond_F]
  rw [← hbx]
  intro _
  refine vc_loop (fun n fr S' => ∃ i c, i + n = e.kids.length ∧ c ≤ maxB + 131080 ∧ fr 1 = .ptr S.n 0 ∧ fr 3 = .int .i64 (c : Nat) ∧ fr 4 = .int .i64 i ∧ Ext S S' ∧ S'.get S.n = some bx ∧ rsizeSs (e.kids.drop i) c = rsizeSs e.kids e.bytes.length) e.kids.length
    ⟨0, e.bytes.length, by simp, by unfold maxB; omega, rfl, rfl, rfl, hx _, hl, rfl⟩ ?_
  rintro n fr S' ⟨i, c, hin, hcb, f1, f3, f4, hS, hg, hd⟩
  unfold maxB at hcb
  have hg0 := hg
  rw [hbx] at hg
  have c2 : IntKind.i64.wrap ((c : Int) + 2) = ((c + 2 : Nat) : Int) := by rw [w64 _ (by omega) (by omega)]; push_cast; rfl
  have c3 : IntKind.i64.wrap ((c : Int) + 3) = ((c + 3 : Nat) : Int) := by rw [w64 _ (by omega) (by omega)]; push_cast; rfl
  have c4 : IntKind.i64.wrap ((c : Int) + 4) = ((c + 4 : Nat) : Int) := by rw [w64 _ (by omega) (by omega)]; push_cast; rfl
  by_cases hlt : i < e.kids.length
  · obtain ⟨k, hk⟩ : ∃ k, e.kids[i]? = some k := ⟨_, List.getElem?_eq_getElem hlt⟩
    have hkm : k ∈ e.kids := List.mem_of_getElem? hk
    have hat := encEs_at e.kids e.ext i k hk
    have h0 : (0 : Int) ≤ i := by omega
    have hlt' : (i : Int) < e.kids.length := by omega
    rw [drop_cons hk] at hd
    by_cases hc : c ≤ 65536
    · have hc' : (c : Int) ≤ 65536 := by omega
      simp -implicitDefEqProofs only [f1, f3, f4, hg, hc', hlt, hlt', h0, hat, encEs_take, encEs_length, encE_length, encE_take5, splice_encE, decide_true, go_sem, reduceIte, Nat.reduceEqDiff, Nat.reduceAdd, Nat.reduceLeDiff, Nat.reduceLT, vc_cond, vcCond, vcGrps_guard, vcGuard, vcD_val, vcD_guard, vcDOut, vcDGuard, vcCond_T, vcCond_F]
      intro hlen
      unfold lenMax at hlen
      have hsz := rsizeS_le k
      have hi1 : IntKind.i64.wrap ((i : Int) + 1) = i + 1 := w64 _ (by omega) (by omega)
      have hs1 : IntKind.i64.wrap ((c : Int) + (rsizeS k : Nat)) = ((c + rsizeS k : Nat) : Int) := by rw [w64 _ (by omega) (by omega)]; push_cast; rfl
      refine (ih k hkm (hks k hkm)).use ?_
      simp -implicitDefEqProofs only [f1, f3, f4, hi1, hs1, go_sem, reduceIte, Nat.reduceEqDiff, Nat.reduceAdd, Nat.reduceLeDiff, Nat.reduceLT, vc_cond, vcCond, vcGrps_guard, vcGuard, vcD_val, vcD_guard, vcDOut, vcDGuard, vcCond_T, vcCond_F]
      refine ⟨n - 1, by omega, i + 1, c + rsizeS k, by omega, by unfold maxB; omega, rfl, by simp, hS, hg0, ?_⟩
      simpa only [rsizeSs, if_pos hc] using hd
    · have hc' : ¬ (c : Int) ≤ 65536 := by omega
      have hc2 : (c : Int) > 65536 := by omega
      simp -implicitDefEqProofs only [f1, f3, f4, hg, hc', hc2, hlt, hlt', h0, hat, encEs_take, encEs_length, decide_true, decide_false, go_sem, reduceIte, Nat.reduceEqDiff, Nat.reduceAdd, Nat.reduceLeDiff, Nat.reduceLT, vc_cond, vcCond, vcGrps_guard, vcGuard, vcD_val, vcD_guard, vcDOut, vcDGuard, vcCond_T, vcCond_F]
      intro _
      simp only [rsizeSs, if_neg hc] at hd
      refine ⟨?_, hS⟩
      rw [← hd, if_pos (by omega)]; rfl
  · have hlt' : ¬ (i : Int) < e.kids.length := by omega
    have hi : i = e.kids.length := by omega
    rw [hi, List.drop_length] at hd
    simp only [rsizeSs] at hd
    simp -implicitDefEqProofs only [f1, f3, f4, hg, hlt', c2, c3, c4, encEs_take, encEs_length, decide_false, go_sem, reduceIte, Nat.reduceEqDiff, Nat.reduceAdd, Nat.reduceLeDiff, Nat.reduceLT, vc_cond, vcCond, vcGrps_guard, vcGuard, vcD_val, vcD_guard, vcDOut, vcDGuard, vcCond_T, vcCond_F]
    intro _
    rw [← hd]
    exact ⟨fun h => ⟨by rw [if_pos (by omega)]; rfl, hS⟩, fun h1 => ⟨fun h2 => ⟨by rw [if_neg (by omega), if_pos (by omega)], hS⟩, fun h2 => ⟨fun h3 => ⟨by rw [if_neg (by omega), if_neg (by omega), if_pos (by omega)], hS⟩,
      fun h3 => ⟨by rw [if_neg (by omega), if_neg (by omega), if_neg (by omega)], hS⟩⟩⟩⟩
end Go.Proofs.YtajbeippbabhhaaGreatDoor.Eng

namespace Go.Proofs.YtajbeippbabhhaaGreatDoor.Eng
open Go Go.Proofs.Tryz

theorem c49 : ∀ (e : Elem) (w : Int), 0 ≤ w → Pure prog 176 [.agg (encE e), .int .i64 w] (.tup [.bool (!eachS tagOk e w), .bool (!eachS formOk e w), .bool (deepS e w)]) := by
  intro e
  induction e using Elem.ind with
  | h e ih =>
  intro w hw
  refine Pure.of (fun _ _ => by simp only [nm, nmL, and_self]) fun S => acalls_of_vc low49 (by simp) ?_
  rw [eachS_eta, eachS_eta, deepS_eta]
  obtain ⟨bx, hbx⟩ : ∃ bx, bx = AObj.box 68 [AV.int .i64 e.cls, .int .i64 e.tag, .bool e.cons, .str e.bytes, .sl 5 (encEs e.kids ++ e.ext) e.kids.length] := ⟨_, rfl⟩
  unfold B49
  refine vc_cut (fun fr S' => fr 1 = .int .i64 w ∧ fr 2 = .ptr S.n 0 ∧ S'.get S.n = some bx ∧ Ext S S') ?_ ?_
  · rw [encE_eta]
    simp -implicitDefEqProofs only [go_sem, reduceIte, Nat.reduceEqDiff, Nat.reduceAdd, Nat.reduceLeDiff, Nat.reduceLT, vc_cond, vcCond, vcGrps_guard, vcGuard, vcD_val, vcD_guard, vcDOut, vcDGuard, vcCond_T, vcCond_F]
    exact ⟨by rw [hbx], (Ext.refl S).push _⟩
  rintro fr S1 ⟨f1, f2, hg, hS⟩
  refine vc_cut (fun fr S' => fr 1 = .int .i64 w ∧ fr 2 = .ptr S.n 0 ∧ S'.get S.n = some bx ∧ Ext S S' ∧ w < 20) ?_ ?_
  · simp -implicitDefEqProofs only [f1, f2, go_sem, reduceIte, Nat.reduceEqDiff, Nat.reduceAdd, Nat.reduceLeDiff, Nat.reduceLT, vc_cond, vcCond, vcGrps_guard, vcGuard, vcD_val, vcD_guard, vcDOut, vcDGuard, vcCond_T, vcCond_F]
    exact ⟨fun h => ⟨by simp [h], hS⟩, fun h => ⟨hg, hS, by omega⟩⟩
  clear f1 f2 hg hS fr S1
  rintro fr S1 ⟨f1, f2, hg, hS, hw20⟩
  refine vc_cut (fun fr S' => fr 1 = .int .i64 w ∧ fr 2 = .ptr S.n 0 ∧ S'.get S.n = some bx ∧ Ext S S' ∧ fr 7 = .bool (!tagOk e)) ?_ ?_
  · rw [hbx] at hg
    simp -implicitDefEqProofs only [f1, f2, hg, go_sem, reduceIte, Nat.reduceEqDiff, Nat.reduceAdd, Nat.reduceLeDiff, Nat.reduceLT, vc_cond, vcCond, vcGrps_guard, vcGuard, vcD_val, vcD_guard, vcDOut, vcDGuard, vcCond_T, vcCond_F]
    simp only [hbx, hS, AV.bool.injEq, tagOk, true_and, decide_eq_true_eq, decide_eq_false_iff_not]
    grind
  clear f1 f2 hg hS fr S1
  rintro fr S1 ⟨f1, f2, hg, hS, f7⟩
  refine vc_cut (fun fr S' => fr 1 = .int .i64 w ∧ fr 2 = .ptr S.n 0 ∧ S'.get S.n = some bx ∧ Ext S S' ∧ fr 7 = .bool (!tagOk e) ∧ fr 8 = .bool (!formOk e)) ?_ ?_
  · have hbx' := hg
    rw [hbx] at hg
    cases hc : e.cons
    all_goals
      rw [hc] at hg
      simp -implicitDefEqProofs only [f1, f2, f7, hg, encEs_take, encEs_length, go_sem, reduceIte, Nat.reduceEqDiff, Nat.reduceAdd, Nat.reduceLeDiff, Nat.reduceLT, vc_cond, vcCond, vcGrps_guard, vcGuard, vcD_val, vcD_guard, vcDOut, vcDGuard, vcCond_T, vcCond_F]
    · intro _
      refine ⟨by rw [hbx, hc], hS, ?_⟩
      simp only [formOk, hc, AV.bool.injEq, Bool.false_eq_true, if_false]
      by_cases h0 : e.kids.length = 0
      · simp [h0]
      · simp [h0]; omega
    · intro _
      have key : ∀ b : Bool, b = decide ((e.bytes.length : Int) > 0) → (b : Bool) = !formOk e := fun b hb => by
        subst hb
        simp only [formOk, hc, if_true]
        cases e.bytes <;> simp
      exact ⟨fun h => ⟨by rw [hbx, hc], hS, by rw [key false (by simp only [h, decide_false])]⟩, fun h => ⟨by rw [hbx, hc], hS, by rw [key true (by simp only [h, decide_true])]⟩⟩
  clear f1 f2 hg hS f7 fr S1
  rintro fr S1 ⟨f1, f2, hg, hS, f7, f8⟩
  have hg0 := hg
  rw [hbx] at hg
  simp -implicitDefEqProofs only [f1, f2, f7, f8, hg, encEs_take, encEs_length, go_sem, reduceIte, Nat.reduceEqDiff, Nat.reduceAdd, Nat.reduceLeDiff, Nat.reduceLT, vc_cond, vcCond, vcGrps_guard, vcGuard, vcD_val, vcD_guard, vcDOut, vcDGuard, vcCond_T, vcCond_F]
  refine vc_loop (fun n fr S' => ∃ i, i + n = e.kids.length ∧ fr 1 = .int .i64 w ∧ fr 2 = .ptr S.n 0 ∧ S'.get S.n = some bx ∧ Ext S S' ∧ fr 10 = .int .i64 i ∧
    fr 7 = .bool (!(tagOk e && eachSs tagOk (e.kids.take i) (w + 1))) ∧ fr 8 = .bool (!(formOk e && eachSs formOk (e.kids.take i) (w + 1))) ∧ fr 9 = .bool (deepSs (e.kids.take i) (w + 1))) e.kids.length
    ⟨0, by simp, by simp [upd_apply, f1], by simp [upd_apply, f2], hg0, hS, rfl, by simp [upd_apply, f7, eachSs], by simp [upd_apply, f8, eachSs], by simp [upd_apply, deepSs]⟩ ?_
  clear f1 f2 hg hg0 hS f7 f8 fr S1
  rintro n fr S1 ⟨i, hin, f1, f2, hg, hS, f10, f7, f8, f9⟩
  have hg0 := hg
  rw [hbx] at hg
  by_cases hlt : i < e.kids.length
  · obtain ⟨k, hk⟩ : ∃ k, e.kids[i]? = some k := ⟨_, List.getElem?_eq_getElem hlt⟩
    have hkm : k ∈ e.kids := List.mem_of_getElem? hk
    have hat := encEs_at e.kids e.ext i k hk
    have h0 : (0 : Int) ≤ i := by omega
    have hlt' : (i : Int) < e.kids.length := by omega
    have hw1 : IntKind.i64.wrap (w + 1) = w + 1 := w64 _ (by omega) (by omega)
    simp -implicitDefEqProofs only [f1, f2, f7, f8, f9, f10, hg, hlt, hlt', h0, hat, hw1, encEs_take, encEs_length, encE_length, encE_take5, decide_true, go_sem, reduceIte, Nat.reduceEqDiff, Nat.reduceAdd, Nat.reduceLeDiff, Nat.reduceLT, vc_cond, vcCond, vcGrps_guard, vcGuard, vcD_val, vcD_guard, vcDOut, vcDGuard, vcCond_T, vcCond_F]
    intro hlen
    unfold lenMax at hlen
    have hi1 : IntKind.i64.wrap ((i : Int) + 1) = i + 1 := w64 _ (by omega) (by omega)
    refine (ih k hkm _ (by omega)).use ?_
    generalize ha : (tagOk e && eachSs tagOk (e.kids.take i) (w + 1)) = a at f7
    generalize hb : (formOk e && eachSs formOk (e.kids.take i) (w + 1)) = b at f8
    generalize hc : deepSs (e.kids.take i) (w + 1) = c at f9
    cases a <;> cases b <;> cases c <;>
      (simp only [Bool.not_true, Bool.not_false] at f7 f8
       simp -implicitDefEqProofs only [f1, f2, f7, f8, f9, f10, hi1, go_sem, reduceIte, Nat.reduceEqDiff, Nat.reduceAdd, Nat.reduceLeDiff, Nat.reduceLT, vc_cond, vcCond, vcGrps_guard, vcGuard, vcD_val, vcD_guard, vcDOut, vcDGuard, vcCond_T, vcCond_F]
       exact ⟨n - 1, by omega, i + 1, by omega, hg0, hS, by simp, by rw [take_succ hk, eachSs_app, ← Bool.and_assoc, ha]; simp, by rw [take_succ hk, eachSs_app, ← Bool.and_assoc, hb]; simp, by rw [take_succ hk, deepSs_app, hc]; simp⟩)
  · have hlt' : ¬ (i : Int) < e.kids.length := by omega
    have hi : i = e.kids.length := by omega
    rw [hi, List.take_length] at f7 f8 f9
    have hw20' : ¬ w ≥ 20 := by omega
    simp -implicitDefEqProofs only [f1, f2, f7, f8, f9, f10, hg, hlt', encEs_take, encEs_length, decide_false, go_sem, reduceIte, Nat.reduceEqDiff, Nat.reduceAdd, Nat.reduceLeDiff, Nat.reduceLT, vc_cond, vcCond, vcGrps_guard, vcGuard, vcD_val, vcD_guard, vcDOut, vcDGuard, vcCond_T, vcCond_F]
    intro _
    exact ⟨by simp [hw20'], hS⟩
end Go.Proofs.YtajbeippbabhhaaGreatDoor.Eng

namespace Go.Proofs.YtajbeippbabhhaaGreatDoor.Eng
open Go Go.Proofs.Tryz

/-- `β` is a slice of one's own that holds `bs`. -/
def OS (m : Nat) (S : Store) (β : AV) (bs : List UInt8) : Prop :=
  (β = .lit (.slice none 0 0) ∧ bs = []) ∨ ∃ k, m ≤ k ∧ k < S.n ∧ β = .own k 0 bs.length ∧ S.get k = some (.row 5 1 0 (byteRow bs))
structure Lo (m : Nat) (S T : Store) : Prop where
  n : S.n ≤ T.n
  get : ∀ j, j < m → T.get j = S.get j
  box : ∀ j t cs, S.get j = some (.box t cs) → T.get j = some (.box t cs)
  bnd : ∀ j o, T.get j = some o → (∃ o', S.get j = some o') ∨ j < T.n
theorem Lo.refl (m : Nat) (S : Store) : Lo m S S := ⟨Nat.le_refl _, fun _ _ => rfl, fun _ _ _ h => h, fun j o h => .inl ⟨o, h⟩⟩
theorem Lo.trans {m : Nat} {S T U : Store} (h : Lo m S T) (k : Lo m T U) : Lo m S U :=
  ⟨Nat.le_trans h.n k.n, fun j hj => (k.get j hj).trans (h.get j hj), fun j t cs e => k.box j t cs (h.box j t cs e), fun j o e => by
    rcases k.bnd j o e with ⟨o', e'⟩ | e'
    · rcases h.bnd j o' e' with h' | h'
      · exact .inl h'
      · exact .inr (Nat.lt_of_lt_of_le h' k.n)
    · exact .inr e'⟩
theorem Lo.bound {m : Nat} {S T : Store} (h : Lo m S T) (hwf : ∀ j o, S.get j = some o → j < S.n) : ∀ j o, T.get j = some o → j < T.n := fun j o e => by
  rcases h.bnd j o e with ⟨o', e'⟩ | e'
  · exact Nat.lt_of_lt_of_le (hwf j o' e') h.n
  · exact e'
theorem Lo.push {m : Nat} {S T : Store} (h : Lo m S T) (o : AObj) (hm : m ≤ T.n) (hwf : ∀ j o, T.get j = some o → j < T.n) : Lo m S (T.push o) :=
  ⟨Nat.le_succ_of_le h.n, fun j hj => by rw [Store.get_push_ne _ _ (by omega)]; exact h.get j hj, fun j t cs e => by
    have h1 := h.box j t cs e
    have := hwf j _ h1
    rw [Store.get_push_ne _ _ (by omega)]; exact h1, fun j o' e => by
    by_cases ej : j = T.n
    · subst ej; exact .inr (Nat.lt_succ_self _)
    · rw [Store.get_push_ne _ _ ej] at e
      rcases h.bnd j o' e with h' | h'
      · exact .inl h'
      · exact .inr (Nat.lt_succ_of_lt h')⟩
theorem Lo.kill {m k : Nat} {S T : Store} (h : Lo m S T) (hk : m ≤ k) {t s f : Nat} {es : List (List AV)} (hrow : T.get k = some (.row t s f es)) : Lo m S (T.set k none) :=
  ⟨h.n, fun j hj => by rw [Store.get_set_ne _ _ (by omega)]; exact h.get j hj, fun j t cs e => by
    have h1 := h.box j t cs e
    rw [Store.get_set_ne _ _ (fun ej => by subst ej; rw [hrow] at h1; cases h1)]; exact h1, fun j o' e => by
    by_cases ej : j = k
    · subst ej; rw [Store.get_set_same] at e; cases e
    · rw [Store.get_set_ne _ _ ej] at e; exact h.bnd j o' e⟩
theorem kill_bnd {T : Store} (k : Nat) (h : ∀ j o, T.get j = some o → j < T.n) : ∀ j o, (T.set k none).get j = some o → j < (T.set k none).n := fun j o e => by
  rw [Store.get_set] at e
  split at e
  · cases e
  · exact h j o e
/-- A row of one's own that grew. -/
theorem os_grow {m : Nat} {T : Store} {k : Nat} {bs more : List UInt8} {es : List (List AV)} {n : Nat} (hm : m ≤ T.n) (he : es = byteRow (bs ++ more)) (hn : n = (bs ++ more).length) :
    OS m ((T.set k none).push (.row 5 1 0 es)) (.own T.n 0 n) (bs ++ more) := by
  subst he; subst hn
  exact .inr ⟨T.n, hm, by simp [Store.n_push, Store.n_set], rfl, by rw [Store.get_push, Store.n_set, if_pos rfl]⟩
theorem lo_grow {m : Nat} {T : Store} {k : Nat} {bs : List UInt8} {es : List (List AV)} (hm : m ≤ T.n) (hk : m ≤ k) (hrow : T.get k = some (.row 5 1 0 (byteRow bs))) (hwf : ∀ j o, T.get j = some o → j < T.n) :
    Lo m T ((T.set k none).push (.row 5 1 0 es)) :=
  ((Lo.refl m T).kill hk hrow).push _ hm (kill_bnd k hwf)

theorem u8q (n d : Nat) (hd : 0 < d) : (n : Int).tdiv (d : Int) = ((n / d : Nat) : Int) := by rw [Int.tdiv_eq_ediv_of_nonneg (by omega)]; rfl
theorem u8m (n d : Nat) : (n : Int).tmod (d : Int) = ((n % d : Nat) : Int) := by rw [Int.tmod_eq_emod_of_nonneg (by omega)]; rfl

theorem lens_ref (n : Nat) (hn : n ≤ 65536) : lenS n = if n < 128 then [UInt8.ofNat n] else if n < 256 then [129, UInt8.ofNat n] else if n < 65536 then [130, UInt8.ofNat (n / 256), UInt8.ofNat (n % 256)]
    else [131, UInt8.ofNat (n / 65536), UInt8.ofNat (n / 256 % 256), UInt8.ofNat (n % 256)] := by
  unfold lenS kOf
  by_cases h1 : n < 128
  · rw [if_pos h1, if_pos h1]
  · rw [if_neg h1, if_neg h1]
    by_cases h2 : n < 256
    · rw [if_pos h2, if_pos h2]; simp [beN]
    · rw [if_neg h2, if_neg h2]
      by_cases h3 : n < 65536
      · rw [if_pos h3, if_pos h3]
        simp only [beN, List.cons.injEq, and_true]
        and_intros <;> first | trivial | rfl | exact UInt8.toNat_inj.1 (by simp)
      · rw [if_neg h3, if_neg h3]
        simp only [beN, List.cons.injEq, and_true]
        and_intros <;> first | trivial | rfl | exact UInt8.toNat_inj.1 (by simp)

mutual
def rputOk : Elem → Prop
  | .mk c t k b ks ext => okE (.mk c t k b ks ext) ∧ tagOk (.mk c t k b ks ext) = true ∧ rsizeS (.mk c t k b ks ext) ≤ 65536 ∧ rputOks ks
def rputOks : List Elem → Prop
  | [] => True
  | k :: ks => rputOk k ∧ rputOks ks
end
def rsumS : List Elem → Nat
  | [] => 0
  | k :: ks => rsizeS k + rsumS ks
theorem rsum_eq : ∀ (ks : List Elem), (∀ k ∈ ks, sizeS k ≤ 65536) → rsumS ks = sumS ks
  | [], _ => rfl
  | k :: ks, h => by
    have h1 := size_ref k
    have h2 := h k (by simp)
    simp only [rsumS, sumS, rsum_eq ks fun x hx => h x (by simp [hx])]
    omega
theorem rsumS_app : ∀ (a : List Elem) (k : Elem), rsumS (a ++ [k]) = rsumS a + rsizeS k
  | [], k => by simp [rsumS]
  | x :: a, k => by simp only [List.cons_append, rsumS, rsumS_app a k]; omega

theorem c51 : ∀ (e : Elem), okE e → allTag e = true → sizeS e ≤ 65536 → ∀ (m : Nat) (S : Store) (β : AV) (bs : List UInt8), OS m S β bs → m ≤ S.n → bs.length + sizeS e ≤ 1048576 →
    ACalls prog 178 [β, .agg (encE e)] S fun r S' => ∃ β', r = .ret β' ∧ OS m S' β' (bs ++ putS e) ∧ Lo m S S' := by
  intro e
  induction e using Elem.ind with
  | h e ih =>
  intro hok htag hsize m S β bs hbs hm hbl
  obtain ⟨_, _, hbl', hkl, hks⟩ := okE_eta hok
  obtain ⟨htag, htags⟩ := allTag_eta htag
  obtain ⟨hsum, hsk, hcl⟩ := sizeS_sum e hsize
  have hre := rsum_eq e.kids hsk
  unfold maxB at hbl' hkl
  have hfirst : ∃ c t : Nat, e.cls = c ∧ e.tag = t ∧ c < 4 ∧ t < 31 := by
    simp only [tagOk, decide_eq_true_eq] at htag
    exact ⟨e.cls.toNat, e.tag.toNat, by omega, by omega, by omega, by omega⟩
  obtain ⟨c, t, hc, ht, hc4, ht31⟩ := hfirst
  have o1 : IntKind.i64.wrap (64 * (c : Int)) = ((64 * c : Nat) : Int) := by rw [w64 _ (by omega) (by omega)]; push_cast; rfl
  have o2 : IntKind.i64.wrap (((64 * c : Nat) : Int) + t) = ((64 * c + t : Nat) : Int) := by rw [w64 _ (by omega) (by omega)]; push_cast; rfl
  have o3 : IntKind.i64.wrap (((64 * c + t : Nat) : Int) + 32) = ((64 * c + t + 32 : Nat) : Int) := by rw [w64 _ (by omega) (by omega)]; push_cast; rfl
  have hff : firstS e = UInt8.ofNat (64 * c + t + if e.cons then 32 else 0) := by unfold firstS; rw [hc, ht]; simp
  refine ACalls.wf fun hwf _ => acalls_of_vc low51 (by simp) ?_
  rw [putS_eta]
  obtain ⟨bx, hbx⟩ : ∃ bx, bx = AObj.box 68 [AV.int .i64 c, .int .i64 t, .bool e.cons, .str e.bytes, .sl 5 (encEs e.kids ++ e.ext) e.kids.length] := ⟨_, rfl⟩
  unfold B51
  refine vc_cut (fun fr S' => fr 0 = β ∧ fr 3 = .ptr S.n 0 ∧ S.push bx = S') ?_ ?_
  · rw [encE_eta, hc, ht]
    simp -implicitDefEqProofs only [go_sem, reduceIte, Nat.reduceEqDiff, Nat.reduceAdd, Nat.reduceLeDiff, Nat.reduceLT, vc_cond, vcCond, vcGrps_guard, vcGuard, vcD_val, vcD_guard, vcDOut, vcDGuard, vcCond_T, vcCond_F]
    rw [hbx]
  have hg0 : (S.push bx).get S.n = some bx := Store.get_push_same _ _
  have hwf0 : ∀ j o, (S.push bx).get j = some o → j < (S.push bx).n := fun j o h => by
    rw [Store.get_push] at h
    rw [Store.n_push]
    split at h
    · omega
    · have := (hwf j _ h).1; omega
  have hlo0 : Lo m S (S.push bx) := (Lo.refl m S).push _ hm hwf.lt
  have hos0 : OS m (S.push bx) β bs := by
    rcases hbs with h | ⟨k, h1, h2, h3, h4⟩
    · exact .inl h
    · exact .inr ⟨k, h1, by rw [Store.n_push]; omega, h3, by rw [Store.get_push_ne _ _ (by omega)]; exact h4⟩
  have hn0 : m ≤ (S.push bx).n := by rw [Store.n_push]; omega
  generalize S.push bx = S1 at hg0 hwf0 hlo0 hos0 hn0
  have hg : S1.get S.n = some (.box 68 [AV.int .i64 c, .int .i64 t, .bool e.cons, .str e.bytes, .sl 5 (encEs e.kids ++ e.ext) e.kids.length]) := by rw [hg0, hbx]
  rintro fr T ⟨f0, f3, rfl⟩
  -- the first byte
  refine vc_cut (fun fr T => fr 0 = β ∧ fr 3 = .ptr S.n 0 ∧ S1 = T ∧ fr 5 = .int .i64 ((64 * c + t : Nat) : Int)) ?_ ?_
  · simp -implicitDefEqProofs only [f0, f3, hg, o1, o2, go_sem, reduceIte, Nat.reduceEqDiff, Nat.reduceAdd, Nat.reduceLeDiff, Nat.reduceLT, vc_cond, vcCond, vcGrps_guard, vcGuard, vcD_val, vcD_guard, vcDOut, vcDGuard, vcCond_T, vcCond_F]
  clear f0 f3 fr
  rintro fr T ⟨f0, f3, rfl, f5⟩
  refine vc_cut (fun fr T => fr 0 = β ∧ fr 3 = .ptr S.n 0 ∧ S1 = T ∧ ∃ f : Nat, fr 5 = .int .i64 (f : Int) ∧ UInt8.ofNat f = firstS e) ?_ ?_
  · cases hcons : e.cons
    all_goals
      rw [hcons] at hg hff
      simp -implicitDefEqProofs only [f0, f3, f5, hg, o3, go_sem, reduceIte, Nat.reduceEqDiff, Nat.reduceAdd, Nat.reduceLeDiff, Nat.reduceLT, vc_cond, vcCond, vcGrps_guard, vcGuard, vcD_val, vcD_guard, vcDOut, vcDGuard, vcCond_T, vcCond_F]
    · exact ⟨64 * c + t, rfl, by rw [hff]; rfl⟩
    · exact ⟨64 * c + t + 32, rfl, by rw [hff]; rfl⟩
  clear f0 f3 f5 fr
  rintro fr T ⟨f0, f3, rfl, f, f5, hf⟩
  refine vc_cut (fun fr T => fr 0 = β ∧ fr 3 = .ptr S.n 0 ∧ S1 = T ∧ fr 5 = .int .i64 (f : Int) ∧ fr 6 = .int .i64 (e.bytes.length : Nat) ∧ e.bytes.length ≤ strMax) ?_ ?_
  · simp -implicitDefEqProofs only [f0, f3, f5, hg, go_sem, reduceIte, Nat.reduceEqDiff, Nat.reduceAdd, Nat.reduceLeDiff, Nat.reduceLT, vc_cond, vcCond, vcGrps_guard, vcGuard, vcD_val, vcD_guard, vcDOut, vcDGuard, vcCond_T, vcCond_F]
    exact id
  clear f0 f3 f5 fr
  rintro fr T ⟨f0, f3, rfl, f5, f6, _⟩
  -- how many bytes there are
  refine vc_cut (fun fr T => fr 0 = β ∧ fr 3 = .ptr S.n 0 ∧ S1 = T ∧ fr 5 = .int .i64 (f : Int) ∧ fr 6 = .int .i64 ((e.bytes.length + sumS e.kids : Nat) : Int) ∧ e.kids.length ≤ lenMax) ?_ ?_
  · simp -implicitDefEqProofs only [f0, f3, f5, f6, go_sem, reduceIte, Nat.reduceEqDiff, Nat.reduceAdd, Nat.reduceLeDiff, Nat.reduceLT, vc_cond, vcCond, vcGrps_guard, vcGuard, vcD_val, vcD_guard, vcDOut, vcDGuard, vcCond_T, vcCond_F]
    refine vc_loop (fun n fr T => ∃ i, i + n = e.kids.length ∧ fr 0 = β ∧ fr 3 = .ptr S.n 0 ∧ S1 = T ∧ fr 5 = .int .i64 (f : Int) ∧ fr 6 = .int .i64 ((e.bytes.length + sumS (e.kids.take i) : Nat) : Int) ∧ fr 7 = .int .i64 i) e.kids.length
      ⟨0, by simp, by simp [upd_apply, f0], by simp [upd_apply, f3], rfl, by simp [upd_apply, f5], by simp [upd_apply, f6, sumS], rfl⟩ ?_
    clear f0 f3 f5 f6 fr
    rintro n fr T ⟨i, hin, f0, f3, rfl, f5, f6, f7⟩
    by_cases hlt : i < e.kids.length
    · obtain ⟨k, hk⟩ : ∃ k, e.kids[i]? = some k := ⟨_, List.getElem?_eq_getElem hlt⟩
      have hkm : k ∈ e.kids := List.mem_of_getElem? hk
      have hat := encEs_at e.kids e.ext i k hk
      have h0 : (0 : Int) ≤ i := by omega
      have hlt' : (i : Int) < e.kids.length := by omega
      have hi1 : IntKind.i64.wrap ((i : Int) + 1) = i + 1 := w64 _ (by omega) (by omega)
      have hst := sumS_take e.kids i
      have hrs : rsizeS k = sizeS k := by have := size_ref k; have := hsk k hkm; omega
      have hsz := hsk k hkm
      have hs1 : IntKind.i64.wrap (((e.bytes.length + sumS (e.kids.take i) : Nat) : Int) + (sizeS k : Nat)) = ((e.bytes.length + sumS (e.kids.take i) + sizeS k : Nat) : Int) := by rw [w64 _ (by omega) (by omega)]; push_cast; rfl
      simp -implicitDefEqProofs only [f0, f3, f5, f6, f7, hg, hlt, hlt', h0, hat, encEs_take, encEs_length, encE_length, encE_take5, decide_true, go_sem, reduceIte, Nat.reduceEqDiff, Nat.reduceAdd, Nat.reduceLeDiff, Nat.reduceLT, vc_cond, vcCond, vcGrps_guard, vcGuard, vcD_val, vcD_guard, vcDOut, vcDGuard, vcCond_T, vcCond_F]
      intro _
      refine (c50 k (hks k hkm)).use ?_
      rw [hrs]
      simp -implicitDefEqProofs only [f0, f3, f5, f6, f7, hi1, hs1, go_sem, reduceIte, Nat.reduceEqDiff, Nat.reduceAdd, Nat.reduceLeDiff, Nat.reduceLT, vc_cond, vcCond, vcGrps_guard, vcGuard, vcD_val, vcD_guard, vcDOut, vcDGuard, vcCond_T, vcCond_F]
      exact ⟨n - 1, by omega, i + 1, by omega, by rw [take_succ hk, sumS_app], by simp⟩
    · have hlt' : ¬ (i : Int) < e.kids.length := by omega
      have hi : i = e.kids.length := by omega
      rw [hi, List.take_length] at f6
      simp -implicitDefEqProofs only [f0, f3, f5, f6, f7, hg, hlt', encEs_take, encEs_length, decide_false, go_sem, reduceIte, Nat.reduceEqDiff, Nat.reduceAdd, Nat.reduceLeDiff, Nat.reduceLT, vc_cond, vcCond, vcGrps_guard, vcGuard, vcD_val, vcD_guard, vcDOut, vcDGuard, vcCond_T, vcCond_F]
      exact id
  clear f0 f3 f5 f6 fr
  rintro fr T ⟨f0, f3, rfl, f5, f6, hlen⟩
  -- the first byte is laid down
  refine vc_cut (fun fr T => (∃ k, fr 0 = .own k 0 (bs.length + 1) ∧ m ≤ k ∧ T.get k = some (.row 5 1 0 (byteRow (bs ++ [firstS e])))) ∧ fr 3 = .ptr S.n 0 ∧ fr 6 = .int .i64 ((e.bytes.length + sumS e.kids : Nat) : Int) ∧ Lo m S1 T) ?_ ?_
  · rcases hos0 with ⟨rfl, rfl⟩ | ⟨k, h1, h2, rfl, h4⟩
    · simp -implicitDefEqProofs only [f0, f3, f5, f6, w8, hf, go_sem, reduceIte, Nat.reduceEqDiff, Nat.reduceAdd, Nat.reduceLeDiff, Nat.reduceLT, vc_cond, vcCond, vcGrps_guard, vcGuard, vcD_val, vcD_guard, vcDOut, vcDGuard, vcCond_T, vcCond_F]
      refine ⟨by omega, ⟨S1.n, rfl, hn0, ?_⟩, (Lo.refl m S1).push _ hn0 hwf0⟩
      simp; rfl
    · simp -implicitDefEqProofs only [f0, f3, f5, f6, w8, hf, h4, byteRow_length, go_sem, reduceIte, Nat.reduceEqDiff, Nat.reduceAdd, Nat.reduceLeDiff, Nat.reduceLT, vc_cond, vcCond, vcGrps_guard, vcGuard, vcD_val, vcD_guard, vcDOut, vcDGuard, vcCond_T, vcCond_F]
      refine ⟨by omega, ⟨S1.n, rfl, hn0, ?_⟩, lo_grow hn0 h1 h4 hwf0⟩
      simp [byteRow]
  clear f0 f3 f5 f6 fr hos0
  rintro fr T ⟨⟨k0, f0, hk0, hr0⟩, f3, f6, hL1⟩
  have hgT := hL1.box _ _ _ hg
  have hwfT := hL1.bound hwf0
  have hnT : m ≤ T.n := by have := hL1.n; omega
  -- the length
  have hlr := lens_ref (e.bytes.length + sumS e.kids) hcl
  refine vc_cut (fun fr U => (∃ k, fr 0 = .own k 0 (bs.length + 1 + (lenS (e.bytes.length + sumS e.kids)).length) ∧ m ≤ k ∧ U.get k = some (.row 5 1 0 (byteRow (bs ++ [firstS e] ++ lenS (e.bytes.length + sumS e.kids))))) ∧ fr 3 = .ptr S.n 0 ∧ Lo m T U) ?_ ?_
  · generalize e.bytes.length + sumS e.kids = nn at hlr f6 hcl ⊢
    have q1 : (nn : Int).tdiv 256 = ((nn / 256 : Nat) : Int) := u8q nn 256 (by omega)
    have q2 : (nn : Int).tdiv 65536 = ((nn / 65536 : Nat) : Int) := u8q nn 65536 (by omega)
    have q3 : (nn : Int).tmod 256 = ((nn % 256 : Nat) : Int) := u8m nn 256
    have q4 : ((nn / 256 : Nat) : Int).tmod 256 = ((nn / 256 % 256 : Nat) : Int) := u8m (nn / 256) 256
    have hz1 : ¬ (256 : Int) = 0 := by omega
    have hz2 : ¬ (65536 : Int) = 0 := by omega
    have w1 : IntKind.i64.wrap ((nn / 256 : Nat) : Int) = ((nn / 256 : Nat) : Int) := w64 _ (by omega) (by omega)
    have w2 : IntKind.i64.wrap ((nn / 65536 : Nat) : Int) = ((nn / 65536 : Nat) : Int) := w64 _ (by omega) (by omega)
    by_cases h1 : nn < 128
    · have h1' : (nn : Int) < 128 := by omega
      simp -implicitDefEqProofs only [f0, f3, f6, go_sem, reduceIte, Nat.reduceEqDiff, Nat.reduceAdd, Nat.reduceLeDiff, Nat.reduceLT, vcGrps_guard, vcGuard, vcD_val, vcD_guard, vcDOut, vcDGuard]
      refine vc_cond_pos (p := (nn : Int) < 128) (by simp only [ev, upd_apply, Nat.reduceEqDiff, reduceIte]) h1' ?_
      simp -implicitDefEqProofs only [f0, f3, f6, hr0, w8, byteRow_length, go_sem, reduceIte, Nat.reduceEqDiff, Nat.reduceAdd, Nat.reduceLeDiff, Nat.reduceLT, vcGrps_guard, vcGuard, vcD_val, vcD_guard, vcDOut, vcDGuard]
      refine ⟨by simp; omega, ⟨T.n, ?_, hnT, ?_⟩, lo_grow hnT hk0 hr0 hwfT⟩
      · rw [hlr, if_pos h1]; simp
      · rw [hlr, if_pos h1]; simp [byteRow]
    · have h1' : ¬ (nn : Int) < 128 := by omega
      simp -implicitDefEqProofs only [f0, f3, f6, go_sem, reduceIte, Nat.reduceEqDiff, Nat.reduceAdd, Nat.reduceLeDiff, Nat.reduceLT, vcGrps_guard, vcGuard, vcD_val, vcD_guard, vcDOut, vcDGuard]
      refine vc_cond_neg (p := (nn : Int) < 128) (by simp only [ev, upd_apply, Nat.reduceEqDiff, reduceIte]) h1' ?_
      simp -implicitDefEqProofs only [f0, f3, f6, go_sem, reduceIte, Nat.reduceEqDiff, Nat.reduceAdd, Nat.reduceLeDiff, Nat.reduceLT, vcGrps_guard, vcGuard, vcD_val, vcD_guard, vcDOut, vcDGuard]
      by_cases h2 : nn < 256
      · have h2' : (nn : Int) < 256 := by omega
        refine vc_cond_pos (p := (nn : Int) < 256) (by simp only [ev, upd_apply, Nat.reduceEqDiff, reduceIte]) h2' ?_
        simp -implicitDefEqProofs only [f0, f3, f6, hr0, w8, byteRow_length, go_sem, reduceIte, Nat.reduceEqDiff, Nat.reduceAdd, Nat.reduceLeDiff, Nat.reduceLT, vcGrps_guard, vcGuard, vcD_val, vcD_guard, vcDOut, vcDGuard]
        refine ⟨by simp; omega, ⟨T.n, ?_, hnT, ?_⟩, lo_grow hnT hk0 hr0 hwfT⟩
        · rw [hlr, if_neg h1, if_pos h2]; simp
        · rw [hlr, if_neg h1, if_pos h2]; simp [byteRow]
      · have h2' : ¬ (nn : Int) < 256 := by omega
        refine vc_cond_neg (p := (nn : Int) < 256) (by simp only [ev, upd_apply, Nat.reduceEqDiff, reduceIte]) h2' ?_
        simp -implicitDefEqProofs only [f0, f3, f6, go_sem, reduceIte, Nat.reduceEqDiff, Nat.reduceAdd, Nat.reduceLeDiff, Nat.reduceLT, vcGrps_guard, vcGuard, vcD_val, vcD_guard, vcDOut, vcDGuard]
        by_cases h3 : nn < 65536
        · have h3' : (nn : Int) < 65536 := by omega
          refine vc_cond_pos (p := (nn : Int) < 65536) (by simp only [ev, upd_apply, Nat.reduceEqDiff, reduceIte]) h3' ?_
          simp -implicitDefEqProofs only [f0, f3, f6, hr0, q1, q3, hz1, w1, w8, byteRow_length, go_sem, reduceIte, Nat.reduceEqDiff, Nat.reduceAdd, Nat.reduceLeDiff, Nat.reduceLT, vcGrps_guard, vcGuard, vcD_val, vcD_guard, vcDOut, vcDGuard]
          refine ⟨by simp; omega, ⟨T.n, ?_, hnT, ?_⟩, lo_grow hnT hk0 hr0 hwfT⟩
          · rw [hlr, if_neg h1, if_neg h2, if_pos h3]; simp
          · rw [hlr, if_neg h1, if_neg h2, if_pos h3]; simp [byteRow]
        · have h3' : ¬ (nn : Int) < 65536 := by omega
          refine vc_cond_neg (p := (nn : Int) < 65536) (by simp only [ev, upd_apply, Nat.reduceEqDiff, reduceIte]) h3' ?_
          simp -implicitDefEqProofs only [f0, f3, f6, hr0, q1, q2, q3, q4, hz1, hz2, w1, w2, w8, byteRow_length, go_sem, reduceIte, Nat.reduceEqDiff, Nat.reduceAdd, Nat.reduceLeDiff, Nat.reduceLT, vcGrps_guard, vcGuard, vcD_val, vcD_guard, vcDOut, vcDGuard]
          refine ⟨by simp; omega, ⟨T.n, ?_, hnT, ?_⟩, lo_grow hnT hk0 hr0 hwfT⟩
          · rw [hlr, if_neg h1, if_neg h2, if_neg h3]; simp
          · rw [hlr, if_neg h1, if_neg h2, if_neg h3]; simp [byteRow]
  clear f0 f3 f6 hk0 hr0 fr k0
  rintro fr U ⟨⟨k0, f0, hk0, hr0⟩, f3, hL2⟩
  have hgU := hL2.box _ _ _ hgT
  have hwfU := hL2.bound hwfT
  have hnU : m ≤ U.n := by have := hL2.n; omega
  -- the bytes
  refine vc_cut (fun fr V => (∃ k, fr 0 = .own k 0 (bs.length + 1 + (lenS (e.bytes.length + sumS e.kids)).length + e.bytes.length) ∧ m ≤ k ∧ V.get k = some (.row 5 1 0 (byteRow (bs ++ [firstS e] ++ lenS (e.bytes.length + sumS e.kids) ++ e.bytes)))) ∧ fr 3 = .ptr S.n 0 ∧ Lo m U V) ?_ ?_
  · simp -implicitDefEqProofs only [f0, f3, hr0, hgU, byteRow_length, List.length_append, List.length_map, go_sem, reduceIte, Nat.reduceEqDiff, Nat.reduceAdd, Nat.reduceLeDiff, Nat.reduceLT, vc_cond, vcCond, vcGrps_guard, vcGuard, vcD_val, vcD_guard, vcDOut, vcDGuard, vcCond_T, vcCond_F]
    refine ⟨by simp; omega, ⟨U.n, ?_, hnU, ?_⟩, lo_grow hnU hk0 hr0 hwfU⟩
    · simp
    · simp [byteRow]
  clear f0 f3 hk0 hr0 fr k0
  rintro fr V ⟨⟨k0, f0, hk0, hr0⟩, f3, hL3⟩
  have hgV := hL3.box _ _ _ hgU
  have hwfV := hL3.bound hwfU
  have hnV : m ≤ V.n := by have := hL3.n; omega
  have hLV : Lo m S V := (hlo0.trans hL1).trans (hL2.trans hL3)
  -- the elements within
  have hne : ∀ (x : List UInt8), bs ++ [firstS e] ++ x ≠ [] := fun x h => by simp at h
  simp -implicitDefEqProofs only [f0, f3, go_sem, reduceIte, Nat.reduceEqDiff, Nat.reduceAdd, Nat.reduceLeDiff, Nat.reduceLT, vc_cond, vcCond, vcGrps_guard, vcGuard, vcD_val, vcD_guard, vcDOut, vcDGuard, vcCond_T, vcCond_F]
  refine vc_loop (fun n fr U => ∃ i, i + n = e.kids.length ∧ fr 3 = .ptr S.n 0 ∧ fr 8 = .int .i64 i ∧ U.get S.n = some (.box 68 [.int .i64 c, .int .i64 t, .bool e.cons, .str e.bytes, .sl 5 (encEs e.kids ++ e.ext) e.kids.length]) ∧
    OS m U (fr 0) (bs ++ [firstS e] ++ (lenS (e.bytes.length + sumS e.kids) ++ e.bytes ++ putSs (e.kids.take i))) ∧ Lo m S U) e.kids.length
    ⟨0, by simp, by simp [upd_apply, f3], rfl, hgV, .inr ⟨k0, hk0, hwfV _ _ hr0, by simp [upd_apply, f0, putSs]; omega, by simpa [putSs] using hr0⟩, hLV⟩ ?_
  clear f0 f3 hk0 hr0 fr k0 hgV hwfV hnV hLV hL1 hL2 hL3 hgU hwfU hnU hgT hwfT hnT
  rintro n fr U ⟨i, hin, f3, f8, hgU, hos, hLU⟩
  by_cases hlt : i < e.kids.length
  · obtain ⟨k, hk⟩ : ∃ k, e.kids[i]? = some k := ⟨_, List.getElem?_eq_getElem hlt⟩
    have hkm : k ∈ e.kids := List.mem_of_getElem? hk
    have hat := encEs_at e.kids e.ext i k hk
    have h0 : (0 : Int) ≤ i := by omega
    have hlt' : (i : Int) < e.kids.length := by omega
    unfold lenMax at hlen
    have hi1 : IntKind.i64.wrap ((i : Int) + 1) = i + 1 := w64 _ (by omega) (by omega)
    have hst : sumS (e.kids.take i) + sizeS k ≤ sumS e.kids := by
      have := sumS_take e.kids (i + 1)
      rw [take_succ hk, sumS_app] at this; exact this
    have hpl := putSs_length (e.kids.take i) fun x hx => hsk x (List.mem_of_mem_take hx)
    simp -implicitDefEqProofs only [f3, f8, hgU, hlt, hlt', h0, hat, encEs_take, encEs_length, encE_length, encE_take5, decide_true, go_sem, reduceIte, Nat.reduceEqDiff, Nat.reduceAdd, Nat.reduceLeDiff, Nat.reduceLT, vc_cond, vcCond, vcGrps_guard, vcGuard, vcD_val, vcD_guard, vcDOut, vcDGuard, vcCond_T, vcCond_F]
    intro _
    refine (ih k hkm (hks k hkm) (htags k hkm) (hsk k hkm) m U (fr 0) _ hos (by have := hLU.n; omega) (by simp only [List.length_append, List.length_cons, List.length_nil]; omega)).mono ?_
    rintro r U2 ⟨β', rfl, hos2, hL2⟩
    simp -implicitDefEqProofs only [f3, f8, hi1, go_sem, reduceIte, Nat.reduceEqDiff, Nat.reduceAdd, Nat.reduceLeDiff, Nat.reduceLT, vc_cond, vcCond, vcGrps_guard, vcGuard, vcD_val, vcD_guard, vcDOut, vcDGuard, vcCond_T, vcCond_F]
    exact ⟨n - 1, by omega, i + 1, by omega, by simp, hL2.box _ _ _ hgU, by rw [take_succ hk, putSs_app]; simpa using hos2, hLU.trans hL2⟩
  · have hlt' : ¬ (i : Int) < e.kids.length := by omega
    have hi : i = e.kids.length := by omega
    rw [hi, List.take_length] at hos
    simp -implicitDefEqProofs only [f3, f8, hgU, hlt', encEs_take, encEs_length, decide_false, go_sem, reduceIte, Nat.reduceEqDiff, Nat.reduceAdd, Nat.reduceLeDiff, Nat.reduceLT, vc_cond, vcCond, vcGrps_guard, vcGuard, vcD_val, vcD_guard, vcDOut, vcDGuard, vcCond_T, vcCond_F]
    intro _
    exact ⟨_, rfl, by simpa using hos, hLU⟩
end Go.Proofs.YtajbeippbabhhaaGreatDoor.Eng

namespace Go.Proofs.YtajbeippbabhhaaGreatDoor.Eng
open Go Go.Proofs.Tryz

theorem c16 (e : Elem) (hok : okE e) : Pure prog 42 [.agg (encE e)] (.tup [.str (writeS e).1, .int .i64 (writeS e).2]) := by
  refine Pure.of (fun _ _ => by simp only [nm, nmL, and_self]) fun S => ACalls.wf fun hwf _ => acalls_of_vc low16 (by simp) ?_
  have hx := (Ext.refl S).push
  have hsr := size_ref e
  simp -implicitDefEqProofs only [B16, encE_length, encE_take5, go_sem, reduceIte, Nat.reduceEqDiff, Nat.reduceAdd, Nat.reduceLeDiff, Nat.reduceLT, vc_cond, vcCond, vcGrps_guard, vcGuard, vcD_val, vcD_guard, vcDOut, vcDGuard, vcCond_T, vcCond_F]
  refine (c49 e 0 (by omega)).use ?_
  simp -implicitDefEqProofs only [encE_length, encE_take5, go_sem, reduceIte, Nat.reduceEqDiff, Nat.reduceAdd, Nat.reduceLeDiff, Nat.reduceLT, vc_cond, vcCond, vcGrps_guard, vcGuard, vcD_val, vcD_guard, vcDOut, vcDGuard, vcCond_T, vcCond_F]
  refine ⟨fun h => ⟨by simp [writeS, h], hx _⟩, fun h1 => ⟨fun h => ⟨by simp [writeS, h1, h], hx _⟩, fun h2 => ⟨fun h => ⟨by simp [writeS, h1, h2, h], hx _⟩, fun h3 => ?_⟩⟩⟩
  refine (c50 e hok).use ?_
  simp -implicitDefEqProofs only [encE_length, encE_take5, go_sem, reduceIte, Nat.reduceEqDiff, Nat.reduceAdd, Nat.reduceLeDiff, Nat.reduceLT, vc_cond, vcCond, vcGrps_guard, vcGuard, vcD_val, vcD_guard, vcDOut, vcDGuard, vcCond_T, vcCond_F]
  have hlong : (rsizeS e : Int) > 65536 → writeS e = ([], 2) := fun h => by
    have : sizeS e > 65536 := by omega
    simp [writeS, h1, h2, h3, this]
  refine ⟨fun h => ⟨by rw [hlong h], hx _⟩, fun h4 => ?_⟩
  have h4' : sizeS e ≤ 65536 := by omega
  refine (c51 e hok (allTag_of e 0 h1 h3) h4' S.n _ (.lit (.slice none 0 0)) [] (.inl ⟨rfl, rfl⟩) (by simp [Store.n_push]) (by simp; omega)).mono ?_
  rintro r S2 ⟨β', rfl, hos, hL⟩
  have hw : writeS e = (putS e, 0) := by
    have : ¬ sizeS e > 65536 := by omega
    simp [writeS, h1, h2, h3, this]
  have hE : Ext S S2 := ⟨by have := hL.n; rw [Store.n_push] at this; omega, fun j hj => by rw [hL.get j hj, Store.get_push_ne _ _ (by omega)]⟩
  rw [hw]
  rcases hos with ⟨_, h⟩ | ⟨k, hk1, hk2, rfl, hrow⟩
  · exact absurd h (putS_ne e)
  · simp only [List.nil_append] at hrow
    have htk : (byteRow (putS e)).take (putS e).length = byteRow (putS e) := by rw [← byteRow_length (putS e)]; exact List.take_length ..
    simp -implicitDefEqProofs only [hrow, byteRow_length, List.nil_append, htk, bytesOf_byteRow, go_sem, reduceIte, Nat.reduceEqDiff, Nat.reduceAdd, Nat.reduceLeDiff, Nat.reduceLT, vc_cond, vcCond, vcGrps_guard, vcGuard, vcD_val, vcD_guard, vcDOut, vcDGuard, vcCond_T, vcCond_F]
    exact hE

theorem sameSs_len : ∀ (a b : List Elem), a.length ≠ b.length → sameSs a b = false
  | [], [], h => absurd rfl h
  | [], _ :: _, _ => by simp [sameSs]
  | _ :: _, [], _ => by simp [sameSs]
  | x :: a, y :: b, h => by simp only [sameSs, sameSs_len a b (by simpa using h), Bool.and_false]
theorem sameSs_at : ∀ (a b : List Elem) (i : Nat) (k x : Elem), a[i]? = some k → b[i]? = some x → sameS k x = false → sameSs a b = false
  | [], _, i, k, x, h, _, _ => by simp at h
  | _ :: _, [], i, k, x, _, h, _ => by simp at h
  | p :: a, q :: b, 0, k, x, h, h', hs => by simp at h h'; subst h; subst h'; simp [sameSs, hs]
  | p :: a, q :: b, i + 1, k, x, h, h', hs => by simp at h h'; simp [sameSs, sameSs_at a b i k x h h' hs]
theorem sameSs_app : ∀ (a b : List Elem) (k x : Elem), a.length = b.length → sameSs (a ++ [k]) (b ++ [x]) = (sameSs a b && sameS k x)
  | [], [], k, x, _ => by simp [sameSs]
  | [], _ :: _, k, x, h => by simp at h
  | _ :: _, [], k, x, h => by simp at h
  | p :: a, q :: b, k, x, h => by simp only [List.cons_append, sameSs, sameSs_app a b k x (by simpa using h), Bool.and_assoc]

theorem c17 : ∀ (a b : Elem), Pure prog 300 [.agg (encE a), .agg (encE b)] (.bool (sameS a b)) := by
  intro a
  induction a using Elem.ind with
  | h a ih =>
  intro b
  refine Pure.of (fun _ _ => by simp only [nm]) fun S => acalls_of_vc low17 (by simp) ?_
  rw [sameS_eta]
  obtain ⟨xa, hxa⟩ : ∃ bx, bx = AObj.box 68 [AV.int .i64 a.cls, .int .i64 a.tag, .bool a.cons, .str a.bytes, .sl 5 (encEs a.kids ++ a.ext) a.kids.length] := ⟨_, rfl⟩
  obtain ⟨xb, hxb⟩ : ∃ bx, bx = AObj.box 68 [AV.int .i64 b.cls, .int .i64 b.tag, .bool b.cons, .str b.bytes, .sl 5 (encEs b.kids ++ b.ext) b.kids.length] := ⟨_, rfl⟩
  unfold B17
  refine vc_cut (fun fr T => fr 2 = .ptr S.n 0 ∧ fr 3 = .ptr (S.n + 1) 0 ∧ T.get S.n = some xa ∧ T.get (S.n + 1) = some xb ∧ Ext S T) ?_ ?_
  · rw [encE_eta a, encE_eta b]
    simp -implicitDefEqProofs only [go_sem, reduceIte, Nat.reduceEqDiff, Nat.reduceAdd, Nat.reduceLeDiff, Nat.reduceLT, vc_cond, vcCond, vcGrps_guard, vcGuard, vcD_val, vcD_guard, vcDOut, vcDGuard, vcCond_T, vcCond_F]
    rw [hxa, hxb]
    exact ⟨by simp, rfl, ((Ext.refl S).push _).push _⟩
  rintro fr T ⟨f2, f3, ga, gb, hE⟩
  have ga' := ga
  have gb' := gb
  rw [hxa] at ga
  rw [hxb] at gb
  refine vc_cut (fun fr T => fr 2 = .ptr S.n 0 ∧ fr 3 = .ptr (S.n + 1) 0 ∧ T.get S.n = some xa ∧ T.get (S.n + 1) = some xb ∧ Ext S T ∧ a.cls = b.cls ∧ a.tag = b.tag ∧ a.cons = b.cons ∧ a.bytes = b.bytes ∧ a.kids.length = b.kids.length) ?_ ?_
  · simp -implicitDefEqProofs only [f2, f3, ga, gb, encEs_take, encEs_length, go_sem, reduceIte, Nat.reduceEqDiff, Nat.reduceAdd, Nat.reduceLeDiff, Nat.reduceLT, vc_cond, vcCond, vcGrps_guard, vcGuard, vcD_val, vcD_guard, vcDOut, vcDGuard, vcCond_T, vcCond_F]
    exact ⟨fun h1 => ⟨fun h2 => ⟨fun h3 => ⟨fun h4 _ _ => ⟨fun h5 => ⟨by rw [sameSs_len _ _ (by omega)]; simp, hE⟩, fun h5 => ⟨hxa.symm, hxb.symm, hE, by simpa using h1, by simpa using h2, by simpa using h3, by simpa using h4, by omega⟩⟩,
      fun h4 => ⟨by simp [h4], hE⟩⟩, fun h3 => ⟨by simp [h3], hE⟩⟩, fun h2 => ⟨by simp [h2], hE⟩⟩, fun h1 => ⟨by simp [h1], hE⟩⟩
  clear f2 f3 ga gb ga' gb' hE fr T
  rintro fr T ⟨f2, f3, ga, gb, hE, h1, h2, h3, h4, h5⟩
  have hred : (decide (a.cls = b.cls) && (decide (a.tag = b.tag) && (decide (a.cons = b.cons) && (decide (a.bytes = b.bytes) && sameSs a.kids b.kids)))) = sameSs a.kids b.kids := by simp [h1, h2, h3, h4]
  rw [hred]
  simp -implicitDefEqProofs only [f2, f3, go_sem, reduceIte, Nat.reduceEqDiff, Nat.reduceAdd, Nat.reduceLeDiff, Nat.reduceLT, vc_cond, vcCond, vcGrps_guard, vcGuard, vcD_val, vcD_guard, vcDOut, vcDGuard, vcCond_T, vcCond_F]
  refine vc_loop (fun n fr T => ∃ i, i + n = a.kids.length ∧ fr 2 = .ptr S.n 0 ∧ fr 3 = .ptr (S.n + 1) 0 ∧ T.get S.n = some xa ∧ T.get (S.n + 1) = some xb ∧ Ext S T ∧ fr 5 = .int .i64 i ∧ sameSs (a.kids.take i) (b.kids.take i) = true) a.kids.length
    ⟨0, by simp, by simp [upd_apply, f2], by simp [upd_apply, f3], ga, gb, hE, rfl, rfl⟩ ?_
  clear f2 f3 ga gb hE fr T
  rintro n fr T ⟨i, hin, f2, f3, ga, gb, hE, f5, hs⟩
  have ga' := ga
  have gb' := gb
  rw [hxa] at ga
  rw [hxb] at gb
  by_cases hlt : i < a.kids.length
  · obtain ⟨k, hk⟩ : ∃ k, a.kids[i]? = some k := ⟨_, List.getElem?_eq_getElem hlt⟩
    obtain ⟨x, hx⟩ : ∃ k, b.kids[i]? = some k := ⟨_, List.getElem?_eq_getElem (by omega)⟩
    have hkm : k ∈ a.kids := List.mem_of_getElem? hk
    have hat := encEs_at a.kids a.ext i k hk
    have hbt := encEs_at b.kids b.ext i x hx
    have h0 : (0 : Int) ≤ i := by omega
    have hlt' : (i : Int) < a.kids.length := by omega
    have hltb : i < b.kids.length := by omega
    simp -implicitDefEqProofs only [f2, f3, f5, ga, gb, hlt, hlt', hltb, h0, hat, hbt, encEs_take, encEs_length, encE_length, encE_take5, decide_true, go_sem, reduceIte, Nat.reduceEqDiff, Nat.reduceAdd, Nat.reduceLeDiff, Nat.reduceLT, vc_cond, vcCond, vcGrps_guard, vcGuard, vcD_val, vcD_guard, vcDOut, vcDGuard, vcCond_T, vcCond_F]
    intro hlen
    unfold lenMax at hlen
    have hi1 : IntKind.i64.wrap ((i : Int) + 1) = i + 1 := w64 _ (by omega) (by omega)
    refine ⟨_, (ih k hkm x).ok, ?_⟩
    simp -implicitDefEqProofs only [f2, f3, f5, hi1, go_sem, reduceIte, Nat.reduceEqDiff, Nat.reduceAdd, Nat.reduceLeDiff, Nat.reduceLT, vc_cond, vcCond, vcGrps_guard, vcGuard, vcD_val, vcD_guard, vcDOut, vcDGuard, vcCond_T, vcCond_F]
    refine ⟨fun h => ⟨by rw [sameSs_at _ _ _ _ _ hk hx h], hE⟩, fun h => ⟨n - 1, by omega, i + 1, by omega, hxa.symm, hxb.symm, hE, by simp, ?_⟩⟩
    rw [take_succ hk, take_succ hx, sameSs_app _ _ _ _ (by simp; omega), hs, h]; rfl
  · have hlt' : ¬ (i : Int) < a.kids.length := by omega
    have hi : i = a.kids.length := by omega
    rw [hi, List.take_length, h5, List.take_length] at hs
    simp -implicitDefEqProofs only [f2, f3, f5, ga, gb, hlt', encEs_take, encEs_length, decide_false, go_sem, reduceIte, Nat.reduceEqDiff, Nat.reduceAdd, Nat.reduceLeDiff, Nat.reduceLT, decide_true, decide_false, vc_cond2, vcGrps_guard2, vcD_val2, vcD_guard2]
    intro _
    exact ⟨by rw [hs], hE⟩
end Go.Proofs.YtajbeippbabhhaaGreatDoor.Eng

namespace Go.Proofs.YtajbeippbabhhaaGreatDoor.Eng
open Go Go.Proofs.Tryz

theorem lentSs_length : ∀ (ks : List Elem), (lentSs ks).length = ks.length
  | [] => rfl
  | k :: ks => by simp only [lentSs, List.length_cons, lentSs_length ks]
theorem lentSs_get : ∀ (ks : List Elem) (i : Nat) (k : Elem), ks[i]? = some k → (lentSs ks)[i]? = some (lentS k)
  | k :: ks, 0, x, h => by simp at h; subst h; simp [lentSs]
  | k :: ks, i + 1, x, h => by simp only [List.getElem?_cons_succ] at h; simp only [lentSs, List.getElem?_cons_succ]; exact lentSs_get ks i x h
theorem lentS_eta (e : Elem) : lentS e = .mk e.cls e.tag e.cons e.bytes (lentSs e.kids) [marker] := by cases e; rfl

end Go.Proofs.YtajbeippbabhhaaGreatDoor.Eng

namespace Go.Proofs.YtajbeippbabhhaaGreatDoor.Eng
open Go Go.Proofs.Tryz

/-- A row that was made within is given out in the result. -/
theorem ACalls.backSl {P : Program} {f : FuncId} {args : List AV} {S : Store} {K0 K : AEnd → Store → Prop} (h : ACalls P f args S K0)
    (hk : ∀ r S', K0 r S' → ∃ (k t s frz : Nat) (es : List (List AV)), Ext S S' ∧ S.n ≤ k ∧ S'.get k = some (.row t s frz es) ∧ fzOk k es.length r.val ∧ nm S.n (fz k s es r.val) ∧ K (r.with (fz k s es r.val)) S) : ACalls P f args S K :=
  ACalls.wf fun hwf hn => h.turn fun r S' hr => by
    obtain ⟨k, t, s, frz, es, h1, h2, h3, h4, h5, h6⟩ := hk r S' hr
    refine ⟨fz k s es r.val, S, ?_, h6⟩
    have t1 : Turn S.n [r.val] S' (fzL k s es [r.val]) (S'.set k none) := Turn.freeze h3 (by simp only [fzOkL]; exact ⟨h4, trivial⟩)
    simp only [fzL] at t1
    have h1' := h1.set k none h2
    refine t1.trans (Turn.reset h1'.n (Nat.le_refl _) (fun l o e => ?_) (by simp only [nmL]; exact ⟨h5, trivial⟩))
    obtain ⟨a1, a2⟩ := hwf l o e
    exact ⟨by rw [h1'.get l a1]; exact e, a1, a2⟩

theorem encEs_app (a b : List Elem) : encEs (a ++ b) = encEs a ++ encEs b := by
  induction a with
  | nil => simp [encEs]
  | cons x a ih => simp only [List.cons_append, encEs, ih]
theorem lentSs_app : ∀ (a : List Elem) (k : Elem), lentSs (a ++ [k]) = lentSs a ++ [lentS k]
  | [], k => by simp [lentSs]
  | x :: a, k => by simp only [List.cons_append, lentSs, lentSs_app a k]
theorem set_mid {α : Type} (a b : List α) (x y : α) : (a ++ x :: b).set a.length y = a ++ y :: b := by simp [List.set_append]
theorem get_mid {α : Type} (a b : List α) (x : α) : (a ++ x :: b)[a.length]? = some x := by simp

theorem nmLL_append' (n : Nat) (a b : List (List AV)) (h1 : nmLL n a) (h2 : nmLL n b) : nmLL n (a ++ b) := (nmLL_append n a b).2 ⟨h1, h2⟩
mutual
theorem nm_lent : ∀ (e : Elem) (n : Nat), nmL n (encE (lentS e))
  | .mk c t k b ks ext, n => by
    simp only [lentS, encE, nmL, nm, and_true, true_and]
    exact nmLL_append' n _ _ (nm_lents ks n) (by simp only [nmLL, marker, nmL, nm, and_self])
theorem nm_lents : ∀ (ks : List Elem) (n : Nat), nmLL n (encEs (lentSs ks))
  | [], n => by simp only [lentSs, encEs, nmLL]
  | k :: ks, n => by simp only [lentSs, encEs, nmLL]; exact ⟨nm_lent k n, nm_lents ks n⟩
end

end Go.Proofs.YtajbeippbabhhaaGreatDoor.Eng

namespace Go.Proofs.YtajbeippbabhhaaGreatDoor.Eng
open Go Go.Proofs.Tryz

def strE (tag : Int) (s : List UInt8) : Elem := .mk 0 tag false s [] []
theorem encE_strE (tag : Int) (s : List UInt8) : encE (strE tag s) = [.int .i64 0, .int .i64 tag, .bool false, .str s, .sl 5 [] 0] := rfl
theorem wk_strE (tag : Int) (s : List UInt8) : Wk (.agg [.int .i64 0, .int .i64 tag, .bool false, .str s, .lit (.slice none 0 0)]) (.agg (encE (strE tag s))) :=
  Wk.agg (.cons (Wk.refl _) (.cons (Wk.refl _) (.cons (Wk.refl _) (.cons (Wk.refl _) (.cons (Wk.nil 5) .nil)))))

theorem c21 (tag : Int) (s : List UInt8) : Pure prog 248 [.int .i64 tag, .str s] (.agg (encE (strE tag s))) := by
  refine Pure.weak (Pure.of (v := .agg [.int .i64 0, .int .i64 tag, .bool false, .str s, .lit (.slice none 0 0)]) (fun _ _ => by simp only [nm, nmL, and_self]) fun S => acalls_of_vc low21 (by simp) ?_) (wk_strE tag s)
  have hx := (Ext.refl S).push
  simp -implicitDefEqProofs only [B21, go_sem, reduceIte, Nat.reduceEqDiff, Nat.reduceAdd, Nat.reduceLeDiff, Nat.reduceLT, vc_cond, vcCond, vcGrps_guard, vcGuard, vcD_val, vcD_guard, vcDOut, vcDGuard, vcCond_T, vcCond_F]
  exact (hx _).set _ _ (Nat.le_refl _)
theorem c25 (tag : Int) (s : List UInt8) : Pure prog 175 [.int .i64 tag, .str s] (.agg (encE (strE tag s))) := by
  refine Pure.weak (Pure.of (v := .agg [.int .i64 0, .int .i64 tag, .bool false, .str s, .lit (.slice none 0 0)]) (fun _ _ => by simp only [nm, nmL, and_self]) fun S => acalls_of_vc low25 (by simp) ?_) (wk_strE tag s)
  have hx := (Ext.refl S).push
  simp -implicitDefEqProofs only [B25, go_sem, reduceIte, Nat.reduceEqDiff, Nat.reduceAdd, Nat.reduceLeDiff, Nat.reduceLT, vc_cond, vcCond, vcGrps_guard, vcGuard, vcD_val, vcD_guard, vcDOut, vcDGuard, vcCond_T, vcCond_F]
  exact (hx _).set _ _ (Nat.le_refl _)

theorem wrap_u64' (n : Int) : IntKind.u64.wrap n = n % 18446744073709551616 := by simp [IntKind.wrap, IntKind.bits, IntKind.signed]

/-! ## A number with a sign -/
def fits (k : Nat) (v : Int) : Prop := -(2 ^ (8 * k - 1) : Int) ≤ v ∧ v < 2 ^ (8 * k - 1)
instance (k : Nat) (v : Int) : Decidable (fits k v) := by unfold fits; exact inferInstance
def nOf (v : Int) : Nat := if fits 1 v then 1 else if fits 2 v then 2 else if fits 3 v then 3 else if fits 4 v then 4 else if fits 5 v then 5 else if fits 6 v then 6 else if fits 7 v then 7 else 8
def sgn (v : Int) : List UInt8 := beN (nOf v) (v % 18446744073709551616).toNat
theorem nOf_le (v : Int) : 1 ≤ nOf v ∧ nOf v ≤ 8 := by unfold nOf; repeat' split
                                                       all_goals omega
theorem nOf_step (v : Int) (k : Nat) (h1 : 1 ≤ k) (hk : k ≤ nOf v) (h : ¬ (k < 8 ∧ ¬ fits k v)) : k = nOf v := by
  have h8 := nOf_le v
  have : k = 1 ∨ k = 2 ∨ k = 3 ∨ k = 4 ∨ k = 5 ∨ k = 6 ∨ k = 7 ∨ k = 8 := by omega
  unfold nOf at hk h8 ⊢
  rcases this with rfl | rfl | rfl | rfl | rfl | rfl | rfl | rfl <;> grind
theorem nOf_more (v : Int) (k : Nat) (h1 : 1 ≤ k) (hk : k ≤ nOf v) (h : k < 8 ∧ ¬ fits k v) : k + 1 ≤ nOf v := by
  have h8 := nOf_le v
  have : k = 1 ∨ k = 2 ∨ k = 3 ∨ k = 4 ∨ k = 5 ∨ k = 6 ∨ k = 7 ∨ k = 8 := by omega
  unfold nOf at hk h8 ⊢
  rcases this with rfl | rfl | rfl | rfl | rfl | rfl | rfl | rfl <;> grind
theorem shl_shr (v : Int) (hv : i64ok v) (k : Nat) (h1 : 1 ≤ k) (h7 : k ≤ 7) :
    (v = (IntKind.i64.wrap (v * 2 ^ min (64 - 8 * (k : Int)).toNat (bitsA .i64))).fdiv (2 ^ min (64 - 8 * (k : Int)).toNat (bitsA .i64))) ↔ fits k v := by
  have hb : (bitsA .i64) = 64 := rfl
  unfold fits
  unfold i64ok at hv
  have : k = 1 ∨ k = 2 ∨ k = 3 ∨ k = 4 ∨ k = 5 ∨ k = 6 ∨ k = 7 := by omega
  rw [hb, IntKind.wrap_i64]
  rcases this with rfl | rfl | rfl | rfl | rfl | rfl | rfl
  all_goals
    rw [Int.fdiv_eq_ediv_of_nonneg _ (by decide)]
    simp only [Int.ofNat_one, Int.reduceMul, Int.reduceSub, Int.reduceToNat, Nat.reduceMul, Nat.reduceSub, show min 56 64 = 56 from rfl, show min 48 64 = 48 from rfl, show min 40 64 = 40 from rfl, show min 32 64 = 32 from rfl, show min 24 64 = 24 from rfl, show min 16 64 = 16 from rfl, show min 8 64 = 8 from rfl, Int.reducePow, Int.cast_ofNat_Int]
    omega


theorem c53 (v : Int) (hv : i64ok v) : Pure prog 249 [.int .i64 v] (.str (sgn v)) := by
  refine Pure.of (fun _ _ => by simp only [nm]) fun S => acalls_of_vc low53 (by simp) ?_
  have hx := Ext.refl S
  obtain ⟨hn1, hn8⟩ := nOf_le v
  unfold B53
  refine vc_cut (fun fr S' => fr 0 = .int .i64 v ∧ S' = S) (by simp -implicitDefEqProofs only [go_sem, reduceIte, Nat.reduceEqDiff, Nat.reduceAdd, Nat.reduceLeDiff, Nat.reduceLT, vc_cond, vcCond, vcGrps_guard, vcGuard, vcD_val, vcD_guard, vcDOut, vcDGuard, vcCond_T, vcCond_F]) ?_
  rintro fr S' ⟨f0, rfl⟩
  refine vc_cut (fun fr T => fr 0 = .int .i64 v ∧ fr 3 = .int .i64 ((1 : Nat) : Int) ∧ T = S') (by simp -implicitDefEqProofs only [f0, go_sem, reduceIte, Nat.reduceEqDiff, Nat.reduceAdd, Nat.reduceLeDiff, Nat.reduceLT, vc_cond, vcCond, vcGrps_guard, vcGuard, vcD_val, vcD_guard, vcDOut, vcDGuard, vcCond_T, vcCond_F]; rfl) ?_
  clear f0 fr
  rintro fr T ⟨f0, f3, rfl⟩
  refine vc_cut (fun fr S' => fr 0 = .int .i64 v ∧ fr 3 = .int .i64 (nOf v : Nat) ∧ Ext T S') ?_ ?_
  · simp -implicitDefEqProofs only [go_sem, reduceIte, Nat.reduceEqDiff, Nat.reduceAdd, Nat.reduceLeDiff, Nat.reduceLT, vc_cond, vcCond, vcGrps_guard, vcGuard, vcD_val, vcD_guard, vcDOut, vcDGuard, vcCond_T, vcCond_F]
    refine vc_loop (fun n fr S' => ∃ k, k + n = nOf v ∧ 1 ≤ k ∧ fr 0 = .int .i64 v ∧ fr 3 = .int .i64 k ∧ Ext T S') (nOf v - 1) ⟨1, by omega, by omega, f0, f3, hx⟩ ?_
    clear f0 f3 fr
    rintro n fr S' ⟨k, hkn, hk, f0, f3, hS⟩
    have hw8 : IntKind.i64.wrap (8 * (k : Int)) = 8 * k := w64 _ (by omega) (by omega)
    have hw64 : IntKind.i64.wrap (64 - 8 * (k : Int)) = 64 - 8 * k := w64 _ (by omega) (by omega)
    have hi1 : IntKind.i64.wrap ((k : Int) + 1) = k + 1 := w64 _ (by omega) (by omega)
    have hn8' : ¬ (64 - 8 * (k : Int) < 0) := by omega
    by_cases hstop : k < 8 ∧ ¬ fits k v
    · have hk8 : (k : Int) < 8 := by omega
      have hne : ¬ (v = (IntKind.i64.wrap (v * 2 ^ min (64 - 8 * (k : Int)).toNat (bitsA .i64))).fdiv (2 ^ min (64 - 8 * (k : Int)).toNat (bitsA .i64))) := fun h => hstop.2 ((shl_shr v hv k hk (by omega)).1 h)
      simp -implicitDefEqProofs only [f0, f3, ashift, hw8, hw64, hi1, hn8', hk8, hne, ne_eq, not_false_eq_true, decide_true, go_sem, reduceIte, Nat.reduceEqDiff, Nat.reduceAdd, Nat.reduceLeDiff, Nat.reduceLT, vc_cond, vcCond, vcGrps_guard, vcGuard, vcD_val, vcD_guard, vcDOut, vcDGuard, vcCond_T, vcCond_F]
      have hm := nOf_more v k hk (by omega) hstop
      clear hne
      exact ⟨n - 1, by omega, k + 1, by omega, by omega, by simp, hS⟩
    · have hkk := nOf_step v k hk (by omega) hstop
      by_cases hk8 : k < 8
      · have hk8' : (k : Int) < 8 := by omega
        have hne : v = (IntKind.i64.wrap (v * 2 ^ min (64 - 8 * (k : Int)).toNat (bitsA .i64))).fdiv (2 ^ min (64 - 8 * (k : Int)).toNat (bitsA .i64)) := ((shl_shr v hv k hk (by omega)).2 (by
          by_cases hf : fits k v
          · exact hf
          · exact absurd ⟨hk8, hf⟩ hstop))
        simp -implicitDefEqProofs only [f0, f3, ashift, hw8, hw64, hi1, hn8', hk8', ← hne, ne_eq, not_true, decide_true, decide_false, go_sem, reduceIte, Nat.reduceEqDiff, Nat.reduceAdd, Nat.reduceLeDiff, Nat.reduceLT, vc_cond, vcCond, vcGrps_guard, vcGuard, vcD_val, vcD_guard, vcDOut, vcDGuard, vcCond_T, vcCond_F]
        exact ⟨by rw [hkk], hS⟩
      · have hk8' : ¬ (k : Int) < 8 := by omega
        simp -implicitDefEqProofs only [f0, f3, ashift, hw8, hw64, hi1, hn8', hk8', ne_eq, not_true, decide_true, decide_false, go_sem, reduceIte, Nat.reduceEqDiff, Nat.reduceAdd, Nat.reduceLeDiff, Nat.reduceLT, vc_cond, vcCond, vcGrps_guard, vcGuard, vcD_val, vcD_guard, vcDOut, vcDGuard, vcCond_T, vcCond_F]
        exact ⟨by rw [hkk], hS⟩
  clear f0 f3 fr
  rintro fr S' ⟨f0, f3, hS⟩
  have hwv : IntKind.u64.wrap v = (((v % 18446744073709551616).toNat : Nat) : Int) := by rw [wrap_u64']; omega
  unfold sgn
  generalize hV : (v % 18446744073709551616).toNat = V at hwv ⊢
  generalize nOf v = k at hn1 hn8 f3 ⊢
  have hk0 : (0 : Int) ≤ k := by omega
  simp -implicitDefEqProofs only [f0, f3, List.length_replicate, List.take_replicate, go_sem, reduceIte, Nat.reduceEqDiff, Nat.reduceAdd, Nat.reduceLeDiff, Nat.reduceLT, vc_cond, vcCond, vcGrps_guard, vcGuard, vcD_val, vcD_guard, vcDOut, vcDGuard, vcCond_T, vcCond_F]
  refine ⟨by unfold lenMax; omega, fun _ => ?_⟩
  refine vc_loop (fun n fr U => ∃ i, i + n = k ∧ fr 0 = .int .i64 v ∧ fr 3 = .int .i64 k ∧ fr 4 = .own S'.n 0 k ∧ fr 26 = .int .i64 k ∧ fr 27 = .int .i64 i ∧
    U.get S'.n = some (.row 5 1 0 (byteRow (List.replicate (k - i) 0 ++ beN i V))) ∧ Ext T U) k ⟨0, by simp, by simp [upd_apply, f0], by simp [upd_apply, f3], by simp [upd_apply], by simp [upd_apply], rfl, ?_, hS.push _⟩ ?_
  · simp [Store.get_push, beN, byteRow]
  clear f0 f3 fr
  rintro n fr U ⟨i, hin, f0, f3, f4, f26, f27, hrow, hU⟩
  by_cases hlt : i < k
  · have hlt' : (i : Int) < k := by omega
    have hwk : IntKind.i64.wrap ((k : Int) - 1) = k - 1 := w64 _ (by omega) (by omega)
    have hwi : IntKind.i64.wrap ((k : Int) - 1 - i) = k - 1 - i := w64 _ (by omega) (by omega)
    have hw8 : IntKind.i64.wrap (8 * (i : Int)) = 8 * i := w64 _ (by omega) (by omega)
    have hi1 : IntKind.i64.wrap ((i : Int) + 1) = i + 1 := w64 _ (by omega) (by omega)
    have hn8 : ¬ (8 * (i : Int) < 0) := by omega
    have hsh : (V : Int).fdiv (2 ^ min (8 * (i : Int)).toNat (bitsA .u64)) = ((V / 2 ^ (8 * i) : Nat) : Int) := by
      have e : min (8 * (i : Int)).toNat (bitsA .u64) = 8 * i := by
        have : (bitsA .u64) = 64 := rfl
        rw [this]; omega
      rw [e, show ((2 : Int) ^ (8 * i)) = ((2 ^ (8 * i) : Nat) : Int) by push_cast; rfl, fdiv_nat]
    have hp : (0 : Int) ≤ (k : Int) - 1 - i := by omega
    have hj : ((k : Int) - 1 - i).toNat = k - 1 - i := by omega
    have hlen : (byteRow (List.replicate (k - i) 0 ++ beN i V)).length = k := by simp [byteRow, beN_length]; omega
    have hget : (byteRow (List.replicate (k - i) 0 ++ beN i V))[k - 1 - i]? = some [.int .u8 (0 : UInt8).toNat] := by
      simp only [byteRow, List.getElem?_map]
      rw [List.getElem?_append_left (by simp; omega), List.getElem?_replicate, if_pos (by omega)]; rfl
    have hset := rep_set _ (UInt8.ofNat (V / 2 ^ (8 * i))) k i (beN i V) hlt (beN_length i V) rfl
    simp -implicitDefEqProofs only [f0, f3, f4, f26, f27, ashift, hlt', hwk, hwi, hw8, hi1, hn8, hwv, hsh, hp, hj, hrow, hlen, hget, w8, decide_true, go_sem, reduceIte, Nat.reduceEqDiff, Nat.reduceAdd, Nat.reduceLeDiff, Nat.reduceLT, vc_cond, vcCond, vcGrps_guard, vcGuard, vcD_val, vcD_guard, vcDOut, vcDGuard, vcCond_T, vcCond_F]
    refine ⟨by omega, n - 1, by omega, i + 1, by omega, by simp, ?_, hU.set _ _ hS.n⟩
    rw [hset]; rfl
  · have hlt' : ¬ (i : Int) < k := by omega
    have hik : i = k := by omega
    subst hik
    have hb : bytesOf (byteRow (beN i V)) = some (beN i V) := bytesOf_byteRow _
    have hlen : (byteRow (beN i V)).length = i := by rw [byteRow_length, beN_length]
    have htk : (byteRow (beN i V)).take i = byteRow (beN i V) := by
      have := List.take_length (l := byteRow (beN i V)); rwa [hlen] at this
    simp only [Nat.sub_self, List.replicate_zero, List.nil_append] at hrow
    simp -implicitDefEqProofs only [f0, f3, f4, f26, f27, hlt', hrow, hlen, htk, hb, decide_false, go_sem, reduceIte, Nat.reduceEqDiff, Nat.reduceAdd, Nat.reduceLeDiff, Nat.reduceLT, vc_cond, vcCond, vcGrps_guard, vcGuard, vcD_val, vcD_guard, vcDOut, vcDGuard, vcCond_T, vcCond_F]
    exact hU
end Go.Proofs.YtajbeippbabhhaaGreatDoor.Eng

namespace Go.Proofs.YtajbeippbabhhaaGreatDoor.Eng
open Go Go.Proofs.Tryz

mutual
def copyE : Elem → Elem
  | .mk c t k b ks _ => .mk c t k b (copyEs ks) []
def copyEs : List Elem → List Elem
  | [] => []
  | k :: ks => copyE k :: copyEs ks
end
theorem copyEs_length : ∀ (ks : List Elem), (copyEs ks).length = ks.length
  | [] => rfl
  | k :: ks => by simp only [copyEs, List.length_cons, copyEs_length ks]
theorem copyE_eta (e : Elem) : copyE e = .mk e.cls e.tag e.cons e.bytes (copyEs e.kids) [] := by cases e; rfl
theorem copyEs_app : ∀ (a : List Elem) (k : Elem), copyEs (a ++ [k]) = copyEs a ++ [copyE k]
  | [], k => by simp [copyEs]
  | x :: a, k => by simp only [List.cons_append, copyEs, copyEs_app a k]
def lstV (ks : List Elem) (ext : List (List AV)) : AV := .sl 5 (encEs ks ++ ext) ks.length
mutual
theorem nm_copy : ∀ (e : Elem) (n : Nat), nmL n (encE (copyE e))
  | .mk c t k b ks ext, n => by
    simp only [copyE, encE, nmL, nm, and_true, true_and, List.append_nil]
    exact nm_copys ks n
theorem nm_copys : ∀ (ks : List Elem) (n : Nat), nmLL n (encEs (copyEs ks))
  | [], n => by simp only [copyEs, encEs, nmLL]
  | k :: ks, n => by simp only [copyEs, encEs, nmLL]; exact ⟨nm_copy k n, nm_copys ks n⟩
end

theorem okEs_of : ∀ (ks : List Elem), (∀ k ∈ ks, okE k) → okEs ks
  | [], _ => by simp only [okEs]
  | k :: ks, h => by simp only [okEs]; exact ⟨h k (by simp), okEs_of ks fun x hx => h x (by simp [hx])⟩

theorem c54e : ∀ (e : Elem), okE e → Pure prog 265 [lstV e.kids e.ext] (lstV (copyEs e.kids) []) := by
  intro e
  induction e using Elem.ind with
  | h e ih =>
  intro hok
  obtain ⟨_, _, hbl, hkl, hks⟩ := okE_eta hok
  unfold maxB at hkl
  by_cases h0 : e.kids = []
  · refine Pure.weak (Pure.of (v := .lit (.slice none 0 0)) (fun _ _ => by simp only [nm]) fun S => acalls_of_vc low54 (by simp) ?_) (by rw [h0]; exact Wk.nil 5)
    have hx := Ext.refl S
    unfold lstV
    rw [h0]
    simp -implicitDefEqProofs only [B54, encEs, List.nil_append, List.length_nil, List.take_zero, go_sem, reduceIte, Nat.reduceEqDiff, Nat.reduceAdd, Nat.reduceLeDiff, Nat.reduceLT, vc_cond, vcCond, vcGrps_guard, vcGuard, vcD_val, vcD_guard, vcDOut, vcDGuard, vcCond_T, vcCond_F]
    refine fun _ => vc_loop (fun n fr U => fr 3 = .lit (.slice none 0 0) ∧ fr 7 = .int .i64 0 ∧ fr 8 = .int .i64 0 ∧ U = S) 0 ⟨by simp [upd_apply], by simp [upd_apply], rfl, rfl⟩ ?_
    rintro n fr U ⟨f3, f7, f8, rfl⟩
    have h00 : ¬ (0 : Int) < 0 := by omega
    simp -implicitDefEqProofs only [f3, f7, f8, h00, decide_false, go_sem, reduceIte, Nat.reduceEqDiff, Nat.reduceAdd, Nat.reduceLeDiff, Nat.reduceLT, vc_cond, vcCond, vcGrps_guard, vcGuard, vcD_val, vcD_guard, vcDOut, vcDGuard, vcCond_T, vcCond_F]
    exact hx
  intro S
  refine ACalls.backSl (K0 := fun r S' => ∃ k, S.n ≤ k ∧ r = .ret (.own k 0 e.kids.length) ∧ S'.get k = some (.row 68 5 0 (encEs (copyEs e.kids))) ∧ Ext S S') ?_ ?_
  rotate_left
  · rintro r S' ⟨k, hk, rfl, hrow, hE⟩
    have hv : fz k 5 (encEs (copyEs e.kids)) (.own k 0 e.kids.length) = lstV (copyEs e.kids) [] := by
      simp [fz, lstV, copyEs_length]
    refine ⟨k, 68, 5, 0, _, hE, hk, hrow, ?_, ?_, ?_⟩
    · simp only [AEnd.val, fzOk, encEs_length, copyEs_length]
      intro _; omega
    · show nm S.n (fz k 5 (encEs (copyEs e.kids)) (.own k 0 e.kids.length))
      rw [hv]; simp only [nm, lstV, List.append_nil]; exact nm_copys _ _
    · show (AEnd.ret _ = _) ∧ S = S
      exact ⟨by rw [← hv]; rfl, rfl⟩
  refine acalls_of_vc low54 (by simp) ?_
  have hx := Ext.refl S
  unfold lstV
  simp -implicitDefEqProofs only [B54, encEs_take, encEs_length, go_sem, reduceIte, Nat.reduceEqDiff, Nat.reduceAdd, Nat.reduceLeDiff, Nat.reduceLT, vc_cond, vcCond, vcGrps_guard, vcGuard, vcD_val, vcD_guard, vcDOut, vcDGuard, vcCond_T, vcCond_F]
  refine fun _ => vc_loop (fun n fr U => ∃ i, i + n = e.kids.length ∧ fr 6 = .sl 5 (encEs e.kids ++ e.ext) e.kids.length ∧ fr 7 = .int .i64 e.kids.length ∧ fr 8 = .int .i64 i ∧ Ext S U ∧
    ((i = 0 ∧ fr 3 = .lit (.slice none 0 0)) ∨ ∃ k, S.n ≤ k ∧ k < U.n ∧ fr 3 = .own k 0 i ∧ U.get k = some (.row 68 5 0 (encEs (copyEs (e.kids.take i)))))) e.kids.length
    ⟨0, by simp, by simp [upd_apply], by simp [upd_apply], rfl, hx, .inl ⟨rfl, by simp [upd_apply]⟩⟩ ?_
  rintro n fr U ⟨i, hin, f6, f7, f8, hE, hrow⟩
  by_cases hlt : i < e.kids.length
  · obtain ⟨k, hk⟩ : ∃ k, e.kids[i]? = some k := ⟨_, List.getElem?_eq_getElem hlt⟩
    have hkm : k ∈ e.kids := List.mem_of_getElem? hk
    have hat := encEs_at e.kids e.ext i k hk
    have h0 : (0 : Int) ≤ i := by omega
    have hlt' : (i : Int) < e.kids.length := by omega
    have hi1 : IntKind.i64.wrap ((i : Int) + 1) = i + 1 := w64 _ (by omega) (by omega)
    have hck : [AV.int .i64 k.cls, .int .i64 k.tag, .bool k.cons, .str k.bytes, lstV (copyEs k.kids) []] = encE (copyE k) := by rw [copyE_eta]; rfl
    have hik := ih k hkm (hks k hkm)
    unfold lstV at hik
    rcases hrow with ⟨hi0, f3⟩ | ⟨r, hr1, hr2, f3, hrow⟩
    · simp -implicitDefEqProofs only [f3, f6, f7, f8, hlt, hlt', h0, hat, hi1, encE_length, encE_take5, splice_encE, decide_true, go_sem, reduceIte, Nat.reduceEqDiff, Nat.reduceAdd, Nat.reduceLeDiff, Nat.reduceLT, vc_cond, vcCond, vcGrps_guard, vcGuard, vcD_val, vcD_guard, vcDOut, vcDGuard, vcCond_T, vcCond_F]
      rw [encE_eta k]
      simp -implicitDefEqProofs only [go_sem, reduceIte, Nat.reduceEqDiff, Nat.reduceAdd, Nat.reduceLeDiff, Nat.reduceLT, vc_cond, vcCond, vcGrps_guard, vcGuard, vcD_val, vcD_guard, vcDOut, vcDGuard, vcCond_T, vcCond_F]
      refine hik.use ?_
      simp -implicitDefEqProofs only [f3, f6, f7, f8, hi1, go_sem, reduceIte, Nat.reduceEqDiff, Nat.reduceAdd, Nat.reduceLeDiff, Nat.reduceLT, vc_cond, vcCond, vcGrps_guard, vcGuard, vcD_val, vcD_guard, vcDOut, vcDGuard, vcCond_T, vcCond_F]
      subst hi0
      refine ⟨by omega, n - 1, by omega, 1, by omega, by simp, (((hE.push _).set _ _ hE.n).set _ _ hE.n).push _, .inr ⟨_, by have := hE.n; omega, by omega, rfl, ?_⟩⟩
      rw [if_pos rfl, take_succ hk]
      simp only [List.take_zero, List.nil_append, copyEs, encEs, ← hck, lstV]
    · have hru : ¬ r = U.n := by omega
      simp -implicitDefEqProofs only [f3, f6, f7, f8, hlt, hlt', h0, hat, hi1, hrow, encE_length, encE_take5, splice_encE, decide_true, go_sem, reduceIte, Nat.reduceEqDiff, Nat.reduceAdd, Nat.reduceLeDiff, Nat.reduceLT, vc_cond, vcCond, vcGrps_guard, vcGuard, vcD_val, vcD_guard, vcDOut, vcDGuard, vcCond_T, vcCond_F]
      rw [encE_eta k]
      simp -implicitDefEqProofs only [go_sem, reduceIte, Nat.reduceEqDiff, Nat.reduceAdd, Nat.reduceLeDiff, Nat.reduceLT, vc_cond, vcCond, vcGrps_guard, vcGuard, vcD_val, vcD_guard, vcDOut, vcDGuard, vcCond_T, vcCond_F]
      refine hik.use ?_
      have hlen : (encEs (copyEs (e.kids.take i))).length = i := by rw [encEs_length, copyEs_length, List.length_take]; omega
      simp -implicitDefEqProofs only [f3, f6, f7, f8, hi1, hru, hrow, hlen, go_sem, reduceIte, Nat.reduceEqDiff, Nat.reduceAdd, Nat.reduceLeDiff, Nat.reduceLT, vc_cond, vcCond, vcGrps_guard, vcGuard, vcD_val, vcD_guard, vcDOut, vcDGuard, vcCond_T, vcCond_F]
      refine ⟨by omega, n - 1, by omega, i + 1, by omega, by simp, ((((hE.push _).set _ _ hE.n).set _ _ hE.n).set _ _ hr1).push _, .inr ⟨_, by have := hE.n; omega, by omega, rfl, ?_⟩⟩
      rw [if_pos rfl, take_succ hk, copyEs_app, encEs_app]
      simp only [encEs, ← hck, lstV]
  · have hlt' : ¬ (i : Int) < e.kids.length := by omega
    have hi : i = e.kids.length := by omega
    have hne : e.kids.length ≠ 0 := fun h => h0 (List.eq_nil_of_length_eq_zero h)
    rcases hrow with ⟨hi0, f3⟩ | ⟨r, hr1, hr2, f3, hrow⟩
    · omega
    · simp -implicitDefEqProofs only [f3, f6, f7, f8, hlt', decide_false, go_sem, reduceIte, Nat.reduceEqDiff, Nat.reduceAdd, Nat.reduceLeDiff, Nat.reduceLT, vc_cond, vcCond, vcGrps_guard, vcGuard, vcD_val, vcD_guard, vcDOut, vcDGuard, vcCond_T, vcCond_F]
      rw [hi, List.take_length] at hrow
      exact ⟨r, hr1, by rw [hi], hrow, hE⟩

theorem c54 (ks : List Elem) (ext : List (List AV)) (hb : ks.length * 64 ≤ maxB) (hks : ∀ k ∈ ks, okE k) : Pure prog 265 [lstV ks ext] (lstV (copyEs ks) []) := by
  refine c54e (.mk 0 0 false [] ks ext) ?_
  simp only [okE]
  exact ⟨⟨by omega, by omega⟩, ⟨by omega, by omega⟩, by simp, hb, okEs_of ks hks⟩

/-! ## Elements that are made -/
def seqE (ks : List Elem) : Elem := .mk 0 16 true [] ks []
theorem c23 (ks : List Elem) (ext : List (List AV)) (hb : ks.length * 64 ≤ maxB) (hks : ∀ k ∈ ks, okE k) : Pure prog 165 [lstV ks ext] (.agg (encE (seqE (copyEs ks)))) := by
  refine Pure.of (fun n _ => by simp only [nm, seqE, encE, nmL, and_true, true_and, List.append_nil]; exact nm_copys ks n) fun S => acalls_of_vc low23 (by simp) ?_
  have hx := (Ext.refl S).push
  simp -implicitDefEqProofs only [B23, go_sem, reduceIte, Nat.reduceEqDiff, Nat.reduceAdd, Nat.reduceLeDiff, Nat.reduceLT, vc_cond, vcCond, vcGrps_guard, vcGuard, vcD_val, vcD_guard, vcDOut, vcDGuard, vcCond_T, vcCond_F]
  refine (c54 ks ext hb hks).use ?_
  unfold lstV
  simp -implicitDefEqProofs only [go_sem, reduceIte, Nat.reduceEqDiff, Nat.reduceAdd, Nat.reduceLeDiff, Nat.reduceLT, vc_cond, vcCond, vcGrps_guard, vcGuard, vcD_val, vcD_guard, vcDOut, vcDGuard, vcCond_T, vcCond_F]
  exact ⟨rfl, (hx _).set _ _ (Nat.le_refl _)⟩
theorem c20 (tag v : Int) (hv : i64ok v) : Pure prog 161 [.int .i64 tag, .int .i64 v] (.agg (encE (strE tag (sgn v)))) := by
  refine Pure.of (fun n _ => by simp only [nm, strE, encE, nmL, and_true, true_and, List.append_nil, encEs, nmLL]) fun S => acalls_of_vc low20 (by simp) ?_
  have hx := (Ext.refl S).push
  simp -implicitDefEqProofs only [B20, go_sem, reduceIte, Nat.reduceEqDiff, Nat.reduceAdd, Nat.reduceLeDiff, Nat.reduceLT, vc_cond, vcCond, vcGrps_guard, vcGuard, vcD_val, vcD_guard, vcDOut, vcDGuard, vcCond_T, vcCond_F]
  refine (c53 v hv).use ?_
  simp -implicitDefEqProofs only [go_sem, reduceIte, Nat.reduceEqDiff, Nat.reduceAdd, Nat.reduceLeDiff, Nat.reduceLT, vc_cond, vcCond, vcGrps_guard, vcGuard, vcD_val, vcD_guard, vcDOut, vcDGuard, vcCond_T, vcCond_F]
  refine (c21 tag (sgn v)).use ?_
  rw [encE_strE]
  simp -implicitDefEqProofs only [go_sem, reduceIte, Nat.reduceEqDiff, Nat.reduceAdd, Nat.reduceLeDiff, Nat.reduceLT, vc_cond, vcCond, vcGrps_guard, vcGuard, vcD_val, vcD_guard, vcDOut, vcDGuard, vcCond_T, vcCond_F]
  exact (hx _).set _ _ (Nat.le_refl _)
end Go.Proofs.YtajbeippbabhhaaGreatDoor.Eng

namespace Go.Proofs.YtajbeippbabhhaaGreatDoor.Eng
open Go Go.Proofs.Tryz

/-! ## A number out of bytes -/
def getS (l : List UInt8) : Nat := l.foldl (fun v b => v * 256 + b.toNat) 0
theorem getS_app (l : List UInt8) (b : UInt8) : getS (l ++ [b]) = getS l * 256 + b.toNat := by simp [getS, List.foldl_append]
theorem take_get {α : Type} {l : List α} {i : Nat} {b : α} (h : l[i]? = some b) : l.take (i + 1) = l.take i ++ [b] := by rw [List.take_add_one, h]; rfl
theorem getS_lt (l : List UInt8) : getS l < 256 ^ l.length := by
  obtain ⟨n, hn⟩ : ∃ n, n = l.length := ⟨_, rfl⟩
  induction n generalizing l with
  | zero => rw [List.eq_nil_of_length_eq_zero hn.symm]; decide
  | succ n ih =>
    obtain ⟨a, b, rfl⟩ : ∃ a b, l = a ++ [b] := ⟨l.dropLast, l.getLast (by intro h; simp [h] at hn), (List.dropLast_concat_getLast _).symm⟩
    have := ih a (by simp at hn; omega)
    have hb := b.toNat_lt
    rw [getS_app, List.length_append, List.length_singleton, Nat.pow_succ]
    omega
theorem or_nat (a b : Nat) (ha : a < 2 ^ 63) (hb : b < 2 ^ 63) : IntKind.i64.wrap ((BitVec.ofInt (bitsA .i64) a ||| BitVec.ofInt (bitsA .i64) b).toNat : Int) = ((a ||| b : Nat) : Int) := by
  have hbits : (bitsA .i64) = 64 := rfl
  have h := Nat.or_lt_two_pow ha hb
  rw [hbits, BitVec.toNat_or, BitVec.toNat_ofInt, BitVec.toNat_ofInt]
  have e1 : ((a : Int) % ((2 ^ 64 : Nat) : Int)).toNat = a := by omega
  have e2 : ((b : Int) % ((2 ^ 64 : Nat) : Int)).toNat = b := by omega
  rw [e1, e2, w64 _ (by omega) (by omega)]
theorem or_byte (v : Nat) (b : UInt8) : (v * 256 ||| b.toNat) = v * 256 + b.toNat := by
  have := Nat.shiftLeft_add_eq_or_of_lt (b := b.toNat) (i := 8) b.toNat_lt v
  rw [Nat.shiftLeft_eq] at this
  exact this.symm
theorem pow256 (n : Nat) (h : n ≤ 6) : 256 ^ n ≤ 281474976710656 := by
  have : n = 0 ∨ n = 1 ∨ n = 2 ∨ n = 3 ∨ n = 4 ∨ n = 5 ∨ n = 6 := by omega
  rcases this with rfl | rfl | rfl | rfl | rfl | rfl | rfl <;> decide

theorem c67 (l : List UInt8) (h1 : 1 ≤ l.length) (h7 : l.length ≤ 7) : Pure prog 242 [.str l] (.tup [.int .i64 (getS l), .int .i64 0]) := by
  refine Pure.of (fun _ _ => by simp only [nm, nmL, and_self]) fun S => acalls_of_vc low67 (by simp) ?_
  have hx := Ext.refl S
  have g1 : ¬ ((l.length : Int) < 1) := by omega
  have g2 : ¬ ((l.length : Int) > 7) := by omega
  simp -implicitDefEqProofs only [B67, g1, g2, decide_false, go_sem, reduceIte, Nat.reduceEqDiff, Nat.reduceAdd, Nat.reduceLeDiff, Nat.reduceLT, decide_true, decide_false, vc_cond2, vcGrps_guard2, vcD_val2, vcD_guard2]
  intro _ _ _
  refine vc_loop (fun n fr T => ∃ i, i + n = l.length ∧ fr 0 = .str l ∧ fr 15 = .int .i64 l.length ∧ fr 16 = .int .i64 i ∧ fr 4 = .int .i64 (getS (l.take i)) ∧ T = S) l.length ⟨0, by simp, by simp [upd_apply], by simp [upd_apply], rfl, by simp [upd_apply, getS], rfl⟩ ?_
  rintro n fr T ⟨i, hin, f0, f15, f16, f4, rfl⟩
  by_cases hlt : i < l.length
  · obtain ⟨b, hb⟩ : ∃ b, l[i]? = some b := ⟨_, List.getElem?_eq_getElem hlt⟩
    have h0 : (0 : Int) ≤ i := by omega
    have hlt' : (i : Int) < l.length := by omega
    have hi1 : IntKind.i64.wrap ((i : Int) + 1) = i + 1 := w64 _ (by omega) (by omega)
    have hv := getS_lt (l.take i)
    rw [List.length_take, Nat.min_eq_left (by omega)] at hv
    have hp := pow256 i (by omega)
    have hsh : IntKind.i64.wrap ((getS (l.take i) : Int) * 2 ^ min (Int.toNat 8) (bitsA .i64)) = ((getS (l.take i) * 256 : Nat) : Int) := by
      have e8 : (2 : Int) ^ min (Int.toNat 8) (bitsA .i64) = 256 := rfl
      rw [e8, w64 _ (by omega) (by omega)]; omega
    have hwb : IntKind.i64.wrap (b.toNat : Int) = b.toNat := w64 _ (by omega) (by have := b.toNat_lt; omega)
    have hor := or_nat (getS (l.take i) * 256) b.toNat (by omega) (by have := b.toNat_lt; omega)
    rw [or_byte] at hor
    have h08 : ¬ (8 : Int) < 0 := by decide
    simp -implicitDefEqProofs only [f0, f15, f16, f4, ashift, hlt', h0, h08, hb, hi1, hsh, hwb, hor, decide_true, go_sem, reduceIte, Nat.reduceEqDiff, Nat.reduceAdd, Nat.reduceLeDiff, Nat.reduceLT, decide_true, decide_false, vc_cond2, vcGrps_guard2, vcD_val2, vcD_guard2]
    exact ⟨n - 1, by omega, i + 1, by omega, by simp, by rw [take_get hb, getS_app]⟩
  · have hlt' : ¬ (i : Int) < l.length := by omega
    have hi : i = l.length := by omega
    rw [hi, List.take_length] at f4
    simp -implicitDefEqProofs only [f0, f15, f16, f4, hlt', decide_false, go_sem, reduceIte, Nat.reduceEqDiff, Nat.reduceAdd, Nat.reduceLeDiff, Nat.reduceLT, decide_true, decide_false, vc_cond2, vcGrps_guard2, vcD_val2, vcD_guard2]
    exact hx

/-! ## The head of an element -/
def rheadS : List UInt8 → Nat × Nat × Nat
  | [] => (0, 0, 20)
  | [c] => if c.toNat % 32 = 31 then (0, 0, 21) else (0, 0, 20)
  | c :: d :: r => if c.toNat % 32 = 31 then (0, 0, 21) else if d.toNat < 128 then (2, d.toNat, 0) else if d.toNat < 129 ∨ d.toNat > 132 then (0, 0, 22) else
    if r.length < d.toNat - 128 then (0, 0, 20) else (2 + (d.toNat - 128), getS (r.take (d.toNat - 128)), 0)
def headS (b : List UInt8) : Nat × Nat × Nat := if (rheadS b).1 + (rheadS b).2.1 > 65536 then (0, 0, 2) else rheadS b
def encH (x : Nat × Nat × Nat) : AV := .tup [.int .i64 (x.1 : Nat), .int .i64 (x.2.1 : Nat), .int .i64 (x.2.2 : Nat)]

theorem and31 : ∀ (c : UInt8), IntKind.u8.wrap ((BitVec.ofInt (bitsA .u8) (c.toNat : Int) &&& BitVec.ofInt (bitsA .u8) 31).toNat : Int) = ((c.toNat % 32 : Nat) : Int) := by
  have h : ∀ c : Fin 256, IntKind.u8.wrap ((BitVec.ofInt (bitsA .u8) (c.val : Int) &&& BitVec.ofInt (bitsA .u8) 31).toNat : Int) = ((c.val % 32 : Nat) : Int) := by decide +kernel
  exact fun c => h ⟨c.toNat, c.toNat_lt⟩

theorem c52 (b : List UInt8) : Pure prog 143 [.str b] (encH (headS b)) := by
  refine Pure.of (fun _ _ => by simp only [encH, nm, nmL, and_self]) fun S => acalls_of_vc low52 (by simp) ?_
  have hx := Ext.refl S
  have hz : Int.toNat 0 = 0 := rfl
  have hz1 : Int.toNat 1 = 1 := rfl
  have hc1 : ((1 : Nat) : Int) = 1 := rfl
  match b with
  | [] =>
    simp -implicitDefEqProofs only [B52, go_sem, reduceIte, Nat.reduceEqDiff, Nat.reduceAdd, Nat.reduceLeDiff, Nat.reduceLT, decide_true, decide_false, vc_cond2, vcGrps_guard2, vcD_val2, vcD_guard2]
    exact ⟨rfl, hx⟩
  | [c] =>
    have hne : ¬ [c] = [] := by simp
    have h0 : (0 : Int) ≤ 0 := by decide
    have a31 := and31 c
    by_cases h31 : c.toNat % 32 = 31
    · have hg : ((c.toNat % 32 : Nat) : Int) > 30 := by omega
      simp -implicitDefEqProofs only [B52, hne, h0, hz, a31, hg, go_sem, reduceIte, Nat.reduceEqDiff, Nat.reduceAdd, Nat.reduceLeDiff, Nat.reduceLT, decide_true, decide_false, vc_cond2, vcGrps_guard2, vcD_val2, vcD_guard2]
      exact ⟨by simp [headS, rheadS, h31, encH], hx⟩
    · have hg : ¬ ((c.toNat % 32 : Nat) : Int) > 30 := by omega
      simp -implicitDefEqProofs only [B52, hne, h0, hz, hc1, a31, hg, go_sem, reduceIte, Nat.reduceEqDiff, Nat.reduceAdd, Nat.reduceLeDiff, Nat.reduceLT, decide_true, decide_false, vc_cond2, vcGrps_guard2, vcD_val2, vcD_guard2]
      intro _
      exact ⟨by simp [headS, rheadS, h31, encH], hx⟩
  | c :: d :: r =>
    have hne : ¬ c :: d :: r = [] := by simp
    have h0 : (0 : Int) ≤ 0 := by decide
    have h01 : (0 : Int) ≤ 1 := by decide
    have a31 := and31 c
    by_cases h31 : c.toNat % 32 = 31
    · have hg : ((c.toNat % 32 : Nat) : Int) > 30 := by omega
      simp -implicitDefEqProofs only [B52, hne, h0, hz, a31, hg, go_sem, reduceIte, Nat.reduceEqDiff, Nat.reduceAdd, Nat.reduceLeDiff, Nat.reduceLT, decide_true, decide_false, vc_cond2, vcGrps_guard2, vcD_val2, vcD_guard2]
      exact ⟨by simp [headS, rheadS, h31, encH], hx⟩
    have hg : ¬ ((c.toNat % 32 : Nat) : Int) > 30 := by omega
    have hl1 : ¬ ((r.length + 1 + 1 : Nat) : Int) = 1 := by omega
    have hwd : IntKind.i64.wrap (d.toNat : Int) = d.toNat := w64 _ (by omega) (by have := d.toNat_lt; omega)
    by_cases hd : d.toNat < 128
    · have hd' : (d.toNat : Int) < 128 := by omega
      simp -implicitDefEqProofs only [B52, hne, h0, h01, hz, hz1, a31, hg, hl1, hd', hwd, go_sem, reduceIte, Nat.reduceEqDiff, Nat.reduceAdd, Nat.reduceLeDiff, Nat.reduceLT, decide_true, decide_false, vc_cond2, vcGrps_guard2, vcD_val2, vcD_guard2]
      intro _
      refine ⟨?_, hx⟩
      rw [headS, rheadS, if_neg h31, if_pos hd, if_neg (by simp only; omega)]; rfl
    have hd' : ¬ (d.toNat : Int) < 128 := by omega
    obtain ⟨n, hn⟩ : ∃ n, n = d.toNat - 128 := ⟨_, rfl⟩
    have hdl := d.toNat_lt
    have hws : IntKind.i64.wrap ((d.toNat : Int) - 128) = (n : Nat) := by rw [w64 _ (by omega) (by omega)]; omega
    have hw2 : IntKind.i64.wrap (2 + (n : Int)) = ((2 + n : Nat) : Int) := by rw [w64 _ (by omega) (by omega)]; push_cast; rfl
    by_cases hn1 : d.toNat < 129 ∨ d.toNat > 132
    · have hr : rheadS (c :: d :: r) = (0, 0, 22) := by rw [rheadS, if_neg h31, if_neg hd, if_pos hn1]
      rw [headS, hr, if_neg (by simp)]
      by_cases hn0 : (n : Int) < 1
      · simp -implicitDefEqProofs only [B52, hne, h0, h01, hz, hz1, a31, hg, hl1, hd', hwd, hws, hn0, go_sem, reduceIte, Nat.reduceEqDiff, Nat.reduceAdd, Nat.reduceLeDiff, Nat.reduceLT, decide_true, decide_false, vc_cond2, vcGrps_guard2, vcD_val2, vcD_guard2]
        intro _
        exact ⟨rfl, hx⟩
      · have hn4 : (n : Int) > 4 := by omega
        simp -implicitDefEqProofs only [B52, hne, h0, h01, hz, hz1, a31, hg, hl1, hd', hwd, hws, hn0, hn4, go_sem, reduceIte, Nat.reduceEqDiff, Nat.reduceAdd, Nat.reduceLeDiff, Nat.reduceLT, decide_true, decide_false, vc_cond2, vcGrps_guard2, vcD_val2, vcD_guard2]
        intro _
        exact ⟨rfl, hx⟩
    have hn0 : ¬ (n : Int) < 1 := by omega
    have hn4 : ¬ (n : Int) > 4 := by omega
    by_cases hrl : r.length < n
    · have hr : rheadS (c :: d :: r) = (0, 0, 20) := by rw [rheadS, if_neg h31, if_neg hd, if_neg hn1, if_pos (by omega)]
      rw [headS, hr, if_neg (by simp)]
      have hl2 : ((r.length + 1 + 1 : Nat) : Int) < ((2 + n : Nat) : Int) := by omega
      simp -implicitDefEqProofs only [B52, hne, h0, h01, hz, hz1, a31, hg, hl1, hd', hwd, hws, hn0, hn4, hw2, hl2, go_sem, reduceIte, Nat.reduceEqDiff, Nat.reduceAdd, Nat.reduceLeDiff, Nat.reduceLT, decide_true, decide_false, vc_cond2, vcGrps_guard2, vcD_val2, vcD_guard2]
      intro _ _
      exact ⟨rfl, hx⟩
    have hr : rheadS (c :: d :: r) = (2 + n, getS (r.take n), 0) := by rw [rheadS, if_neg h31, if_neg hd, if_neg hn1, if_neg (by omega), ← hn]
    have hl2 : ¬ ((r.length + 1 + 1 : Nat) : Int) < ((2 + n : Nat) : Int) := by omega
    have hlo : (0 : Int) ≤ 2 := by decide
    have hhi : (0 : Int) ≤ ((2 + n : Nat) : Int) := by omega
    have ht2 : Int.toNat 2 = 2 := rfl
    have hle1 : 2 ≤ 2 + n := by omega
    have hle2 : 2 + n ≤ r.length + 1 + 1 := by omega
    have hsl : List.drop 2 (List.take (2 + n) (c :: d :: r)) = r.take n := by
      rw [show 2 + n = n + 1 + 1 by omega]; rfl
    simp -implicitDefEqProofs only [B52, hne, h0, h01, hz, hz1, a31, hg, hl1, hd', hwd, hws, hn0, hn4, hw2, hl2, hlo, hhi, ht2, hle1, hle2, hsl, go_sem, reduceIte, Nat.reduceEqDiff, Nat.reduceAdd, Nat.reduceLeDiff, Nat.reduceLT, decide_true, decide_false, vc_cond2, vcGrps_guard2, vcD_val2, vcD_guard2]
    intro _ _
    have htl : (r.take n).length = n := by rw [List.length_take]; omega
    have hv := getS_lt (r.take n)
    rw [htl] at hv
    have hp : 256 ^ n ≤ 4294967296 := by
      have : n = 1 ∨ n = 2 ∨ n = 3 ∨ n = 4 := by omega
      rcases this with rfl | rfl | rfl | rfl <;> decide
    refine (c67 (r.take n) (by omega) (by omega)).use ?_
    have hw3 : IntKind.i64.wrap (((2 + n : Nat) : Int) + (getS (r.take n) : Nat)) = ((2 + (n + getS (r.take n)) : Nat) : Int) := by rw [w64 _ (by omega) (by omega)]; push_cast; omega
    rw [headS, hr]
    by_cases hlong : 2 + n + getS (r.take n) > 65536
    · have hlong' : ((2 + (n + getS (r.take n)) : Nat) : Int) > 65536 := by omega
      rw [if_pos hlong]
      simp -implicitDefEqProofs only [hw2, hw3, hlong', go_sem, reduceIte, Nat.reduceEqDiff, Nat.reduceAdd, Nat.reduceLeDiff, Nat.reduceLT, decide_true, decide_false, vc_cond2, vcGrps_guard2, vcD_val2, vcD_guard2]
      exact ⟨rfl, hx⟩
    · have hlong' : ¬ ((2 + (n + getS (r.take n)) : Nat) : Int) > 65536 := by omega
      rw [if_neg hlong]
      simp -implicitDefEqProofs only [hw2, hw3, hlong', go_sem, reduceIte, Nat.reduceEqDiff, Nat.reduceAdd, Nat.reduceLeDiff, Nat.reduceLT, decide_true, decide_false, vc_cond2, vcGrps_guard2, vcD_val2, vcD_guard2]
      exact ⟨rfl, hx⟩

def frameS (b : List UInt8) : Nat × Nat := ((headS b).1 + (headS b).2.1, (headS b).2.2)
theorem rheadS_lt (b : List UInt8) : (rheadS b).1 ≤ 6 ∧ (rheadS b).2.1 < 4294967296 ∧ (rheadS b).2.2 < 30 ∧ ((rheadS b).2.2 ≠ 0 → (rheadS b).1 = 0 ∧ (rheadS b).2.1 = 0) := by
  match b with
  | [] => simp [rheadS]
  | [c] => simp only [rheadS]; split <;> simp
  | c :: d :: r =>
    simp only [rheadS]
    split
    · simp
    split
    · exact ⟨by simp, by simp only; have := d.toNat_lt; omega, by simp, by simp⟩
    split
    · simp
    split
    · simp
    rename_i h1 h2 h3 h4
    have hv := getS_lt (r.take (d.toNat - 128))
    rw [List.length_take, Nat.min_eq_left (by omega)] at hv
    have hp : 256 ^ (d.toNat - 128) ≤ 4294967296 := by
      have : d.toNat - 128 = 1 ∨ d.toNat - 128 = 2 ∨ d.toNat - 128 = 3 ∨ d.toNat - 128 = 4 := by omega
      rcases this with h | h | h | h <;> rw [h] <;> decide
    exact ⟨by simp only; omega, by simp only; omega, by simp, by simp⟩
theorem headS_lt (b : List UInt8) : (headS b).1 ≤ 6 ∧ (headS b).1 + (headS b).2.1 ≤ 65536 ∧ (headS b).2.2 < 30 ∧ ((headS b).2.2 ≠ 0 → (headS b).1 = 0 ∧ (headS b).2.1 = 0) := by
  obtain ⟨h1, h2, h3, h4⟩ := rheadS_lt b
  unfold headS
  split
  · simp
  · exact ⟨h1, by omega, h3, h4⟩
theorem c19 (b : List UInt8) : Pure prog 23 [.str b] (.tup [.int .i64 ((frameS b).1 : Nat), .int .i64 ((frameS b).2 : Nat)]) := by
  refine Pure.of (fun _ _ => by simp only [nm, nmL, and_self]) fun S => acalls_of_vc low19 (by simp) ?_
  obtain ⟨h1, h2, _⟩ := headS_lt b
  simp -implicitDefEqProofs only [B19, go_sem, reduceIte, Nat.reduceEqDiff, Nat.reduceAdd, Nat.reduceLeDiff, Nat.reduceLT, decide_true, decide_false, vc_cond2, vcGrps_guard2, vcD_val2, vcD_guard2]
  refine (c52 b).use ?_
  have hw : IntKind.i64.wrap (((headS b).1 : Int) + ((headS b).2.1 : Nat)) = (((headS b).1 + (headS b).2.1 : Nat) : Int) := by rw [w64 _ (by omega) (by omega)]; push_cast; rfl
  simp -implicitDefEqProofs only [encH, hw, go_sem, reduceIte, Nat.reduceEqDiff, Nat.reduceAdd, Nat.reduceLeDiff, Nat.reduceLT, decide_true, decide_false, vc_cond2, vcGrps_guard2, vcD_val2, vcD_guard2]
  exact ⟨rfl, Ext.refl S⟩

/-! ## The first call -/
theorem wE : writeS (seqE (copyEs [strE 2 (sgn 5), strE 4 [97, 98]])) = ([48, 7, 2, 1, 5, 4, 2, 97, 98], 0) := by decide +kernel
theorem fE : frameS [48, 7] = (9, 0) := by decide +kernel
end Go.Proofs.YtajbeippbabhhaaGreatDoor.Eng

namespace Go.Proofs.YtajbeippbabhhaaGreatDoor.Eng
open Go Go.Proofs.Tryz

/-! ## What is lent is told alike -/
mutual
theorem each_lent (p : Elem → Bool) (hp : ∀ e, p (lentS e) = p e) : ∀ (e : Elem) (w : Int), eachS p (lentS e) w = eachS p e w
  | .mk c t k b ks ext, w => by
    have h := hp (.mk c t k b ks ext)
    simp only [lentS] at h ⊢
    simp only [eachS, h, eachs_lent p hp ks (w + 1)]
theorem eachs_lent (p : Elem → Bool) (hp : ∀ e, p (lentS e) = p e) : ∀ (ks : List Elem) (w : Int), eachSs p (lentSs ks) w = eachSs p ks w
  | [], w => rfl
  | k :: ks, w => by simp only [lentSs, eachSs, each_lent p hp k w, eachs_lent p hp ks w]
end
theorem tag_lent (e : Elem) : tagOk (lentS e) = tagOk e := by cases e; rfl
theorem form_lent (e : Elem) : formOk (lentS e) = formOk e := by
  cases e with
  | mk c t k b ks ext =>
    simp only [lentS, formOk, Elem.cons, Elem.bytes, Elem.kids, lentSs_length]
    cases k <;> rfl
mutual
theorem deep_lent : ∀ (e : Elem) (w : Int), deepS (lentS e) w = deepS e w
  | .mk c t k b ks ext, w => by simp only [lentS, deepS, deeps_lent ks (w + 1)]
theorem deeps_lent : ∀ (ks : List Elem) (w : Int), deepSs (lentSs ks) w = deepSs ks w
  | [], w => rfl
  | k :: ks, w => by simp only [lentSs, deepSs, deep_lent k w, deeps_lent ks w]
end
mutual
theorem size_lent : ∀ (e : Elem), sizeS (lentS e) = sizeS e
  | .mk c t k b ks ext => by simp only [lentS, sizeS, sizes_lent ks]
theorem sizes_lent : ∀ (ks : List Elem) (n : Nat), sizeSs (lentSs ks) n = sizeSs ks n
  | [], n => rfl
  | k :: ks, n => by simp only [lentSs, sizeSs, size_lent k, sizes_lent ks]
end
theorem sum_lent : ∀ (ks : List Elem), sumS (lentSs ks) = sumS ks
  | [] => rfl
  | k :: ks => by simp only [lentSs, sumS, size_lent k, sum_lent ks]
mutual
theorem put_lent : ∀ (e : Elem), putS (lentS e) = putS e
  | .mk c t k b ks ext => by simp only [lentS, putS, sum_lent ks, puts_lent ks, firstS, Elem.cls, Elem.tag, Elem.cons]; rfl
theorem puts_lent : ∀ (ks : List Elem), putSs (lentSs ks) = putSs ks
  | [] => rfl
  | k :: ks => by simp only [lentSs, putSs, put_lent k, puts_lent ks]
end
theorem write_lent (e : Elem) : writeS (lentS e) = writeS e := by
  simp only [writeS, each_lent tagOk tag_lent, each_lent formOk form_lent, deep_lent, size_lent, put_lent]
mutual
theorem same_lent : ∀ (e : Elem), sameS (lentS e) e = true
  | .mk c t k b ks ext => by simp only [lentS, sameS, Elem.cls, Elem.tag, Elem.cons, Elem.bytes, Elem.kids, sames_lent ks, decide_true, Bool.and_true]
theorem sames_lent : ∀ (ks : List Elem), sameSs (lentSs ks) ks = true
  | [] => rfl
  | k :: ks => by simp only [lentSs, sameSs, same_lent k, sames_lent ks, Bool.and_true]
end
mutual
theorem ok_lent : ∀ (e : Elem), okE e → okE (lentS e)
  | .mk c t k b ks ext, h => by simp only [lentS, okE, lentSs_length] at h ⊢; exact ⟨h.1, h.2.1, h.2.2.1, h.2.2.2.1, oks_lent ks h.2.2.2.2⟩
theorem oks_lent : ∀ (ks : List Elem), okEs ks → okEs (lentSs ks)
  | [], _ => by simp only [lentSs, okEs]
  | k :: ks, h => by simp only [lentSs, okEs] at h ⊢; exact ⟨ok_lent k h.1, oks_lent ks h.2⟩
end

end Go.Proofs.YtajbeippbabhhaaGreatDoor.Eng

namespace Go.Proofs.YtajbeippbabhhaaGreatDoor.Eng
open Go Go.Proofs.Tryz

/-! ## The head of what is written -/
theorem getS_beN : ∀ (k n : Nat), n < 256 ^ k → getS (beN k n) = n := by
  have key : ∀ (k n a : Nat), (beN k n).foldl (fun v b => v * 256 + b.toNat) a = a * 256 ^ k + n % 256 ^ k := by
    intro k
    induction k with
    | zero => intro n a; simp [beN, Nat.mod_one]
    | succ k ih =>
      intro n a
      rw [beN, List.foldl_cons, ih]
      have h1 : (UInt8.ofNat (n / 2 ^ (8 * k))).toNat = n / 256 ^ k % 256 := by
        rw [show (2 : Nat) ^ (8 * k) = 256 ^ k by rw [Nat.pow_mul]]
        simp
      rw [h1, Nat.pow_succ, Nat.mod_mul, Nat.add_mul, Nat.mul_assoc, Nat.mul_comm 256 (256 ^ k)]
      have := Nat.mul_comm (n / 256 ^ k % 256) (256 ^ k)
      omega
  intro k n h
  have := key k n 0
  rw [getS, this, Nat.mod_eq_of_lt h]; simp
theorem kOf_256 (n : Nat) (h : n < 16777216) : n < 256 ^ kOf n := by
  have := (kOf_lt n h).2.2
  rwa [Nat.pow_mul] at this
/-- An element's bytes begin so. -/
theorem rhead_put (c : UInt8) (hc : c.toNat % 32 ≠ 31) (n : Nat) (hn : n < 16777216) (rest : List UInt8) (i : Nat) :
    rheadS ((c :: (lenS n ++ rest)).take i) = if i < 1 + (lenS n).length then (0, 0, 20) else (1 + (lenS n).length, n, 0) := by
  have hk := kOf_lt n hn
  match i with
  | 0 => rw [if_pos (by omega)]; rfl
  | 1 =>
    have := (lenS_length n).2
    rw [if_pos (by omega)]
    simp only [List.take_succ_cons, List.take_zero, rheadS, if_neg hc]
  | i + 2 =>
    simp only [List.take_succ_cons]
    unfold lenS
    by_cases h1 : n < 128
    · simp only [if_pos h1, List.cons_append, List.nil_append, List.take_succ_cons, List.length_cons, List.length_nil]
      rw [if_neg (by omega), rheadS, if_neg hc]
      have : (UInt8.ofNat n).toNat = n := by simp; omega
      rw [this, if_pos h1]
    · simp only [if_neg h1, List.cons_append, List.take_succ_cons, List.length_cons, beN_length]
      have hd : (UInt8.ofNat (128 + kOf n)).toNat = 128 + kOf n := by simp; omega
      rw [rheadS, if_neg hc, hd, if_neg (by omega), if_neg (by omega), show 128 + kOf n - 128 = kOf n by omega]
      have hl : ((beN (kOf n) n ++ rest).take i).length = min i (kOf n + rest.length) := by rw [List.length_take, List.length_append, beN_length]
      by_cases h2 : i < kOf n
      · rw [if_pos (by omega), if_pos (by omega)]
      · rw [if_neg (by omega), if_neg (by omega)]
        have e1 : ((beN (kOf n) n ++ rest).take i).take (kOf n) = beN (kOf n) n := by
          rw [List.take_take, Nat.min_eq_left (by omega), List.take_append_of_le_length (by rw [beN_length]; omega), List.take_of_length_le (by rw [beN_length]; omega)]
        rw [e1, getS_beN _ _ (kOf_256 n hn)]
        simp only [Prod.mk.injEq, and_true]; omega
theorem firstS_mod (e : Elem) (h : tagOk e = true) : (firstS e).toNat % 32 ≠ 31 ∧ (firstS e).toNat = 64 * e.cls.toNat + e.tag.toNat + (if e.cons then 32 else 0) := by
  simp only [tagOk, decide_eq_true_eq] at h
  have : (firstS e).toNat = 64 * e.cls.toNat + e.tag.toNat + (if e.cons then 32 else 0) := by
    unfold firstS
    simp only [UInt8.toNat_ofNat']
    cases e.cons <;> simp <;> omega
  rw [this]
  refine ⟨?_, rfl⟩
  cases e.cons <;> simp <;> omega
theorem write_ok {e : Elem} (h : (writeS e).2 = 0) : (writeS e).1 = putS e ∧ eachS tagOk e 0 = true ∧ eachS formOk e 0 = true ∧ deepS e 0 = false ∧ sizeS e ≤ 65536 := by
  unfold writeS at h ⊢
  split at h
  · cases h
  split at h
  · cases h
  split at h
  · cases h
  split at h
  · cases h
  rename_i h1 h2 h3 h4
  rw [if_neg h1, if_neg h2, if_neg h3, if_neg h4]
  exact ⟨rfl, by simpa using h1, by simpa using h2, by simpa using h3, by omega⟩
theorem frame_put (e : Elem) (ht : tagOk e = true) (hs : sizeS e ≤ 65536) (more : List UInt8) (i : Nat) :
    frameS ((putS e ++ more).take i) = if i < 1 + (lenS (e.bytes.length + sumS e.kids)).length then (0, 20) else ((putS e).length, 0) := by
  obtain ⟨h1, h2, h3⟩ := sizeS_sum e hs
  rw [putS_length e hs, h1]
  rw [h1] at hs
  have e1 : putS e ++ more = firstS e :: (lenS (e.bytes.length + sumS e.kids) ++ (e.bytes ++ putSs e.kids ++ more)) := by rw [putS_eta]; simp
  rw [e1, frameS, headS, rhead_put _ (firstS_mod e ht).1 _ (by omega)]
  by_cases h : i < 1 + (lenS (e.bytes.length + sumS e.kids)).length
  · rw [if_pos h, if_pos h, if_neg (by simp)]; rfl
  · rw [if_neg h, if_neg h, if_neg (by simp only; omega)]

end Go.Proofs.YtajbeippbabhhaaGreatDoor.Eng

namespace Go.Proofs.YtajbeippbabhhaaGreatDoor.Eng
open Go Go.Proofs.Tryz

/-! ## A number with a sign out of bytes -/
def sv0 (l : List UInt8) : Int := if (l.headD 0).toNat ≥ 128 then -1 else 0
theorem sv0_cons (c : UInt8) (l : List UInt8) : sv0 (c :: l) = if c.toNat ≥ 128 then -1 else 0 := rfl
def svF (a : Int) (l : List UInt8) : Int := l.foldl (fun v b => v * 256 + (b.toNat : Int)) a
def sv (l : List UInt8) : Int := svF (sv0 l) l
theorem svF_app (a : Int) (l : List UInt8) (b : UInt8) : svF a (l ++ [b]) = svF a l * 256 + b.toNat := by simp [svF, List.foldl_append]
theorem svF_lt (a : Int) : ∀ (l : List UInt8), a * 256 ^ l.length ≤ svF a l ∧ svF a l < (a + 1) * 256 ^ l.length := by
  intro l
  obtain ⟨n, hn⟩ : ∃ n, n = l.length := ⟨_, rfl⟩
  induction n generalizing l with
  | zero => rw [List.eq_nil_of_length_eq_zero hn.symm]; simp [svF]; omega
  | succ n ih =>
    obtain ⟨c, b, rfl⟩ : ∃ a b, l = a ++ [b] := ⟨l.dropLast, l.getLast (by intro h; simp [h] at hn), (List.dropLast_concat_getLast _).symm⟩
    obtain ⟨h1, h2⟩ := ih c (by simp at hn; omega)
    have hb := b.toNat_lt
    rw [svF_app, List.length_append, List.length_singleton, Int.pow_succ, ← Int.mul_assoc, ← Int.mul_assoc]
    omega
theorem sv_bound (l : List UInt8) (i : Nat) (h1 : 1 ≤ i) (h : i ≤ l.length) : -(128 * 256 ^ (i - 1)) ≤ svF (sv0 l) (l.take i) ∧ svF (sv0 l) (l.take i) < 128 * 256 ^ (i - 1) := by
  match l with
  | [] => simp at h; omega
  | c :: l =>
    obtain ⟨j, rfl⟩ : ∃ j, i = j + 1 := ⟨i - 1, by omega⟩
    have hb := c.toNat_lt
    rw [List.take_succ_cons, svF, List.foldl_cons]
    have := svF_lt (sv0 (c :: l) * 256 + c.toNat) (l.take j)
    rw [List.length_take, Nat.min_eq_left (by simp at h; omega)] at this
    unfold svF at this
    have hc : -128 ≤ sv0 (c :: l) * 256 + (c.toNat : Int) ∧ sv0 (c :: l) * 256 + (c.toNat : Int) + 1 ≤ 128 := by
      rw [sv0_cons]
      by_cases h128 : c.toNat ≥ 128
      · rw [if_pos h128]; omega
      · rw [if_neg h128]; omega
    have hp : (0 : Int) ≤ 256 ^ j := Int.le_of_lt (Int.pow_pos (by decide))
    have k1 := Int.mul_le_mul_of_nonneg_right hc.1 hp
    have k2 := Int.mul_le_mul_of_nonneg_right hc.2 hp
    rw [Nat.add_sub_cancel]
    omega
theorem pow256i (n : Nat) (h : n ≤ 7) : (256 : Int) ^ n ≤ 72057594037927936 := by
  have : n = 0 ∨ n = 1 ∨ n = 2 ∨ n = 3 ∨ n = 4 ∨ n = 5 ∨ n = 6 ∨ n = 7 := by omega
  rcases this with rfl | rfl | rfl | rfl | rfl | rfl | rfl | rfl <;> decide
theorem sv_range (l : List UInt8) (i : Nat) (h1 : 1 ≤ i) (h : i ≤ l.length) (h8 : i ≤ 8) : i64ok (svF (sv0 l) (l.take i)) := by
  have := sv_bound l i h1 h
  have := pow256i (i - 1) (by omega)
  unfold i64ok; omega
theorem or_int (v : Int) (b : Nat) (h : -36028797018963968 ≤ v ∧ v < 36028797018963968) (hb : b < 256) :
    IntKind.i64.wrap ((BitVec.ofInt (bitsA .i64) (v * 256) ||| BitVec.ofInt (bitsA .i64) b).toNat : Int) = v * 256 + b := by
  have hbits : (bitsA .i64) = 64 := rfl
  rw [hbits, BitVec.toNat_or, BitVec.toNat_ofInt, BitVec.toNat_ofInt]
  have e1 : ((v * 256 : Int) % ((2 ^ 64 : Nat) : Int)).toNat = (v % 72057594037927936).toNat * 256 := by omega
  have e2 : ((b : Int) % ((2 ^ 64 : Nat) : Int)).toNat = b := by omega
  have := Nat.shiftLeft_add_eq_or_of_lt (b := b) (i := 8) hb (v % 72057594037927936).toNat
  rw [Nat.shiftLeft_eq] at this
  rw [e1, e2, show (256 : Nat) = 2 ^ 8 from rfl, ← this, IntKind.wrap_i64]
  omega
theorem i8_wrap (b : UInt8) (l : List UInt8) : IntKind.i8.wrap (b.toNat : Int) = sv0 (b :: l) * 256 + b.toNat := by
  have h : ∀ c : Fin 256, IntKind.i8.wrap (c.val : Int) = (if c.val ≥ 128 then -1 else 0) * 256 + c.val := by decide +kernel
  exact h ⟨b.toNat, b.toNat_lt⟩

theorem c56 (l : List UInt8) : Pure prog 146 [.str l] (.tup [.int .i64 (if 1 ≤ l.length ∧ l.length ≤ 8 then sv l else 0), .int .i64 (if 1 ≤ l.length ∧ l.length ≤ 8 then 0 else 1)]) := by
  refine Pure.of (fun _ _ => by simp only [nm, nmL, and_self]) fun S => acalls_of_vc low56 (by simp) ?_
  have hx := Ext.refl S
  by_cases h1 : l.length < 1
  · have h1' : (l.length : Int) < 1 := by omega
    rw [if_neg (by omega), if_neg (by omega)]
    simp -implicitDefEqProofs only [B56, h1', go_sem, reduceIte, Nat.reduceEqDiff, Nat.reduceAdd, Nat.reduceLeDiff, Nat.reduceLT, decide_true, decide_false, vc_cond2, vcGrps_guard2, vcD_val2, vcD_guard2]
    exact fun _ => hx
  have g1 : ¬ (l.length : Int) < 1 := by omega
  by_cases h8 : l.length > 8
  · have h8' : (l.length : Int) > 8 := by omega
    rw [if_neg (by omega), if_neg (by omega)]
    simp -implicitDefEqProofs only [B56, g1, h8', go_sem, reduceIte, Nat.reduceEqDiff, Nat.reduceAdd, Nat.reduceLeDiff, Nat.reduceLT, decide_true, decide_false, vc_cond2, vcGrps_guard2, vcD_val2, vcD_guard2]
    exact fun _ _ => hx
  have g8 : ¬ (l.length : Int) > 8 := by omega
  rw [if_pos (by omega), if_pos (by omega)]
  obtain ⟨c, r, rfl⟩ : ∃ c r, l = c :: r := by
    cases l with
    | nil => simp at h1
    | cons c r => exact ⟨c, r, rfl⟩
  generalize hll : c :: r = l at h1 g1 h8 g8 ⊢
  have hl0 : l[Int.toNat 0]? = some c := by rw [← hll]; rfl
  have hsv1 : svF (sv0 l) (l.take 1) = sv0 l * 256 + c.toNat := by rw [← hll]; simp [svF]
  have hi8 : IntKind.i8.wrap (c.toNat : Int) = svF (sv0 l) (l.take 1) := by rw [hsv1, ← hll]; exact i8_wrap c r
  have hi64 : IntKind.i64.wrap (svF (sv0 l) (l.take 1)) = svF (sv0 l) (l.take 1) := by
    have := sv_range l 1 (by omega) (by omega) (by omega)
    exact w64 _ this.1 this.2
  have h00 : (0 : Int) ≤ 0 := by decide
  simp -implicitDefEqProofs only [B56, g1, g8, hl0, hi8, hi64, h00, go_sem, reduceIte, Nat.reduceEqDiff, Nat.reduceAdd, Nat.reduceLeDiff, Nat.reduceLT, decide_true, decide_false, vc_cond2, vcGrps_guard2, vcD_val2, vcD_guard2]
  intro _ _
  refine vc_loop (fun n fr T => ∃ i : Nat, i + n = l.length ∧ 1 ≤ i ∧ fr 0 = .str l ∧ fr 5 = .int .i64 i ∧ fr 4 = .int .i64 (svF (sv0 l) (l.take i)) ∧ T = S) (l.length - 1) ⟨1, by omega, by omega, by simp [upd_apply], by simp [upd_apply], by simp [upd_apply], rfl⟩ ?_
  rintro n fr T ⟨i, hin, hi1, f0, f5, f4, rfl⟩
  by_cases hlt : i < l.length
  · obtain ⟨b, hb⟩ : ∃ b, l[i]? = some b := ⟨_, List.getElem?_eq_getElem hlt⟩
    have h0 : (0 : Int) ≤ i := by omega
    have hlt' : (i : Int) < l.length := by omega
    have hw1 : IntKind.i64.wrap ((i : Int) + 1) = i + 1 := w64 _ (by omega) (by omega)
    have hv := sv_bound l i hi1 (by omega)
    have hp := pow256i (i - 1) (by omega)
    have hp6 : (256 : Int) ^ (i - 1) ≤ 281474976710656 := by
      have : i - 1 = 0 ∨ i - 1 = 1 ∨ i - 1 = 2 ∨ i - 1 = 3 ∨ i - 1 = 4 ∨ i - 1 = 5 ∨ i - 1 = 6 := by omega
      rcases this with h | h | h | h | h | h | h <;> rw [h] <;> decide
    have hsh : IntKind.i64.wrap (svF (sv0 l) (l.take i) * 2 ^ min (Int.toNat 8) (bitsA .i64)) = svF (sv0 l) (l.take i) * 256 := by
      have e8 : (2 : Int) ^ min (Int.toNat 8) (bitsA .i64) = 256 := rfl
      rw [e8, w64 _ (by omega) (by omega)]
    have hwb : IntKind.i64.wrap (b.toNat : Int) = b.toNat := w64 _ (by omega) (by have := b.toNat_lt; omega)
    have hor := or_int (svF (sv0 l) (l.take i)) b.toNat (by omega) b.toNat_lt
    have h08 : ¬ (8 : Int) < 0 := by decide
    simp -implicitDefEqProofs only [f0, f5, f4, ashift, hlt', h0, h08, hb, hw1, hsh, hwb, hor, go_sem, reduceIte, Nat.reduceEqDiff, Nat.reduceAdd, Nat.reduceLeDiff, Nat.reduceLT, decide_true, decide_false, vc_cond2, vcGrps_guard2, vcD_val2, vcD_guard2]
    exact fun _ => ⟨n - 1, by omega, i + 1, by omega, by omega, by simp, by rw [take_get hb, svF_app]⟩
  · have hlt' : ¬ (i : Int) < l.length := by omega
    have hi : i = l.length := by omega
    rw [hi, List.take_length] at f4
    simp -implicitDefEqProofs only [f0, f5, f4, hlt', go_sem, reduceIte, Nat.reduceEqDiff, Nat.reduceAdd, Nat.reduceLeDiff, Nat.reduceLT, decide_true, decide_false, vc_cond2, vcGrps_guard2, vcD_val2, vcD_guard2]
    exact fun _ => ⟨rfl, hx⟩

theorem c59 (l : List UInt8) (h1 : 1 ≤ l.length) (h8 : l.length ≤ 8) : Pure prog 296 [.str l] (.tup [.int .i64 (sv l), .int .i64 0]) := by
  refine Pure.of (fun _ _ => by simp only [nm, nmL, and_self]) fun S => acalls_of_vc low59 (by simp) ?_
  have hx := Ext.refl S
  have g1 : ¬ (l.length : Int) < 1 := by omega
  have g8 : ¬ (l.length : Int) > 8 := by omega
  obtain ⟨c, r, rfl⟩ : ∃ c r, l = c :: r := by
    cases l with
    | nil => simp at h1
    | cons c r => exact ⟨c, r, rfl⟩
  generalize hll : c :: r = l at h1 g1 h8 g8 ⊢
  have hl0 : l[Int.toNat 0]? = some c := by rw [← hll]; rfl
  have h00 : (0 : Int) ≤ 0 := by decide
  have hs0 : sv0 l = if c.toNat ≥ 128 then -1 else 0 := by rw [← hll]; rfl
  unfold B59
  refine vc_cut (fun fr T => fr 0 = .str l ∧ T = S) (by simp -implicitDefEqProofs only [go_sem, reduceIte, Nat.reduceEqDiff, Nat.reduceAdd, Nat.reduceLeDiff, Nat.reduceLT, decide_true, decide_false, vc_cond2, vcGrps_guard2, vcD_val2, vcD_guard2]) ?_
  rintro fr T ⟨f0, rfl⟩
  refine vc_cut (fun fr U => fr 0 = .str l ∧ U = T) (by simp -implicitDefEqProofs only [f0, g1, g8, go_sem, reduceIte, Nat.reduceEqDiff, Nat.reduceAdd, Nat.reduceLeDiff, Nat.reduceLT, decide_true, decide_false, vc_cond2, vcGrps_guard2, vcD_val2, vcD_guard2]; exact fun _ _ => trivial) ?_
  clear f0 fr
  rintro fr U ⟨f0, rfl⟩
  refine vc_cut (fun fr T => fr 0 = .str l ∧ fr 4 = .int .i64 0 ∧ T = U) (by simp -implicitDefEqProofs only [f0, go_sem, reduceIte, Nat.reduceEqDiff, Nat.reduceAdd, Nat.reduceLeDiff, Nat.reduceLT, decide_true, decide_false, vc_cond2, vcGrps_guard2, vcD_val2, vcD_guard2]) ?_
  clear f0 fr
  rintro fr T ⟨f0, f4, rfl⟩
  refine vc_cut (fun fr U => fr 0 = .str l ∧ fr 4 = .int .i64 (sv0 l) ∧ U = T) ?_ ?_
  · by_cases hc : c.toNat ≥ 128
    · have hc' : (c.toNat : Int) ≥ 128 := by omega
      rw [hs0, if_pos hc]
      simp -implicitDefEqProofs only [f0, f4, hl0, h00, hc', go_sem, reduceIte, Nat.reduceEqDiff, Nat.reduceAdd, Nat.reduceLeDiff, Nat.reduceLT, decide_true, decide_false, vc_cond2, vcGrps_guard2, vcD_val2, vcD_guard2]
    · have hc' : ¬ (c.toNat : Int) ≥ 128 := by omega
      rw [hs0, if_neg hc]
      simp -implicitDefEqProofs only [f0, f4, hl0, h00, hc', go_sem, reduceIte, Nat.reduceEqDiff, Nat.reduceAdd, Nat.reduceLeDiff, Nat.reduceLT, decide_true, decide_false, vc_cond2, vcGrps_guard2, vcD_val2, vcD_guard2]
  clear f0 f4 fr
  rintro fr U ⟨f0, f4, rfl⟩
  simp -implicitDefEqProofs only [f0, f4, go_sem, reduceIte, Nat.reduceEqDiff, Nat.reduceAdd, Nat.reduceLeDiff, Nat.reduceLT, decide_true, decide_false, vc_cond2, vcGrps_guard2, vcD_val2, vcD_guard2]
  refine vc_loop (fun n fr T => ∃ i : Nat, i + n = l.length ∧ fr 0 = .str l ∧ fr 5 = .int .i64 i ∧ fr 4 = .int .i64 (svF (sv0 l) (l.take i)) ∧ T = U) l.length ⟨0, by omega, by simp [upd_apply, f0], by simp [upd_apply], by simp [upd_apply, f4, svF], rfl⟩ ?_
  clear f0 f4 fr
  rintro n fr T ⟨i, hin, f0, f5, f4, rfl⟩
  by_cases hlt : i < l.length
  · obtain ⟨b, hb⟩ : ∃ b, l[i]? = some b := ⟨_, List.getElem?_eq_getElem hlt⟩
    have h0 : (0 : Int) ≤ i := by omega
    have hlt' : (i : Int) < l.length := by omega
    have hw1 : IntKind.i64.wrap ((i : Int) + 1) = i + 1 := w64 _ (by omega) (by omega)
    have hbl := b.toNat_lt
    have hnext := sv_range l (i + 1) (by omega) (by omega) (by omega)
    rw [take_get hb, svF_app] at hnext
    have hm : i64ok (svF (sv0 l) (l.take i) * 256) := by
      by_cases hi0 : i = 0
      · subst hi0; simp only [List.take_zero, svF, List.foldl_nil, hs0]; unfold i64ok; split <;> omega
      · have hv := sv_bound l i (by omega) (by omega)
        have hp6 : (256 : Int) ^ (i - 1) ≤ 281474976710656 := by
          have : i - 1 = 0 ∨ i - 1 = 1 ∨ i - 1 = 2 ∨ i - 1 = 3 ∨ i - 1 = 4 ∨ i - 1 = 5 ∨ i - 1 = 6 := by omega
          rcases this with h | h | h | h | h | h | h <;> rw [h] <;> decide
        unfold i64ok; omega
    have hmul := w64 _ hm.1 hm.2
    have hadd := w64 _ hnext.1 hnext.2
    have hwb : IntKind.i64.wrap (b.toNat : Int) = b.toNat := w64 _ (by omega) (by omega)
    simp -implicitDefEqProofs only [f0, f5, f4, hlt', h0, hb, hw1, hmul, hadd, hwb, go_sem, reduceIte, Nat.reduceEqDiff, Nat.reduceAdd, Nat.reduceLeDiff, Nat.reduceLT, decide_true, decide_false, vc_cond2, vcGrps_guard2, vcD_val2, vcD_guard2]
    exact fun _ => ⟨n - 1, by omega, i + 1, by omega, by simp, by rw [take_get hb, svF_app]⟩
  · have hlt' : ¬ (i : Int) < l.length := by omega
    have hi : i = l.length := by omega
    rw [hi, List.take_length] at f4
    simp -implicitDefEqProofs only [f0, f5, f4, hlt', go_sem, reduceIte, Nat.reduceEqDiff, Nat.reduceAdd, Nat.reduceLeDiff, Nat.reduceLT, decide_true, decide_false, vc_cond2, vcGrps_guard2, vcD_val2, vcD_guard2]
    exact fun _ => ⟨rfl, hx⟩
end Go.Proofs.YtajbeippbabhhaaGreatDoor.Eng

namespace Go.Proofs.YtajbeippbabhhaaGreatDoor.Eng
open Go Go.Proofs.Tryz

/-! ## The reference's way to lay a number with a sign -/
theorem svF_beN (k : Nat) (V : Nat) (a : Int) : svF a (beN k V) = a * 256 ^ k + ((V % 256 ^ k : Nat) : Int) := by
  induction k generalizing a with
  | zero => simp [beN, svF, Nat.mod_one]
  | succ k ih =>
    have h1 : (UInt8.ofNat (V / 2 ^ (8 * k))).toNat = V / 256 ^ k % 256 := by
      rw [show (2 : Nat) ^ (8 * k) = 256 ^ k by rw [Nat.pow_mul]]
      simp
    have := ih (a * 256 + ((UInt8.ofNat (V / 2 ^ (8 * k))).toNat : Int))
    rw [beN, svF, List.foldl_cons]
    unfold svF at this
    rw [this, h1, Nat.pow_succ, Nat.mod_mul, Int.pow_succ]
    generalize V / 256 ^ k % 256 = q
    have hP : (256 : Int) ^ k = ((256 ^ k : Nat) : Int) := by rw [Int.natCast_pow]; rfl
    rw [hP]
    generalize 256 ^ k = p
    rw [Int.natCast_add, Int.natCast_mul, Int.add_mul, Int.mul_assoc, Int.mul_comm (q : Int) p, Int.mul_comm 256 (p : Int)]
    omega
theorem sv_fits (v : Int) (hv : i64ok v) (k : Nat) (h1 : 1 ≤ k) (h8 : k ≤ 8) : sv (beN k (v % 18446744073709551616).toNat) = v ↔ (k = 8 ∨ fits k v) := by
  have hb0 : sv0 (beN k (v % 18446744073709551616).toNat) = if (v % 18446744073709551616).toNat / 256 ^ (k - 1) % 256 ≥ 128 then -1 else 0 := by
    obtain ⟨j, rfl⟩ : ∃ j, k = j + 1 := ⟨k - 1, by omega⟩
    rw [beN, sv0_cons, Nat.add_sub_cancel]
    have : (UInt8.ofNat ((v % 18446744073709551616).toNat / 2 ^ (8 * j))).toNat = (v % 18446744073709551616).toNat / 256 ^ j % 256 := by
      rw [show (2 : Nat) ^ (8 * j) = 256 ^ j by rw [Nat.pow_mul]]
      simp
    rw [this]
  rw [sv, svF_beN, hb0]
  generalize hV : (v % 18446744073709551616).toNat = V
  unfold i64ok at hv
  unfold fits
  have : k = 1 ∨ k = 2 ∨ k = 3 ∨ k = 4 ∨ k = 5 ∨ k = 6 ∨ k = 7 ∨ k = 8 := by omega
  rcases this with rfl | rfl | rfl | rfl | rfl | rfl | rfl | rfl
  all_goals
    simp only [Nat.reduceSub, Nat.reducePow, Int.reducePow, Nat.reduceMul, Nat.div_one, Nat.reduceEqDiff, false_or, true_or, iff_true]
    split <;> omega

theorem and255 (w : Int) : IntKind.i64.wrap ((BitVec.ofInt (bitsA .i64) w &&& BitVec.ofInt (bitsA .i64) 255).toNat : Int) = w % 256 := by
  have hbits : (bitsA .i64) = 64 := rfl
  rw [hbits, BitVec.toNat_and, BitVec.toNat_ofInt, BitVec.toNat_ofInt]
  have e2 : ((255 : Int) % ((2 ^ 64 : Nat) : Int)).toNat = 255 := rfl
  have := Nat.and_two_pow_sub_one_eq_mod ((w % ((2 ^ 64 : Nat) : Int)).toNat) 8
  rw [e2, show (255 : Nat) = 2 ^ 8 - 1 from rfl, this, IntKind.wrap_i64]
  omega
theorem byte_at (v : Int) (hv : i64ok v) (j : Nat) (hj : j ≤ 7) : IntKind.u8.wrap (v.fdiv (256 ^ j) % 256) = ((UInt8.ofNat ((v % 18446744073709551616).toNat / 2 ^ (8 * j))).toNat : Int) := by
  rw [IntKind.wrap_u8]
  unfold i64ok at hv
  simp only [UInt8.toNat_ofNat']
  have : j = 0 ∨ j = 1 ∨ j = 2 ∨ j = 3 ∨ j = 4 ∨ j = 5 ∨ j = 6 ∨ j = 7 := by omega
  rcases this with rfl | rfl | rfl | rfl | rfl | rfl | rfl | rfl
  all_goals
    rw [Int.fdiv_eq_ediv_of_nonneg _ (by decide)]
    simp only [Nat.reducePow, Int.reducePow, Nat.reduceMul]
    omega
theorem fdiv_step (v : Int) (j : Nat) : (v.fdiv (256 ^ j)).fdiv 256 = v.fdiv (256 ^ (j + 1)) := by
  have hp : (0 : Int) ≤ 256 ^ j := Int.le_of_lt (Int.pow_pos (by decide))
  have hp1 : (0 : Int) ≤ 256 ^ (j + 1) := Int.le_of_lt (Int.pow_pos (by decide))
  rw [Int.fdiv_eq_ediv_of_nonneg _ hp, Int.fdiv_eq_ediv_of_nonneg _ (by decide), Int.fdiv_eq_ediv_of_nonneg _ hp1, Int.ediv_ediv_of_nonneg hp, Int.pow_succ]

theorem c55 (v : Int) (hv : i64ok v) : Pure prog 266 [.int .i64 v] (.str (sgn v)) := by
  refine Pure.of (fun _ _ => by simp only [nm]) fun S => acalls_of_vc low55 (by simp) ?_
  obtain ⟨hn1, hn8⟩ := nOf_le v
  simp -implicitDefEqProofs only [B55, go_sem, reduceIte, Nat.reduceEqDiff, Nat.reduceAdd, Nat.reduceLeDiff, Nat.reduceLT, decide_true, decide_false, vc_cond2, vcGrps_guard2, vcD_val2, vcD_guard2]
  refine vc_loop (fun n fr T => ∃ k : Nat, k + n = nOf v ∧ 1 ≤ k ∧ fr 0 = .int .i64 v ∧ fr 3 = .int .i64 k ∧ Ext S T) (nOf v - 1) ⟨1, by omega, by omega, by simp [upd_apply], by simp [upd_apply], Ext.refl S⟩ ?_
  rintro n fr T ⟨k, hkn, hk1, f0, f3, hE⟩
  have hk0 : (0 : Int) ≤ k := by omega
  have hwk : IntKind.i64.wrap ((k : Int) - 1) = k - 1 := w64 _ (by omega) (by omega)
  have hwk1 : IntKind.i64.wrap ((k : Int) + 1) = k + 1 := w64 _ (by omega) (by omega)
  simp -implicitDefEqProofs only [f0, f3, hwk, List.length_replicate, List.take_replicate, go_sem, reduceIte, Nat.reduceEqDiff, Nat.reduceAdd, Nat.reduceLeDiff, Nat.reduceLT, decide_true, decide_false, vc_cond2, vcGrps_guard2, vcD_val2, vcD_guard2]
  refine ⟨by unfold lenMax; omega, ?_⟩
  unfold sgn
  have hbyte := byte_at v hv
  have hsf := sv_fits v hv k hk1 (by omega)
  generalize (v % 18446744073709551616).toNat = V at hbyte hsf ⊢
  refine vc_loop (fun m fr U => ∃ j : Nat, j + m = k ∧ fr 0 = .int .i64 v ∧ fr 3 = .int .i64 k ∧ fr 4 = .own T.n 0 k ∧ fr 6 = .int .i64 ((k : Int) - 1 - j) ∧ fr 5 = .int .i64 (v.fdiv (256 ^ j)) ∧
    U.get T.n = some (.row 5 1 0 (byteRow (List.replicate (k - j) 0 ++ beN j V))) ∧ Ext S U) k ⟨0, by omega, by simp [upd_apply, f0], by simp [upd_apply, f3], by simp [upd_apply], by simp [upd_apply], by simp [upd_apply, f0, Int.fdiv_one], ?_, hE.push _⟩ ?_
  · simp [Store.get_push, beN, byteRow]
  clear f0 f3 fr
  rintro m fr U ⟨j, hjm, f0, f3, f4, f6, f5, hrow, hU⟩
  by_cases hlt : j < k
  · have hp : (0 : Int) ≤ (k : Int) - 1 - j := by omega
    have hge : (k : Int) - 1 - j ≥ 0 := by omega
    have hj : ((k : Int) - 1 - j).toNat = k - 1 - j := by omega
    have hlen : (byteRow (List.replicate (k - j) 0 ++ beN j V)).length = k := by simp [byteRow, beN_length]; omega
    have hget : (byteRow (List.replicate (k - j) 0 ++ beN j V))[k - 1 - j]? = some [.int .u8 (0 : UInt8).toNat] := by
      simp only [byteRow, List.getElem?_map]
      rw [List.getElem?_append_left (by simp; omega), List.getElem?_replicate, if_pos (by omega)]; rfl
    have hset := rep_set _ (UInt8.ofNat (V / 2 ^ (8 * j))) k j (beN j V) hlt (beN_length j V) rfl
    have ha := and255 (v.fdiv (256 ^ j))
    have hb := hbyte j (by omega)
    have h08 : ¬ (8 : Int) < 0 := by decide
    have hsh : (v.fdiv (256 ^ j)).fdiv (2 ^ min (Int.toNat 8) (bitsA .i64)) = v.fdiv (256 ^ (j + 1)) := by
      have e8 : (2 : Int) ^ min (Int.toNat 8) (bitsA .i64) = 256 := rfl
      rw [e8, fdiv_step]
    have hdec : IntKind.i64.wrap ((k : Int) - 1 - j - 1) = (k : Int) - 1 - j - 1 := w64 _ (by omega) (by omega)
    simp -implicitDefEqProofs only [f0, f3, f4, f6, f5, ashift, hge, hp, hj, hrow, hlen, hget, ha, hb, h08, hsh, hdec, go_sem, reduceIte, Nat.reduceEqDiff, Nat.reduceAdd, Nat.reduceLeDiff, Nat.reduceLT, decide_true, decide_false, vc_cond2, vcGrps_guard2, vcD_val2, vcD_guard2]
    refine ⟨by omega, m - 1, by omega, j + 1, by omega, by simp only [AV.int.injEq, true_and]; omega, rfl, ?_, hU.set _ _ hE.n⟩
    rw [hset]; rfl
  · have hge : ¬ (k : Int) - 1 - j ≥ 0 := by omega
    have hik : j = k := by omega
    subst hik
    have hb : bytesOf (byteRow (beN j V)) = some (beN j V) := bytesOf_byteRow _
    have hlen : (byteRow (beN j V)).length = j := by rw [byteRow_length, beN_length]
    have htk : (byteRow (beN j V)).take j = byteRow (beN j V) := by
      have := List.take_length (l := byteRow (beN j V)); rwa [hlen] at this
    simp only [Nat.sub_self, List.replicate_zero, List.nil_append] at hrow
    simp -implicitDefEqProofs only [f0, f3, f4, f6, f5, hge, hrow, hlen, htk, hb, go_sem, reduceIte, Nat.reduceEqDiff, Nat.reduceAdd, Nat.reduceLeDiff, Nat.reduceLT, decide_true, decide_false, vc_cond2, vcGrps_guard2, vcD_val2, vcD_guard2]
    refine (c59 (beN j V) (by rw [beN_length]; omega) (by rw [beN_length]; omega)).use ?_
    by_cases hstop : j = 8 ∨ fits j v
    · have he := hsf.2 hstop
      have hjn : j = nOf v := nOf_step v j hk1 (by omega) (by rintro ⟨h1, h2⟩; rcases hstop with h | h; omega; exact h2 h)
      simp -implicitDefEqProofs only [f0, f3, f4, he, hrow, hlen, htk, hb, go_sem, reduceIte, Nat.reduceEqDiff, Nat.reduceAdd, Nat.reduceLeDiff, Nat.reduceLT, decide_true, decide_false, vc_cond2, vcGrps_guard2, vcD_val2, vcD_guard2]
      exact ⟨by rw [← hjn], hU⟩
    · have he : ¬ sv (beN j V) = v := fun h => hstop (hsf.1 h)
      have hm := nOf_more v j hk1 (by omega) ⟨by omega, fun h => hstop (.inr h)⟩
      simp -implicitDefEqProofs only [f0, f3, f4, he, hwk1, go_sem, reduceIte, Nat.reduceEqDiff, Nat.reduceAdd, Nat.reduceLeDiff, Nat.reduceLT, decide_true, decide_false, vc_cond2, vcGrps_guard2, vcD_val2, vcD_guard2]
      exact ⟨n - 1, by omega, j + 1, by omega, by omega, by simp, hU⟩
end Go.Proofs.YtajbeippbabhhaaGreatDoor.Eng

namespace Go.Proofs.YtajbeippbabhhaaGreatDoor.Eng
open Go Go.Proofs.Tryz

/-! ## Alike: what is behind the lists' lengths does not matter -/
mutual
theorem same_of : ∀ (a b : Elem), copyE a = copyE b → sameS a b = true
  | .mk c t k b ks ext, .mk c' t' k' b' ks' ext', h => by
    simp only [copyE, Elem.mk.injEq, and_true] at h
    obtain ⟨rfl, rfl, rfl, rfl, h⟩ := h
    simp only [sameS, Elem.cls, Elem.tag, Elem.cons, Elem.bytes, Elem.kids, decide_true, Bool.true_and]
    exact sames_of ks ks' h
theorem sames_of : ∀ (a b : List Elem), copyEs a = copyEs b → sameSs a b = true
  | [], [], _ => rfl
  | [], y :: b, h => by simp [copyEs] at h
  | x :: a, [], h => by simp [copyEs] at h
  | x :: a, y :: b, h => by
    simp only [copyEs, List.cons.injEq] at h
    simp only [sameSs, same_of x y h.1, sames_of a b h.2, Bool.and_true]
end
mutual
theorem of_same : ∀ (a b : Elem), sameS a b = true → copyE a = copyE b
  | .mk c t k b ks ext, .mk c' t' k' b' ks' ext', h => by
    rw [sameS_eta] at h
    simp only [Bool.and_eq_true, decide_eq_true_eq] at h
    obtain ⟨h1, h2, h3, h4, h⟩ := h
    simp only [Elem.cls, Elem.tag, Elem.cons, Elem.bytes, Elem.kids] at h1 h2 h3 h4 h
    subst h1; subst h2; subst h3; subst h4
    simp only [copyE, Elem.mk.injEq, and_true, true_and]
    exact ofs_same ks ks' h
theorem ofs_same : ∀ (a b : List Elem), sameSs a b = true → copyEs a = copyEs b
  | [], [], _ => rfl
  | [], y :: b, h => by simp [sameSs] at h
  | x :: a, [], h => by simp [sameSs] at h
  | x :: a, y :: b, h => by
    simp only [sameSs, Bool.and_eq_true] at h
    simp only [copyEs, of_same x y h.1, ofs_same a b h.2]
end
mutual
theorem copy_copy : ∀ (e : Elem), copyE (copyE e) = copyE e
  | .mk c t k b ks ext => by simp only [copyE, copys_copys ks]
theorem copys_copys : ∀ (ks : List Elem), copyEs (copyEs ks) = copyEs ks
  | [] => rfl
  | k :: ks => by simp only [copyEs, copy_copy k, copys_copys ks]
end
mutual
theorem ok_copy : ∀ (e : Elem), okE e → okE (copyE e)
  | .mk c t k b ks ext, h => by simp only [copyE, okE, copyEs_length] at h ⊢; exact ⟨h.1, h.2.1, h.2.2.1, h.2.2.2.1, oks_copy ks h.2.2.2.2⟩
theorem oks_copy : ∀ (ks : List Elem), okEs ks → okEs (copyEs ks)
  | [], _ => by simp only [copyEs, okEs]
  | k :: ks, h => by simp only [copyEs, okEs] at h ⊢; exact ⟨ok_copy k h.1, oks_copy ks h.2⟩
end

/-! ## More elements that are made -/
theorem c22 (tag : Int) (b : Bool) : Pure prog 164 [.int .i64 tag, .bool b] (.agg (encE (strE tag [if b then 255 else 0]))) := by
  refine Pure.of (fun n _ => by simp only [nm, strE, encE, nmL, and_true, true_and, List.append_nil, encEs, nmLL]) fun S => acalls_of_vc low22 (by simp) ?_
  have hx := (Ext.refl S).push
  cases b
  all_goals
    simp -implicitDefEqProofs only [B22, go_sem, reduceIte, Nat.reduceEqDiff, Nat.reduceAdd, Nat.reduceLeDiff, Nat.reduceLT, decide_true, decide_false, vc_cond2, vcGrps_guard2, vcD_val2, vcD_guard2]
    refine (c21 tag _).use ?_
    rw [encE_strE]
    simp -implicitDefEqProofs only [go_sem, reduceIte, Nat.reduceEqDiff, Nat.reduceAdd, Nat.reduceLeDiff, Nat.reduceLT, decide_true, decide_false, vc_cond2, vcGrps_guard2, vcD_val2, vcD_guard2]
    exact (hx _).set _ _ (Nat.le_refl _)
theorem c24 (tag v : Int) (hv : i64ok v) : Pure prog 168 [.int .i64 tag, .int .i64 v] (.agg (encE (strE tag (sgn v)))) := by
  refine Pure.weak (Pure.of (v := .agg [.int .i64 0, .int .i64 tag, .bool false, .str (sgn v), .lit (.slice none 0 0)]) (fun _ _ => by simp only [nm, nmL, and_self]) fun S => acalls_of_vc low24 (by simp) ?_) (wk_strE tag _)
  have hx := (Ext.refl S).push
  simp -implicitDefEqProofs only [B24, go_sem, reduceIte, Nat.reduceEqDiff, Nat.reduceAdd, Nat.reduceLeDiff, Nat.reduceLT, decide_true, decide_false, vc_cond2, vcGrps_guard2, vcD_val2, vcD_guard2]
  refine (c55 v hv).use ?_
  simp -implicitDefEqProofs only [go_sem, reduceIte, Nat.reduceEqDiff, Nat.reduceAdd, Nat.reduceLeDiff, Nat.reduceLT, decide_true, decide_false, vc_cond2, vcGrps_guard2, vcD_val2, vcD_guard2]
  exact (hx _).set _ _ (Nat.le_refl _)
theorem c26 (tag : Int) (b : Bool) : Pure prog 40 [.int .i64 tag, .bool b] (.agg (encE (strE tag [if b then 255 else 0]))) := by
  refine Pure.weak (Pure.of (v := .agg [.int .i64 0, .int .i64 tag, .bool false, .str [if b then 255 else 0], .lit (.slice none 0 0)]) (fun _ _ => by simp only [nm, nmL, and_self]) fun S => acalls_of_vc low26 (by simp) ?_) (wk_strE tag _)
  have hx := (Ext.refl S).push
  cases b
  all_goals
    simp -implicitDefEqProofs only [B26, go_sem, reduceIte, Nat.reduceEqDiff, Nat.reduceAdd, Nat.reduceLeDiff, Nat.reduceLT, decide_true, decide_false, vc_cond2, vcGrps_guard2, vcD_val2, vcD_guard2]
    exact (hx _).set _ _ (Nat.le_refl _)
theorem nm_encE (e : Elem) (n : Nat) (h : nmL n (encE e)) : nmLL n (encEs e.kids ++ e.ext) := by
  rw [encE_eta] at h; simp only [nmL, nm, and_true, true_and] at h; exact h
theorem c27 (ks : List Elem) (ext : List (List AV)) : Pure prog 167 [lstV ks ext] (.agg (encE (.mk 0 16 true [] ks ext))) := by
  refine Pure.of (fun n h => by simp only [nm, lstV, encE, nmL, and_true, true_and] at h ⊢; exact h) fun S => acalls_of_vc low27 (by simp) ?_
  have hx := (Ext.refl S).push
  unfold lstV
  simp -implicitDefEqProofs only [B27, go_sem, reduceIte, Nat.reduceEqDiff, Nat.reduceAdd, Nat.reduceLeDiff, Nat.reduceLT, decide_true, decide_false, vc_cond2, vcGrps_guard2, vcD_val2, vcD_guard2]
  exact ⟨rfl, (hx _).set _ _ (Nat.le_refl _)⟩
theorem c28 (e : Elem) (c t : Int) (hok : okE e) : Pure prog 264 [.agg (encE e), .int .i64 c, .int .i64 t] (.agg (encE (.mk c t e.cons e.bytes (copyEs e.kids) []))) := by
  obtain ⟨_, _, _, hkl, hks⟩ := okE_eta hok
  refine Pure.of (fun n h => by simp only [nm, encE, nmL, and_true, true_and, List.append_nil]; exact nm_copys _ _) fun S => acalls_of_vc low28 (by simp) ?_
  have hx := (Ext.refl S).push
  rw [encE_eta e]
  simp -implicitDefEqProofs only [B28, go_sem, reduceIte, Nat.reduceEqDiff, Nat.reduceAdd, Nat.reduceLeDiff, Nat.reduceLT, decide_true, decide_false, vc_cond2, vcGrps_guard2, vcD_val2, vcD_guard2]
  have h54 := c54 e.kids e.ext hkl hks
  unfold lstV at h54
  refine h54.use ?_
  simp -implicitDefEqProofs only [go_sem, reduceIte, Nat.reduceEqDiff, Nat.reduceAdd, Nat.reduceLeDiff, Nat.reduceLT, decide_true, decide_false, vc_cond2, vcGrps_guard2, vcD_val2, vcD_guard2]
  exact ⟨rfl, ((((((hx _).push _).set _ _ (by omega)).set _ _ (by omega)).set _ _ (by omega)).set _ _ (by omega))⟩
theorem c29 (e : Elem) (c t : Int) : Pure prog 174 [.agg (encE e), .int .i64 c, .int .i64 t] (.agg (encE (.mk c t e.cons e.bytes e.kids e.ext))) := by
  refine Pure.of (fun n h => by
    simp only [nmL, nm, and_true] at h
    have := nm_encE e n h
    simp only [nm, encE, nmL, and_true, true_and]; exact this) fun S => acalls_of_vc low29 (by simp) ?_
  have hx := (Ext.refl S).push
  rw [encE_eta e]
  simp -implicitDefEqProofs only [B29, go_sem, reduceIte, Nat.reduceEqDiff, Nat.reduceAdd, Nat.reduceLeDiff, Nat.reduceLT, decide_true, decide_false, vc_cond2, vcGrps_guard2, vcD_val2, vcD_guard2]
  exact ⟨rfl, (((((hx _).push _).set _ _ (by omega)).set _ _ (by omega)).set _ _ (by omega))⟩
end Go.Proofs.YtajbeippbabhhaaGreatDoor.Eng

namespace Go.Proofs.YtajbeippbabhhaaGreatDoor.Eng
open Go Go.Proofs.Tryz

theorem typed_int {P : Program} {fuel t k avs} (hu : P.underlying t = some (.int k)) (h : Typed P fuel t avs) : ∃ n, avs = [.int k n] ∧ (Lit.int k n).wf = true := by
  cases fuel with
  | zero => exact h.elim
  | succ fuel => simpa only [Typed, hu] using h
theorem typed_bool {P : Program} {fuel t avs} (hu : P.underlying t = some .bool) (h : Typed P fuel t avs) : ∃ b, avs = [.bool b] := by
  cases fuel with
  | zero => exact h.elim
  | succ fuel => simpa only [Typed, hu] using h
theorem typed_str {P : Program} {fuel t avs} (hu : P.underlying t = some .string) (h : Typed P fuel t avs) : ∃ l : List UInt8, avs = [.str l] ∧ l.length ≤ reachBytes := by
  cases fuel with
  | zero => exact h.elim
  | succ fuel => simpa only [Typed, hu] using h
theorem typed_slice {P : Program} {fuel t e avs} (hu : P.underlying t = some (.slice e)) (h : Typed P fuel t avs) :
    ∃ n, n < fuel ∧ ∃ es : List (List AV), avs = [.sl (P.cellsOf e) es es.length] ∧ es.length * P.bytesOf e ≤ reachBytes ∧ (∀ x ∈ es, Typed P n e x) := by
  cases fuel with
  | zero => exact h.elim
  | succ fuel => exact ⟨fuel, by omega, by simpa only [Typed, hu] using h⟩
theorem typed_struct {P : Program} {fuel t fs avs} (hu : P.underlying t = some (.struct fs)) (h : Typed P fuel t avs) :
    ∃ n, n < fuel ∧ TypedL (Typed P n) (fs.toList.map (·.type)) avs := by
  cases fuel with
  | zero => exact h.elim
  | succ fuel => exact ⟨fuel, by omega, by simpa only [Typed, hu] using h⟩

theorem i64_wf {n : Int} (h : (Lit.int .i64 n).wf = true) : i64ok n := by
  simp only [Lit.wf, Bool.and_eq_true, decide_eq_true_eq] at h
  have h1 : IntKind.i64.min = -9223372036854775808 := rfl
  have h2 : IntKind.i64.max = 9223372036854775807 := rfl
  unfold i64ok
  omega

theorem elems_of {P : Elem → Prop} : ∀ (es : List (List AV)), (∀ x ∈ es, ∃ e, x = encE e ∧ P e) → ∃ ks, es = encEs ks ∧ ∀ k ∈ ks, P k
  | [], _ => ⟨[], rfl, by simp⟩
  | x :: es, h => by
    obtain ⟨e, he, hp⟩ := h x (by simp)
    obtain ⟨ks, hk, hq⟩ := elems_of es fun y hy => h y (by simp [hy])
    refine ⟨e :: ks, by rw [encEs, he, hk], fun k hk => ?_⟩
    rcases List.mem_cons.1 hk with rfl | hk
    · exact hp
    · exact hq k hk

theorem typed_elem (fuel : Nat) : ∀ avs, Typed prog fuel 68 avs → ∃ e, avs = encE e ∧ okE e := by
  induction fuel using Nat.strongRecOn with
  | _ fuel ih =>
  intro avs h
  obtain ⟨n, hn, h⟩ := typed_struct underlying68 h
  simp only [List.map_cons, List.map_nil, TypedL] at h
  obtain ⟨a1, r1, rfl, h1, a2, r2, rfl, h2, a3, r3, rfl, h3, a4, r4, rfl, h4, a5, r5, rfl, h5, rfl⟩ := h
  obtain ⟨c, rfl, hc⟩ := typed_int underlying3 h1
  obtain ⟨t, rfl, ht⟩ := typed_int underlying3 h2
  obtain ⟨b, rfl⟩ := typed_bool underlying4 h3
  obtain ⟨s, rfl, hs⟩ := typed_str underlying9 h4
  obtain ⟨m, hm, es, rfl, hl, hx⟩ := typed_slice underlying66 h5
  obtain ⟨ks, rfl, hks⟩ := elems_of es fun x hx' => ih m (by omega) x (hx x hx')
  have hb : prog.bytesOf 68 = 64 := by kernel_rfl
  have hcell : prog.cellsOf 68 = 5 := by kernel_rfl
  rw [hb, encEs_length] at hl
  refine ⟨.mk c t b s ks [], by rw [hcell, encE]; simp [encEs_length], ?_⟩
  simp only [okE]
  exact ⟨i64_wf hc, i64_wf ht, hs, hl, okEs_of ks hks⟩

theorem arg_elem {a : AV} (h : ArgT prog 68 a) : ∃ e, a = .agg (encE e) ∧ okE e := by
  obtain ⟨fuel, avs, h1, ha⟩ := h
  obtain ⟨e, rfl, he⟩ := typed_elem fuel avs h1
  exact ⟨e, by have : isAggB prog 68 = true := by kernel_rfl
               simp only [ha, this, mk, if_true, List.headD_cons, Bool.false_eq_true, if_false], he⟩

theorem arg_int {a : AV} (h : ArgT prog 3 a) : ∃ n, a = .int .i64 n ∧ i64ok n := by
  obtain ⟨fuel, avs, h1, ha⟩ := h
  obtain ⟨n, rfl, hn⟩ := typed_int underlying3 h1
  exact ⟨n, by have : isAggB prog 3 = false := by kernel_rfl
               simp only [ha, this, mk, if_true, List.headD_cons, Bool.false_eq_true, if_false], i64_wf hn⟩
theorem arg_str {a : AV} (h : ArgT prog 9 a) : ∃ l : List UInt8, a = .str l ∧ l.length ≤ maxB := by
  obtain ⟨fuel, avs, h1, ha⟩ := h
  obtain ⟨n, rfl, hn⟩ := typed_str underlying9 h1
  exact ⟨n, by have : isAggB prog 9 = false := by kernel_rfl
               simp only [ha, this, mk, if_true, List.headD_cons, Bool.false_eq_true, if_false], hn⟩
theorem arg_bool {a : AV} (h : ArgT prog 4 a) : ∃ b, a = .bool b := by
  obtain ⟨fuel, avs, h1, ha⟩ := h
  obtain ⟨n, rfl⟩ := typed_bool underlying4 h1
  exact ⟨n, by have : isAggB prog 4 = false := by kernel_rfl
               simp only [ha, this, mk, if_true, List.headD_cons, Bool.false_eq_true, if_false]⟩

def Tber : List TypeId := [3, 4, 9, 66, 68]
theorem closed_ber : closedB prog Tber = true := by kernel_rfl
theorem laid_ber : laidOutB prog = true := by kernel_rfl
theorem own_ber : ownKnob prog.godebug = none := by kernel_rfl
end Go.Proofs.YtajbeippbabhhaaGreatDoor.Eng

namespace Go.Proofs.YtajbeippbabhhaaGreatDoor.Eng
open Go Go.Proofs.Tryz

theorem same_refl (e : Elem) : sameS e e = true := same_of _ _ rfl
theorem sgn_len (v : Int) : (sgn v).length ≤ 8 := by unfold sgn; rw [beN_length]; exact (nOf_le v).2
theorem ok_str (t : Int) (s : List UInt8) (ht : i64ok t) (hs : s.length ≤ maxB) : okE (strE t s) := by
  simp only [strE, okE, okEs, List.length_nil]
  exact ⟨⟨by omega, by omega⟩, ht, hs, by unfold maxB; omega, trivial⟩
theorem same_seq (e : Elem) (t : Int) (s : List UInt8) : sameS (seqE (copyEs [e, strE t s])) (.mk 0 16 true [] [e, strE t s] []) = true := by
  refine same_of _ _ ?_
  simp only [seqE, copyE, copys_copys]
theorem same_as (e : Elem) (c t : Int) : sameS (.mk c t e.cons e.bytes (copyEs e.kids) []) (.mk c t e.cons e.bytes e.kids e.ext) = true := by
  refine same_of _ _ ?_
  simp only [copyE, copys_copys]

end Go.Proofs.YtajbeippbabhhaaGreatDoor.Eng
