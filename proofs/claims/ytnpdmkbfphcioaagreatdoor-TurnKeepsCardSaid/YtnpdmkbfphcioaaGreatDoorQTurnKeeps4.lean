/- What the proof needs, part 4: The compact code of functions, printed by a program of mine; A program logic over abstract states, 21: the moves of a run; A program logic over abstract states, 24: lists that may be appended to; what else stays; A program logic over abstract states, 25: the tactics of a run, carried by default arguments; printed by a program of mine; A program logic over abstract states, 26: further moves of a run: bytes, parts of lists; The reference's numbers; strconv.Itoa and strconv.Atoi by the shelf's contracts; worlds that have grown; Layer 26: steps as text: the plain side; Objects that are not written any more: their cells are cells that never turn. -/
import Derived.Laws.BitsLemmas
import Derived.Lib.AtoiAll
import Derived.Test.YtnpdmkbfphcioaaGreatDoorShelf
import Derived.Test.YtnpdmkbfphcioaaGreatDoorRows
import Derived.Lib.AppendIntMem
import Derived.Lib.AtoiErrMem
import Derived.LaidSub
import Derived.LaidHandle
import Derived.MakeChecks
import Derived.ProofKit
import Derived.Stop.LaidErr
import Derived.Test.YtnpdmkbfphcioaaGreatDoorQTurnKeeps3
/- The compact code of functions, printed by a program of mine. -/
namespace Go.Abs.F
open Go Go.Abs
set_option maxRecDepth 100000
noncomputable def c_strings_HasPrefix : IC := .seq (.region [⟨some 4, .mv (.cst (.v (.bool .false))), none⟩]) (.seq (.region [⟨some 5, .mv (.tmp 0), none⟩, ⟨some 6, .mv (.tmp 1), none⟩, ⟨some 7, .call i_stringslite_HasPrefix [.tmp 5, .tmp 6], none⟩, ⟨some 4, .mv (.tmp 7), none⟩]) .ret)
theorem b_strings_HasPrefix : HasBody P strings_HasPrefix 8 c_strings_HasPrefix [.tmp 4] := .of [] (by kernel_rfl)
noncomputable def c_slices_ContainsFunc_string_string : IC := .seq (.region [⟨some 4, .mv (.cst (.v (.bool .false))), none⟩]) (.seq (.region [⟨some 5, .mv (.tmp 0), none⟩, ⟨some 6, .mv (.tmp 1), none⟩, ⟨some 7, .call slices_IndexFunc_string_string [.tmp 5, .tmp 6], none⟩, ⟨some 8, .bin .geq .other (.tmp 7) (.cst (.v (.int .i64 0))), none⟩, ⟨some 4, .mv (.tmp 8), none⟩]) .ret)
theorem b_slices_ContainsFunc_string_string : HasBody P slices_ContainsFunc_string_string 9 c_slices_ContainsFunc_string_string [.tmp 4] := .of [] (by kernel_rfl)
noncomputable def c_ref01_Canon : IC := .seq (.region [⟨some 2, .mv (.cst (.v (.string (bs [])))), none⟩, ⟨some 3, .mv (.cst (.v (.bool .false))), none⟩]) (.seq (.region [⟨some 8, .mv (.tmp 0), none⟩, ⟨some 9, .call ref01_Split [.tmp 8], none⟩, ⟨some 7, .mv (.tmp 9), none⟩, ⟨some 10, .ext (.tmp 7) 0, none⟩, ⟨some 11, .ext (.tmp 7) 1, none⟩, ⟨some 12, .ext (.tmp 7) 2, none⟩, ⟨some 4, .mv (.tmp 10), none⟩, ⟨some 5, .mv (.tmp 11), none⟩, ⟨some 6, .mv (.tmp 12), none⟩]) (.seq (.seq (.region [⟨some 13, .mv (.tmp 6), none⟩, ⟨some 14, .un .not (.tmp 13), none⟩]) (.cond (.tmp 14) (.seq (.region [⟨some 2, .mv (.cst (.v (.string (bs [])))), none⟩, ⟨some 3, .mv (.cst (.v (.bool .false))), none⟩]) .ret) .skip)) (.seq (.region [⟨some 15, .mv (.tmp 4), none⟩, ⟨some 16, .bin .add .other (.tmp 15) (.cst (.v (.string (bs [64])))), none⟩, ⟨some 17, .mv (.tmp 5), none⟩, ⟨some 18, .call ref01_Lower [.tmp 17], none⟩, ⟨some 19, .bin .add .other (.tmp 16) (.tmp 18), none⟩, ⟨some 2, .mv (.tmp 19), none⟩, ⟨some 3, .mv (.cst (.v (.bool .true))), none⟩]) .ret)))
theorem b_ref01_Canon : HasBody P ref01_Canon 20 c_ref01_Canon [.tmp 2, .tmp 3] := .of [] (by kernel_rfl)
noncomputable def c_ref01_in : IC := .seq (.region [⟨some 4, .mv (.cst (.v (.bool .false))), none⟩]) (.seq (.seq (.region [⟨some 5, .mv (.cst (.v (.int .i64 0))), none⟩]) (.block 0 (.loop (.seq (.seq (.region [⟨some 6, .mv (.tmp 5), none⟩, ⟨some 7, .mv (.tmp 0), none⟩, ⟨some 8, .len .str (.tmp 7), none⟩, ⟨some 9, .bin .lss .other (.tmp 6) (.tmp 8), none⟩]) (.cond (.tmp 9) .skip (.exit 0))) (.seq (.block 1 (.seq (.region [⟨some 12, .mv (.tmp 0), none⟩, ⟨some 13, .mv (.tmp 5), none⟩, ⟨some 14, .ixS (.tmp 12) (.tmp 13), none⟩, ⟨some 15, .mv (.tmp 1), none⟩, ⟨some 16, .bin .eql .other (.tmp 14) (.tmp 15), none⟩]) (.cond (.tmp 16) (.seq (.region [⟨some 4, .mv (.cst (.v (.bool .true))), none⟩]) .ret) .skip))) (.region [⟨some 10, .mv (.tmp 5), none⟩, ⟨some 11, .bin .add .other (.tmp 10) (.cst (.v (.int .i64 1))), none⟩, ⟨some 5, .mv (.tmp 11), none⟩])))))) (.seq (.region [⟨some 4, .mv (.cst (.v (.bool .false))), none⟩]) .ret))
theorem b_ref01_in : HasBody P ref01_in 17 c_ref01_in [.tmp 4] := .of [] (by kernel_rfl)
noncomputable def c_strings_CutPrefix : IC := .seq (.region [⟨some 4, .mv (.cst (.v (.string (bs [])))), none⟩, ⟨some 5, .mv (.cst (.v (.bool .false))), none⟩]) (.seq (.region [⟨some 6, .mv (.tmp 0), none⟩, ⟨some 7, .mv (.tmp 1), none⟩, ⟨some 8, .call i_stringslite_CutPrefix [.tmp 6, .tmp 7], none⟩, ⟨some 9, .ext (.tmp 8) 0, none⟩, ⟨some 10, .ext (.tmp 8) 1, none⟩, ⟨some 4, .mv (.tmp 9), none⟩, ⟨some 5, .mv (.tmp 10), none⟩]) .ret)
theorem b_strings_CutPrefix : HasBody P strings_CutPrefix 11 c_strings_CutPrefix [.tmp 4, .tmp 5] := .of [] (by kernel_rfl)
noncomputable def c_i_stringslite_HasPrefix : IC := .seq (.region [⟨some 4, .mv (.cst (.v (.bool .false))), none⟩]) (.seq (.region [⟨some 5, .mv (.tmp 0), none⟩, ⟨some 6, .len .str (.tmp 5), none⟩, ⟨some 7, .mv (.tmp 1), none⟩, ⟨some 8, .len .str (.tmp 7), none⟩, ⟨some 9, .bin .geq .other (.tmp 6) (.tmp 8), none⟩, ⟨some 10, .mv (.tmp 9), none⟩, ⟨some 11, .mv (.tmp 0), some (10, .true)⟩, ⟨some 12, .mv (.tmp 1), some (10, .true)⟩, ⟨some 13, .len .str (.tmp 12), some (10, .true)⟩, ⟨some 14, .slS (.tmp 11) none (some (.tmp 13)), some (10, .true)⟩, ⟨some 15, .mv (.tmp 1), some (10, .true)⟩, ⟨some 16, .bin .eql .other (.tmp 14) (.tmp 15), some (10, .true)⟩, ⟨some 17, .pick (.tmp 10) (.tmp 16) (.cst (.v (.bool .false))), none⟩, ⟨some 4, .mv (.tmp 17), none⟩]) .ret)
theorem b_i_stringslite_HasPrefix : HasBody P i_stringslite_HasPrefix 18 c_i_stringslite_HasPrefix [.tmp 4] := .of [] (by kernel_rfl)
noncomputable def c_strings_Cut : IC := .seq (.region [⟨some 4, .mv (.cst (.v (.string (bs [])))), none⟩, ⟨some 5, .mv (.cst (.v (.string (bs [])))), none⟩, ⟨some 6, .mv (.cst (.v (.bool .false))), none⟩]) (.seq (.region [⟨some 7, .mv (.tmp 0), none⟩, ⟨some 8, .mv (.tmp 1), none⟩, ⟨some 9, .call i_stringslite_Cut [.tmp 7, .tmp 8], none⟩, ⟨some 10, .ext (.tmp 9) 0, none⟩, ⟨some 11, .ext (.tmp 9) 1, none⟩, ⟨some 12, .ext (.tmp 9) 2, none⟩, ⟨some 4, .mv (.tmp 10), none⟩, ⟨some 5, .mv (.tmp 11), none⟩, ⟨some 6, .mv (.tmp 12), none⟩]) .ret)
theorem b_strings_Cut : HasBody P strings_Cut 13 c_strings_Cut [.tmp 4, .tmp 5, .tmp 6] := .of [] (by kernel_rfl)
noncomputable def c_addr_Canon : IC := .seq (.region [⟨some 2, .mv (.cst (.v (.string (bs [])))), none⟩, ⟨some 3, .mv (.cst (.v (.bool .false))), none⟩]) (.seq (.region [⟨some 8, .mv (.tmp 0), none⟩, ⟨some 9, .call addr_Split [.tmp 8], none⟩, ⟨some 7, .mv (.tmp 9), none⟩, ⟨some 10, .ext (.tmp 7) 0, none⟩, ⟨some 11, .ext (.tmp 7) 1, none⟩, ⟨some 12, .ext (.tmp 7) 2, none⟩, ⟨some 4, .mv (.tmp 10), none⟩, ⟨some 5, .mv (.tmp 11), none⟩, ⟨some 6, .mv (.tmp 12), none⟩]) (.seq (.seq (.region [⟨some 13, .mv (.tmp 6), none⟩, ⟨some 14, .un .not (.tmp 13), none⟩]) (.cond (.tmp 14) (.seq (.region [⟨some 2, .mv (.cst (.v (.string (bs [])))), none⟩, ⟨some 3, .mv (.cst (.v (.bool .false))), none⟩]) .ret) .skip)) (.seq (.region [⟨some 15, .mv (.tmp 4), none⟩, ⟨some 16, .bin .add .other (.tmp 15) (.cst (.v (.string (bs [64])))), none⟩, ⟨some 17, .mv (.tmp 5), none⟩, ⟨some 18, .call addr_Lower [.tmp 17], none⟩, ⟨some 19, .bin .add .other (.tmp 16) (.tmp 18), none⟩, ⟨some 2, .mv (.tmp 19), none⟩, ⟨some 3, .mv (.cst (.v (.bool .true))), none⟩]) .ret)))
theorem b_addr_Canon : HasBody P addr_Canon 20 c_addr_Canon [.tmp 2, .tmp 3] := .of [] (by kernel_rfl)
noncomputable def c_slices_IndexFunc_string_string : IC := .seq (.region [⟨some 4, .mv (.cst (.v (.int .i64 0))), none⟩]) (.seq (.seq (.region [⟨some 6, .mv (.tmp 0), none⟩, ⟨some 7, .len .sl (.tmp 6), none⟩, ⟨some 8, .mv (.cst (.v (.int .i64 0))), none⟩]) (.block 0 (.loop (.seq (.region [⟨some 9, .bin .lss .other (.tmp 8) (.tmp 7), none⟩]) (.seq (.cond (.tmp 9) .skip (.exit 0)) (.seq (.block 1 (.seq (.region [⟨some 10, .mv (.tmp 8), none⟩, ⟨some 5, .mv (.tmp 10), none⟩]) (.seq (.region [⟨some 11, .mv (.tmp 1), none⟩, ⟨some 12, .mv (.tmp 0), none⟩, ⟨some 13, .mv (.tmp 5), none⟩, ⟨some 14, .iaL 1 (.tmp 12) (.tmp 13), none⟩, ⟨some 15, .load (.tmp 14) none, none⟩, ⟨some 16, .callv (.tmp 11) [.tmp 15], none⟩]) (.cond (.tmp 16) (.seq (.region [⟨some 17, .mv (.tmp 5), none⟩, ⟨some 4, .mv (.tmp 17), none⟩]) .ret) .skip)))) (.region [⟨some 18, .bin .add .other (.tmp 8) (.cst (.v (.int .i64 1))), none⟩, ⟨some 8, .mv (.tmp 18), none⟩]))))))) (.seq (.region [⟨some 4, .mv (.cst (.v (.int .i64 (-1)))), none⟩]) .ret))
theorem b_slices_IndexFunc_string_string : HasBody P slices_IndexFunc_string_string 19 c_slices_IndexFunc_string_string [.tmp 4] := .of [] (by kernel_rfl)
noncomputable def c_strings_Split : IC := .seq (.region [⟨some 4, .mv (.cst (.list 1 [] .full)), none⟩]) (.seq (.region [⟨some 5, .mv (.tmp 0), none⟩, ⟨some 6, .mv (.tmp 1), none⟩, ⟨some 7, .call strings_genSplit [.tmp 5, .tmp 6, .cst (.v (.int .i64 0)), .cst (.v (.int .i64 (-1)))], none⟩, ⟨some 4, .mv (.tmp 7), none⟩]) .ret)
theorem b_strings_Split : HasBody P strings_Split 8 c_strings_Split [.tmp 4] := .of [] (by kernel_rfl)
noncomputable def c_ref01_Split : IC := .seq (.region [⟨some 2, .mv (.cst (.v (.string (bs [])))), none⟩, ⟨some 3, .mv (.cst (.v (.string (bs [])))), none⟩, ⟨some 4, .mv (.cst (.v (.bool .false))), none⟩]) (.seq (.region [⟨some 6, .mv (.tmp 0), none⟩, ⟨some 7, .call ref01_find [.tmp 6, .cst (.v (.int .u8 64))], none⟩, ⟨some 5, .mv (.tmp 7), none⟩]) (.seq (.seq (.region [⟨some 8, .mv (.tmp 5), none⟩, ⟨some 9, .bin .lss .other (.tmp 8) (.cst (.v (.int .i64 0))), none⟩, ⟨some 10, .mv (.tmp 9), none⟩, ⟨some 11, .mv (.tmp 0), some (10, .false)⟩, ⟨some 12, .mv (.tmp 5), some (10, .false)⟩, ⟨some 13, .slS (.tmp 11) none (some (.tmp 12)), some (10, .false)⟩, ⟨some 14, .call ref01_Local [.tmp 13], some (10, .false)⟩, ⟨some 15, .un .not (.tmp 14), some (10, .false)⟩, ⟨some 16, .pick (.tmp 10) (.cst (.v (.bool .true))) (.tmp 15), none⟩, ⟨some 17, .mv (.tmp 16), none⟩, ⟨some 18, .mv (.tmp 0), some (17, .false)⟩, ⟨some 19, .mv (.tmp 5), some (17, .false)⟩, ⟨some 20, .bin .add .other (.tmp 19) (.cst (.v (.int .i64 1))), some (17, .false)⟩, ⟨some 21, .slS (.tmp 18) (some (.tmp 20)) none, some (17, .false)⟩, ⟨some 22, .call ref01_Domain [.tmp 21], some (17, .false)⟩, ⟨some 23, .un .not (.tmp 22), some (17, .false)⟩, ⟨some 24, .pick (.tmp 17) (.cst (.v (.bool .true))) (.tmp 23), none⟩]) (.cond (.tmp 24) (.seq (.region [⟨some 2, .mv (.cst (.v (.string (bs [])))), none⟩, ⟨some 3, .mv (.cst (.v (.string (bs [])))), none⟩, ⟨some 4, .mv (.cst (.v (.bool .false))), none⟩]) .ret) .skip)) (.seq (.region [⟨some 25, .mv (.tmp 0), none⟩, ⟨some 26, .mv (.tmp 5), none⟩, ⟨some 27, .slS (.tmp 25) none (some (.tmp 26)), none⟩, ⟨some 28, .mv (.tmp 0), none⟩, ⟨some 29, .mv (.tmp 5), none⟩, ⟨some 30, .bin .add .other (.tmp 29) (.cst (.v (.int .i64 1))), none⟩, ⟨some 31, .slS (.tmp 28) (some (.tmp 30)) none, none⟩, ⟨some 2, .mv (.tmp 27), none⟩, ⟨some 3, .mv (.tmp 31), none⟩, ⟨some 4, .mv (.cst (.v (.bool .true))), none⟩]) .ret)))
theorem b_ref01_Split : HasBody P ref01_Split 32 c_ref01_Split [.tmp 2, .tmp 3, .tmp 4] := .of [] (by kernel_rfl)
noncomputable def c_ref01_Lower : IC := .seq (.region [⟨some 2, .mv (.cst (.v (.string (bs [])))), none⟩]) (.seq (.region [⟨some 5, .mv (.tmp 0), none⟩, ⟨some 6, .s2b .true (.tmp 5), none⟩, ⟨some 3, .mv (.tmp 6), none⟩]) (.seq (.seq (.region [⟨some 4, .mv (.cst (.v (.int .i64 0))), none⟩]) (.block 0 (.loop (.seq (.seq (.region [⟨some 7, .mv (.tmp 4), none⟩, ⟨some 8, .mv (.tmp 3), none⟩, ⟨some 9, .len .sl (.tmp 8), none⟩, ⟨some 10, .bin .lss .other (.tmp 7) (.tmp 9), none⟩]) (.cond (.tmp 10) .skip (.exit 0))) (.seq (.block 1 (.seq (.region [⟨some 13, .mv (.tmp 3), none⟩, ⟨some 14, .mv (.tmp 4), none⟩, ⟨some 15, .iaL 1 (.tmp 13) (.tmp 14), none⟩, ⟨some 16, .load (.tmp 15) none, none⟩, ⟨some 17, .bin .geq .other (.tmp 16) (.cst (.v (.int .u8 65))), none⟩, ⟨some 18, .mv (.tmp 17), none⟩, ⟨some 19, .mv (.tmp 3), some (18, .true)⟩, ⟨some 20, .mv (.tmp 4), some (18, .true)⟩, ⟨some 21, .iaL 1 (.tmp 19) (.tmp 20), some (18, .true)⟩, ⟨some 22, .load (.tmp 21) none, some (18, .true)⟩, ⟨some 23, .bin .leq .other (.tmp 22) (.cst (.v (.int .u8 90))), some (18, .true)⟩, ⟨some 24, .pick (.tmp 18) (.tmp 23) (.cst (.v (.bool .false))), none⟩]) (.cond (.tmp 24) (.region [⟨some 25, .mv (.tmp 3), none⟩, ⟨some 26, .mv (.tmp 4), none⟩, ⟨some 27, .mv (.tmp 3), none⟩, ⟨some 28, .mv (.tmp 4), none⟩, ⟨some 29, .iaL 1 (.tmp 27) (.tmp 28), none⟩, ⟨some 30, .load (.tmp 29) none, none⟩, ⟨some 31, .bin .add .other (.tmp 30) (.cst (.v (.int .u8 32))), none⟩, ⟨some 32, .iaL 1 (.tmp 25) (.tmp 26), none⟩, ⟨none, .store (.tmp 32) (.tmp 31) 1, none⟩]) .skip))) (.region [⟨some 11, .mv (.tmp 4), none⟩, ⟨some 12, .bin .add .other (.tmp 11) (.cst (.v (.int .i64 1))), none⟩, ⟨some 4, .mv (.tmp 12), none⟩])))))) (.seq (.region [⟨some 33, .mv (.tmp 3), none⟩, ⟨some 34, .b2s (.tmp 33), none⟩, ⟨some 2, .mv (.tmp 34), none⟩]) .ret)))
theorem b_ref01_Lower : HasBody P ref01_Lower 35 c_ref01_Lower [.tmp 2] := .of [6] (by kernel_rfl)
noncomputable def c_i_stringslite_CutPrefix : IC := .seq (.region [⟨some 4, .mv (.cst (.v (.string (bs [])))), none⟩, ⟨some 5, .mv (.cst (.v (.bool .false))), none⟩]) (.seq (.seq (.region [⟨some 6, .mv (.tmp 0), none⟩, ⟨some 7, .mv (.tmp 1), none⟩, ⟨some 8, .call i_stringslite_HasPrefix [.tmp 6, .tmp 7], none⟩, ⟨some 9, .un .not (.tmp 8), none⟩]) (.cond (.tmp 9) (.seq (.region [⟨some 10, .mv (.tmp 0), none⟩, ⟨some 4, .mv (.tmp 10), none⟩, ⟨some 5, .mv (.cst (.v (.bool .false))), none⟩]) .ret) .skip)) (.seq (.region [⟨some 11, .mv (.tmp 0), none⟩, ⟨some 12, .mv (.tmp 1), none⟩, ⟨some 13, .len .str (.tmp 12), none⟩, ⟨some 14, .slS (.tmp 11) (some (.tmp 13)) none, none⟩, ⟨some 4, .mv (.tmp 14), none⟩, ⟨some 5, .mv (.cst (.v (.bool .true))), none⟩]) .ret))
theorem b_i_stringslite_CutPrefix : HasBody P i_stringslite_CutPrefix 15 c_i_stringslite_CutPrefix [.tmp 4, .tmp 5] := .of [] (by kernel_rfl)
noncomputable def c_i_stringslite_Cut : IC := .seq (.region [⟨some 4, .mv (.cst (.v (.string (bs [])))), none⟩, ⟨some 5, .mv (.cst (.v (.string (bs [])))), none⟩, ⟨some 6, .mv (.cst (.v (.bool .false))), none⟩]) (.seq (.seq (.region [⟨some 8, .mv (.tmp 0), none⟩, ⟨some 9, .mv (.tmp 1), none⟩, ⟨some 10, .call i_stringslite_Index [.tmp 8, .tmp 9], none⟩, ⟨some 7, .mv (.tmp 10), none⟩]) (.seq (.region [⟨some 11, .mv (.tmp 7), none⟩, ⟨some 12, .bin .geq .other (.tmp 11) (.cst (.v (.int .i64 0))), none⟩]) (.cond (.tmp 12) (.seq (.region [⟨some 13, .mv (.tmp 0), none⟩, ⟨some 14, .mv (.tmp 7), none⟩, ⟨some 15, .slS (.tmp 13) none (some (.tmp 14)), none⟩, ⟨some 16, .mv (.tmp 0), none⟩, ⟨some 17, .mv (.tmp 7), none⟩, ⟨some 18, .mv (.tmp 1), none⟩, ⟨some 19, .len .str (.tmp 18), none⟩, ⟨some 20, .bin .add .other (.tmp 17) (.tmp 19), none⟩, ⟨some 21, .slS (.tmp 16) (some (.tmp 20)) none, none⟩, ⟨some 4, .mv (.tmp 15), none⟩, ⟨some 5, .mv (.tmp 21), none⟩, ⟨some 6, .mv (.cst (.v (.bool .true))), none⟩]) .ret) .skip))) (.seq (.region [⟨some 22, .mv (.tmp 0), none⟩, ⟨some 4, .mv (.tmp 22), none⟩, ⟨some 5, .mv (.cst (.v (.string (bs [])))), none⟩, ⟨some 6, .mv (.cst (.v (.bool .false))), none⟩]) .ret))
theorem b_i_stringslite_Cut : HasBody P i_stringslite_Cut 23 c_i_stringslite_Cut [.tmp 4, .tmp 5, .tmp 6] := .of [] (by kernel_rfl)
noncomputable def c_addr_Split : IC := .seq (.region [⟨some 2, .mv (.cst (.v (.string (bs [])))), none⟩, ⟨some 3, .mv (.cst (.v (.string (bs [])))), none⟩, ⟨some 4, .mv (.cst (.v (.bool .false))), none⟩]) (.seq (.region [⟨some 6, .mv (.tmp 0), none⟩, ⟨some 7, .call strings_Cut [.tmp 6, .cst (.v (.string (bs [64])))], none⟩, ⟨some 5, .mv (.tmp 7), none⟩, ⟨some 8, .ext (.tmp 5) 0, none⟩, ⟨some 9, .ext (.tmp 5) 1, none⟩, ⟨some 10, .ext (.tmp 5) 2, none⟩, ⟨some 2, .mv (.tmp 8), none⟩, ⟨some 3, .mv (.tmp 9), none⟩, ⟨some 4, .mv (.tmp 10), none⟩]) (.seq (.seq (.region [⟨some 11, .mv (.tmp 4), none⟩, ⟨some 12, .un .not (.tmp 11), none⟩, ⟨some 13, .mv (.tmp 12), none⟩, ⟨some 14, .mv (.tmp 2), some (13, .false)⟩, ⟨some 15, .call addr_Local [.tmp 14], some (13, .false)⟩, ⟨some 16, .un .not (.tmp 15), some (13, .false)⟩, ⟨some 17, .pick (.tmp 13) (.cst (.v (.bool .true))) (.tmp 16), none⟩, ⟨some 18, .mv (.tmp 17), none⟩, ⟨some 19, .mv (.tmp 3), some (18, .false)⟩, ⟨some 20, .call addr_Domain [.tmp 19], some (18, .false)⟩, ⟨some 21, .un .not (.tmp 20), some (18, .false)⟩, ⟨some 22, .pick (.tmp 18) (.cst (.v (.bool .true))) (.tmp 21), none⟩]) (.cond (.tmp 22) (.seq (.region [⟨some 2, .mv (.cst (.v (.string (bs [])))), none⟩, ⟨some 3, .mv (.cst (.v (.string (bs [])))), none⟩, ⟨some 4, .mv (.cst (.v (.bool .false))), none⟩]) .ret) .skip)) (.seq (.region [⟨some 23, .mv (.tmp 2), none⟩, ⟨some 24, .mv (.tmp 3), none⟩, ⟨some 2, .mv (.tmp 23), none⟩, ⟨some 3, .mv (.tmp 24), none⟩, ⟨some 4, .mv (.cst (.v (.bool .true))), none⟩]) .ret)))
theorem b_addr_Split : HasBody P addr_Split 25 c_addr_Split [.tmp 2, .tmp 3, .tmp 4] := .of [] (by kernel_rfl)
noncomputable def c_addr_Lower : IC := .seq (.region [⟨some 2, .mv (.cst (.v (.string (bs [])))), none⟩]) (.seq (.region [⟨some 6, .mv (.tmp 0), none⟩, ⟨some 7, .s2b .true (.tmp 6), none⟩, ⟨some 3, .mv (.tmp 7), none⟩]) (.seq (.seq (.region [⟨some 8, .mv (.tmp 3), none⟩, ⟨some 9, .len .sl (.tmp 8), none⟩, ⟨some 10, .mv (.cst (.v (.int .i64 0))), none⟩]) (.block 0 (.loop (.seq (.region [⟨some 11, .bin .lss .other (.tmp 10) (.tmp 9), none⟩]) (.seq (.cond (.tmp 11) .skip (.exit 0)) (.seq (.block 1 (.seq (.region [⟨some 12, .mv (.tmp 10), none⟩, ⟨some 13, .iaL 1 (.tmp 8) (.tmp 10), none⟩, ⟨some 14, .load (.tmp 13) none, none⟩, ⟨some 4, .mv (.tmp 12), none⟩, ⟨some 5, .mv (.tmp 14), none⟩]) (.seq (.region [⟨some 15, .mv (.tmp 5), none⟩, ⟨some 16, .bin .geq .other (.tmp 15) (.cst (.v (.int .u8 65))), none⟩, ⟨some 17, .mv (.tmp 16), none⟩, ⟨some 18, .mv (.tmp 5), some (17, .true)⟩, ⟨some 19, .bin .leq .other (.tmp 18) (.cst (.v (.int .u8 90))), some (17, .true)⟩, ⟨some 20, .pick (.tmp 17) (.tmp 19) (.cst (.v (.bool .false))), none⟩]) (.cond (.tmp 20) (.region [⟨some 21, .mv (.tmp 3), none⟩, ⟨some 22, .mv (.tmp 4), none⟩, ⟨some 23, .mv (.tmp 5), none⟩, ⟨some 24, .bin .add .other (.tmp 23) (.cst (.v (.int .u8 97))), none⟩, ⟨some 25, .bin .sub .other (.tmp 24) (.cst (.v (.int .u8 65))), none⟩, ⟨some 26, .iaL 1 (.tmp 21) (.tmp 22), none⟩, ⟨none, .store (.tmp 26) (.tmp 25) 1, none⟩]) .skip)))) (.region [⟨some 27, .bin .add .other (.tmp 10) (.cst (.v (.int .i64 1))), none⟩, ⟨some 10, .mv (.tmp 27), none⟩]))))))) (.seq (.region [⟨some 28, .mv (.tmp 3), none⟩, ⟨some 29, .b2s (.tmp 28), none⟩, ⟨some 2, .mv (.tmp 29), none⟩]) .ret)))
theorem b_addr_Lower : HasBody P addr_Lower 30 c_addr_Lower [.tmp 2] := .of [7] (by kernel_rfl)
noncomputable def c_strings_genSplit : IC := .seq (.region [⟨some 8, .mv (.cst (.list 1 [] .full)), none⟩]) (.seq (.seq (.region [⟨some 12, .mv (.tmp 3), none⟩, ⟨some 13, .bin .eql .other (.tmp 12) (.cst (.v (.int .i64 0))), none⟩]) (.cond (.tmp 13) (.seq (.region [⟨some 8, .mv (.cst (.list 1 [] .full)), none⟩]) .ret) .skip)) (.seq (.seq (.region [⟨some 14, .mv (.tmp 1), none⟩, ⟨some 15, .bin .eql .other (.tmp 14) (.cst (.v (.string (bs [])))), none⟩]) (.cond (.tmp 15) (.seq (.region [⟨some 16, .mv (.tmp 0), none⟩, ⟨some 17, .mv (.tmp 3), none⟩, ⟨some 18, .call strings_explode [.tmp 16, .tmp 17], none⟩, ⟨some 8, .mv (.tmp 18), none⟩]) .ret) .skip)) (.seq (.seq (.region [⟨some 19, .mv (.tmp 3), none⟩, ⟨some 20, .bin .lss .other (.tmp 19) (.cst (.v (.int .i64 0))), none⟩]) (.cond (.tmp 20) (.region [⟨some 21, .mv (.tmp 0), none⟩, ⟨some 22, .mv (.tmp 1), none⟩, ⟨some 23, .call strings_Count [.tmp 21, .tmp 22], none⟩, ⟨some 24, .bin .add .other (.tmp 23) (.cst (.v (.int .i64 1))), none⟩, ⟨some 3, .mv (.tmp 24), none⟩]) .skip)) (.seq (.region [⟨some 25, .mv (.tmp 3), none⟩, ⟨some 26, .mv (.tmp 0), none⟩, ⟨some 27, .len .str (.tmp 26), none⟩, ⟨some 28, .bin .add .other (.tmp 27) (.cst (.v (.int .i64 1))), none⟩, ⟨some 29, .mnx .false [.tmp 25, .tmp 28], none⟩, ⟨some 3, .mv (.tmp 29), none⟩]) (.seq (.region [⟨some 30, .mv (.tmp 3), none⟩, ⟨some 31, .mks 1 16 [.v (.string (bs []))] (.tmp 30) (.tmp 30), none⟩, ⟨some 9, .mv (.tmp 31), none⟩]) (.seq (.region [⟨some 32, .mv (.tmp 3), none⟩, ⟨some 33, .bin .sub .other (.tmp 32) (.cst (.v (.int .i64 1))), none⟩, ⟨some 3, .mv (.tmp 33), none⟩]) (.seq (.region [⟨some 10, .mv (.cst (.v (.int .i64 0))), none⟩]) (.seq (.block 0 (.loop (.seq (.seq (.region [⟨some 34, .mv (.tmp 10), none⟩, ⟨some 35, .mv (.tmp 3), none⟩, ⟨some 36, .bin .lss .other (.tmp 34) (.tmp 35), none⟩]) (.cond (.tmp 36) .skip (.exit 0))) (.block 1 (.seq (.region [⟨some 37, .mv (.tmp 0), none⟩, ⟨some 38, .mv (.tmp 1), none⟩, ⟨some 39, .call strings_Index [.tmp 37, .tmp 38], none⟩, ⟨some 11, .mv (.tmp 39), none⟩]) (.seq (.seq (.region [⟨some 40, .mv (.tmp 11), none⟩, ⟨some 41, .bin .lss .other (.tmp 40) (.cst (.v (.int .i64 0))), none⟩]) (.cond (.tmp 41) (.exit 0) .skip)) (.seq (.region [⟨some 42, .mv (.tmp 9), none⟩, ⟨some 43, .mv (.tmp 10), none⟩, ⟨some 44, .mv (.tmp 0), none⟩, ⟨some 45, .mv (.tmp 11), none⟩, ⟨some 46, .mv (.tmp 2), none⟩, ⟨some 47, .bin .add .other (.tmp 45) (.tmp 46), none⟩, ⟨some 48, .slS (.tmp 44) none (some (.tmp 47)), none⟩, ⟨some 49, .iaL 1 (.tmp 42) (.tmp 43), none⟩, ⟨none, .store (.tmp 49) (.tmp 48) 1, none⟩]) (.seq (.region [⟨some 50, .mv (.tmp 0), none⟩, ⟨some 51, .mv (.tmp 11), none⟩, ⟨some 52, .mv (.tmp 1), none⟩, ⟨some 53, .len .str (.tmp 52), none⟩, ⟨some 54, .bin .add .other (.tmp 51) (.tmp 53), none⟩, ⟨some 55, .slS (.tmp 50) (some (.tmp 54)) none, none⟩, ⟨some 0, .mv (.tmp 55), none⟩]) (.region [⟨some 56, .mv (.tmp 10), none⟩, ⟨some 57, .bin .add .other (.tmp 56) (.cst (.v (.int .i64 1))), none⟩, ⟨some 10, .mv (.tmp 57), none⟩]))))))))) (.seq (.region [⟨some 58, .mv (.tmp 9), none⟩, ⟨some 59, .mv (.tmp 10), none⟩, ⟨some 60, .mv (.tmp 0), none⟩, ⟨some 61, .iaL 1 (.tmp 58) (.tmp 59), none⟩, ⟨none, .store (.tmp 61) (.tmp 60) 1, none⟩]) (.seq (.region [⟨some 62, .mv (.tmp 9), none⟩, ⟨some 63, .mv (.tmp 10), none⟩, ⟨some 64, .bin .add .other (.tmp 63) (.cst (.v (.int .i64 1))), none⟩, ⟨some 65, .slL 1 (.tmp 62) none (some (.tmp 64)) none, none⟩, ⟨some 8, .mv (.tmp 65), none⟩]) .ret))))))))))
theorem b_strings_genSplit : HasBody P strings_genSplit 66 c_strings_genSplit [.tmp 8] := .of [] (by kernel_rfl)
noncomputable def c_ref01_find : IC := .seq (.region [⟨some 4, .mv (.cst (.v (.int .i64 0))), none⟩]) (.seq (.seq (.region [⟨some 5, .mv (.cst (.v (.int .i64 0))), none⟩]) (.block 0 (.loop (.seq (.seq (.region [⟨some 6, .mv (.tmp 5), none⟩, ⟨some 7, .mv (.tmp 0), none⟩, ⟨some 8, .len .str (.tmp 7), none⟩, ⟨some 9, .bin .lss .other (.tmp 6) (.tmp 8), none⟩]) (.cond (.tmp 9) .skip (.exit 0))) (.seq (.block 1 (.seq (.region [⟨some 12, .mv (.tmp 0), none⟩, ⟨some 13, .mv (.tmp 5), none⟩, ⟨some 14, .ixS (.tmp 12) (.tmp 13), none⟩, ⟨some 15, .mv (.tmp 1), none⟩, ⟨some 16, .bin .eql .other (.tmp 14) (.tmp 15), none⟩]) (.cond (.tmp 16) (.seq (.region [⟨some 17, .mv (.tmp 5), none⟩, ⟨some 4, .mv (.tmp 17), none⟩]) .ret) .skip))) (.region [⟨some 10, .mv (.tmp 5), none⟩, ⟨some 11, .bin .add .other (.tmp 10) (.cst (.v (.int .i64 1))), none⟩, ⟨some 5, .mv (.tmp 11), none⟩])))))) (.seq (.region [⟨some 4, .mv (.cst (.v (.int .i64 (-1)))), none⟩]) .ret))
theorem b_ref01_find : HasBody P ref01_find 18 c_ref01_find [.tmp 4] := .of [] (by kernel_rfl)
noncomputable def c_ref01_Local : IC := .seq (.region [⟨some 2, .mv (.cst (.v (.bool .false))), none⟩]) (.seq (.seq (.region [⟨some 6, .mv (.tmp 0), none⟩, ⟨some 7, .len .str (.tmp 6), none⟩, ⟨some 8, .bin .gtr .other (.tmp 7) (.cst (.v (.int .i64 64))), none⟩]) (.cond (.tmp 8) (.seq (.region [⟨some 2, .mv (.cst (.v (.bool .false))), none⟩]) .ret) .skip)) (.seq (.region [⟨some 9, .mv (.tmp 0), none⟩, ⟨some 10, .call ref01_Cut [.tmp 9, .cst (.v (.int .u8 46))], none⟩, ⟨some 3, .mv (.tmp 10), none⟩]) (.seq (.seq (.region [⟨some 4, .mv (.cst (.v (.int .i64 0))), none⟩]) (.block 0 (.loop (.seq (.seq (.region [⟨some 11, .mv (.tmp 4), none⟩, ⟨some 12, .mv (.tmp 3), none⟩, ⟨some 13, .len .sl (.tmp 12), none⟩, ⟨some 14, .bin .lss .other (.tmp 11) (.tmp 13), none⟩]) (.cond (.tmp 14) .skip (.exit 0))) (.seq (.block 1 (.seq (.seq (.region [⟨some 17, .mv (.tmp 3), none⟩, ⟨some 18, .mv (.tmp 4), none⟩, ⟨some 19, .iaL 1 (.tmp 17) (.tmp 18), none⟩, ⟨some 20, .load (.tmp 19) none, none⟩, ⟨some 21, .bin .eql .other (.tmp 20) (.cst (.v (.string (bs [])))), none⟩]) (.cond (.tmp 21) (.seq (.region [⟨some 2, .mv (.cst (.v (.bool .false))), none⟩]) .ret) .skip)) (.seq (.region [⟨some 5, .mv (.cst (.v (.int .i64 0))), none⟩]) (.block 2 (.loop (.seq (.seq (.region [⟨some 22, .mv (.tmp 5), none⟩, ⟨some 23, .mv (.tmp 3), none⟩, ⟨some 24, .mv (.tmp 4), none⟩, ⟨some 25, .iaL 1 (.tmp 23) (.tmp 24), none⟩, ⟨some 26, .load (.tmp 25) none, none⟩, ⟨some 27, .len .str (.tmp 26), none⟩, ⟨some 28, .bin .lss .other (.tmp 22) (.tmp 27), none⟩]) (.cond (.tmp 28) .skip (.exit 2))) (.seq (.block 3 (.seq (.region [⟨some 31, .mv (.tmp 3), none⟩, ⟨some 32, .mv (.tmp 4), none⟩, ⟨some 33, .iaL 1 (.tmp 31) (.tmp 32), none⟩, ⟨some 34, .load (.tmp 33) none, none⟩, ⟨some 35, .mv (.tmp 5), none⟩, ⟨some 36, .ixS (.tmp 34) (.tmp 35), none⟩, ⟨some 37, .call ref01_letter [.tmp 36], none⟩, ⟨some 38, .un .not (.tmp 37), none⟩, ⟨some 39, .mv (.tmp 38), none⟩, ⟨some 40, .mv (.tmp 3), some (39, .true)⟩, ⟨some 41, .mv (.tmp 4), some (39, .true)⟩, ⟨some 42, .iaL 1 (.tmp 40) (.tmp 41), some (39, .true)⟩, ⟨some 43, .load (.tmp 42) none, some (39, .true)⟩, ⟨some 44, .mv (.tmp 5), some (39, .true)⟩, ⟨some 45, .ixS (.tmp 43) (.tmp 44), some (39, .true)⟩, ⟨some 46, .call ref01_in [.cst (.v (.string (bs [33, 35, 36, 37, 38, 39, 42, 43, 45, 47, 61, 63, 94, 95, 96, 123, 124, 125, 126]))), .tmp 45], some (39, .true)⟩, ⟨some 47, .un .not (.tmp 46), some (39, .true)⟩, ⟨some 48, .pick (.tmp 39) (.tmp 47) (.cst (.v (.bool .false))), none⟩]) (.cond (.tmp 48) (.seq (.region [⟨some 2, .mv (.cst (.v (.bool .false))), none⟩]) .ret) .skip))) (.region [⟨some 29, .mv (.tmp 5), none⟩, ⟨some 30, .bin .add .other (.tmp 29) (.cst (.v (.int .i64 1))), none⟩, ⟨some 5, .mv (.tmp 30), none⟩])))))))) (.region [⟨some 15, .mv (.tmp 4), none⟩, ⟨some 16, .bin .add .other (.tmp 15) (.cst (.v (.int .i64 1))), none⟩, ⟨some 4, .mv (.tmp 16), none⟩])))))) (.seq (.region [⟨some 2, .mv (.cst (.v (.bool .true))), none⟩]) .ret))))
theorem b_ref01_Local : HasBody P ref01_Local 49 c_ref01_Local [.tmp 2] := .of [] (by kernel_rfl)
noncomputable def c_ref01_Domain : IC := .seq (.region [⟨some 2, .mv (.cst (.v (.bool .false))), none⟩]) (.seq (.seq (.region [⟨some 7, .mv (.tmp 0), none⟩, ⟨some 8, .len .str (.tmp 7), none⟩, ⟨some 9, .bin .gtr .other (.tmp 8) (.cst (.v (.int .i64 255))), none⟩]) (.cond (.tmp 9) (.seq (.region [⟨some 2, .mv (.cst (.v (.bool .false))), none⟩]) .ret) .skip)) (.seq (.region [⟨some 10, .mv (.tmp 0), none⟩, ⟨some 11, .call ref01_Cut [.tmp 10, .cst (.v (.int .u8 46))], none⟩, ⟨some 3, .mv (.tmp 11), none⟩]) (.seq (.seq (.region [⟨some 4, .mv (.cst (.v (.int .i64 0))), none⟩]) (.block 0 (.loop (.seq (.seq (.region [⟨some 12, .mv (.tmp 4), none⟩, ⟨some 13, .mv (.tmp 3), none⟩, ⟨some 14, .len .sl (.tmp 13), none⟩, ⟨some 15, .bin .lss .other (.tmp 12) (.tmp 14), none⟩]) (.cond (.tmp 15) .skip (.exit 0))) (.seq (.block 1 (.seq (.region [⟨some 18, .mv (.tmp 3), none⟩, ⟨some 19, .mv (.tmp 4), none⟩, ⟨some 20, .iaL 1 (.tmp 18) (.tmp 19), none⟩, ⟨some 21, .load (.tmp 20) none, none⟩, ⟨some 5, .mv (.tmp 21), none⟩]) (.seq (.seq (.region [⟨some 22, .mv (.tmp 5), none⟩, ⟨some 23, .bin .eql .other (.tmp 22) (.cst (.v (.string (bs [])))), none⟩, ⟨some 24, .mv (.tmp 23), none⟩, ⟨some 25, .mv (.tmp 5), some (24, .false)⟩, ⟨some 26, .len .str (.tmp 25), some (24, .false)⟩, ⟨some 27, .bin .gtr .other (.tmp 26) (.cst (.v (.int .i64 63))), some (24, .false)⟩, ⟨some 28, .pick (.tmp 24) (.cst (.v (.bool .true))) (.tmp 27), none⟩, ⟨some 29, .mv (.tmp 28), none⟩, ⟨some 30, .mv (.tmp 5), some (29, .false)⟩, ⟨some 31, .ixS (.tmp 30) (.cst (.v (.int .i64 0))), some (29, .false)⟩, ⟨some 32, .bin .eql .other (.tmp 31) (.cst (.v (.int .u8 45))), some (29, .false)⟩, ⟨some 33, .pick (.tmp 29) (.cst (.v (.bool .true))) (.tmp 32), none⟩, ⟨some 34, .mv (.tmp 33), none⟩, ⟨some 35, .mv (.tmp 5), some (34, .false)⟩, ⟨some 36, .mv (.tmp 5), some (34, .false)⟩, ⟨some 37, .len .str (.tmp 36), some (34, .false)⟩, ⟨some 38, .bin .sub .other (.tmp 37) (.cst (.v (.int .i64 1))), some (34, .false)⟩, ⟨some 39, .ixS (.tmp 35) (.tmp 38), some (34, .false)⟩, ⟨some 40, .bin .eql .other (.tmp 39) (.cst (.v (.int .u8 45))), some (34, .false)⟩, ⟨some 41, .pick (.tmp 34) (.cst (.v (.bool .true))) (.tmp 40), none⟩]) (.cond (.tmp 41) (.seq (.region [⟨some 2, .mv (.cst (.v (.bool .false))), none⟩]) .ret) .skip)) (.seq (.region [⟨some 6, .mv (.cst (.v (.int .i64 0))), none⟩]) (.block 2 (.loop (.seq (.seq (.region [⟨some 42, .mv (.tmp 6), none⟩, ⟨some 43, .mv (.tmp 5), none⟩, ⟨some 44, .len .str (.tmp 43), none⟩, ⟨some 45, .bin .lss .other (.tmp 42) (.tmp 44), none⟩]) (.cond (.tmp 45) .skip (.exit 2))) (.seq (.block 3 (.seq (.region [⟨some 48, .mv (.tmp 5), none⟩, ⟨some 49, .mv (.tmp 6), none⟩, ⟨some 50, .ixS (.tmp 48) (.tmp 49), none⟩, ⟨some 51, .call ref01_letter [.tmp 50], none⟩, ⟨some 52, .un .not (.tmp 51), none⟩, ⟨some 53, .mv (.tmp 52), none⟩, ⟨some 54, .mv (.tmp 5), some (53, .true)⟩, ⟨some 55, .mv (.tmp 6), some (53, .true)⟩, ⟨some 56, .ixS (.tmp 54) (.tmp 55), some (53, .true)⟩, ⟨some 57, .bin .neq .other (.tmp 56) (.cst (.v (.int .u8 45))), some (53, .true)⟩, ⟨some 58, .pick (.tmp 53) (.tmp 57) (.cst (.v (.bool .false))), none⟩]) (.cond (.tmp 58) (.seq (.region [⟨some 2, .mv (.cst (.v (.bool .false))), none⟩]) .ret) .skip))) (.region [⟨some 46, .mv (.tmp 6), none⟩, ⟨some 47, .bin .add .other (.tmp 46) (.cst (.v (.int .i64 1))), none⟩, ⟨some 6, .mv (.tmp 47), none⟩]))))))))) (.region [⟨some 16, .mv (.tmp 4), none⟩, ⟨some 17, .bin .add .other (.tmp 16) (.cst (.v (.int .i64 1))), none⟩, ⟨some 4, .mv (.tmp 17), none⟩])))))) (.seq (.region [⟨some 2, .mv (.cst (.v (.bool .true))), none⟩]) .ret))))
theorem b_ref01_Domain : HasBody P ref01_Domain 59 c_ref01_Domain [.tmp 2] := .of [] (by kernel_rfl)
noncomputable def c_addr_Local : IC := .seq (.region [⟨some 2, .mv (.cst (.v (.bool .false))), none⟩]) (.seq (.region [⟨some 3, .mv (.cst (.func (.func addr_Local_1) [] [])), none⟩]) (.seq (.region [⟨some 4, .mv (.tmp 0), none⟩, ⟨some 5, .len .str (.tmp 4), none⟩, ⟨some 6, .bin .leq .other (.tmp 5) (.cst (.v (.int .i64 64))), none⟩, ⟨some 7, .mv (.tmp 6), none⟩, ⟨some 8, .mv (.tmp 0), some (7, .true)⟩, ⟨some 9, .call strings_Split [.tmp 8, .cst (.v (.string (bs [46])))], some (7, .true)⟩, ⟨some 10, .mv (.tmp 3), some (7, .true)⟩, ⟨some 11, .call slices_ContainsFunc_string_string [.tmp 9, .tmp 10], some (7, .true)⟩, ⟨some 12, .un .not (.tmp 11), some (7, .true)⟩, ⟨some 13, .pick (.tmp 7) (.tmp 12) (.cst (.v (.bool .false))), none⟩, ⟨some 2, .mv (.tmp 13), none⟩]) .ret))
theorem b_addr_Local : HasBody P addr_Local 14 c_addr_Local [.tmp 2] := .of [] (by kernel_rfl)
noncomputable def c_addr_Domain : IC := .seq (.region [⟨some 2, .mv (.cst (.v (.bool .false))), none⟩]) (.seq (.region [⟨some 3, .mv (.cst (.func (.func addr_Domain_1) [] [])), none⟩]) (.seq (.region [⟨some 4, .mv (.tmp 0), none⟩, ⟨some 5, .len .str (.tmp 4), none⟩, ⟨some 6, .bin .leq .other (.tmp 5) (.cst (.v (.int .i64 255))), none⟩, ⟨some 7, .mv (.tmp 6), none⟩, ⟨some 8, .mv (.tmp 0), some (7, .true)⟩, ⟨some 9, .call strings_Split [.tmp 8, .cst (.v (.string (bs [46])))], some (7, .true)⟩, ⟨some 10, .mv (.tmp 3), some (7, .true)⟩, ⟨some 11, .call slices_ContainsFunc_string_string [.tmp 9, .tmp 10], some (7, .true)⟩, ⟨some 12, .un .not (.tmp 11), some (7, .true)⟩, ⟨some 13, .pick (.tmp 7) (.tmp 12) (.cst (.v (.bool .false))), none⟩, ⟨some 2, .mv (.tmp 13), none⟩]) .ret))
theorem b_addr_Domain : HasBody P addr_Domain 14 c_addr_Domain [.tmp 2] := .of [] (by kernel_rfl)
noncomputable def c_ref01_Cut : IC := .seq (.region [⟨some 4, .mv (.cst (.list 1 [] .full)), none⟩]) (.seq (.region [⟨some 7, .litRow 1 1 [.v (.string (bs []))] [(0, .cst (.v (.string (bs []))))], none⟩, ⟨some 5, .mv (.tmp 7), none⟩]) (.seq (.seq (.region [⟨some 6, .mv (.cst (.v (.int .i64 0))), none⟩]) (.block 0 (.loop (.seq (.seq (.region [⟨some 8, .mv (.tmp 6), none⟩, ⟨some 9, .mv (.tmp 0), none⟩, ⟨some 10, .len .str (.tmp 9), none⟩, ⟨some 11, .bin .lss .other (.tmp 8) (.tmp 10), none⟩]) (.cond (.tmp 11) .skip (.exit 0))) (.seq (.block 1 (.seq (.region [⟨some 14, .mv (.tmp 0), none⟩, ⟨some 15, .mv (.tmp 6), none⟩, ⟨some 16, .ixS (.tmp 14) (.tmp 15), none⟩, ⟨some 17, .mv (.tmp 1), none⟩, ⟨some 18, .bin .eql .other (.tmp 16) (.tmp 17), none⟩]) (.cond (.tmp 18) (.region [⟨some 19, .mv (.tmp 5), none⟩, ⟨some 20, .lit 1 1 [.v (.string (bs []))] [(0, .cst (.v (.string (bs []))))], none⟩, ⟨some 21, .app 1 16 (.tmp 19) (.tmp 20), none⟩, ⟨some 5, .mv (.tmp 21), none⟩]) (.region [⟨some 22, .mv (.tmp 5), none⟩, ⟨some 23, .mv (.tmp 5), none⟩, ⟨some 24, .len .sl (.tmp 23), none⟩, ⟨some 25, .bin .sub .other (.tmp 24) (.cst (.v (.int .i64 1))), none⟩, ⟨some 26, .mv (.tmp 5), none⟩, ⟨some 27, .mv (.tmp 5), none⟩, ⟨some 28, .len .sl (.tmp 27), none⟩, ⟨some 29, .bin .sub .other (.tmp 28) (.cst (.v (.int .i64 1))), none⟩, ⟨some 30, .iaL 1 (.tmp 26) (.tmp 29), none⟩, ⟨some 31, .load (.tmp 30) none, none⟩, ⟨some 32, .mv (.tmp 0), none⟩, ⟨some 33, .mv (.tmp 6), none⟩, ⟨some 34, .mv (.tmp 6), none⟩, ⟨some 35, .bin .add .other (.tmp 34) (.cst (.v (.int .i64 1))), none⟩, ⟨some 36, .slS (.tmp 32) (some (.tmp 33)) (some (.tmp 35)), none⟩, ⟨some 37, .bin .add .other (.tmp 31) (.tmp 36), none⟩, ⟨some 38, .iaL 1 (.tmp 22) (.tmp 25), none⟩, ⟨none, .store (.tmp 38) (.tmp 37) 1, none⟩])))) (.region [⟨some 12, .mv (.tmp 6), none⟩, ⟨some 13, .bin .add .other (.tmp 12) (.cst (.v (.int .i64 1))), none⟩, ⟨some 6, .mv (.tmp 13), none⟩])))))) (.seq (.region [⟨some 39, .mv (.tmp 5), none⟩, ⟨some 4, .mv (.tmp 39), none⟩]) .ret)))
theorem b_ref01_Cut : HasBody P ref01_Cut 40 c_ref01_Cut [.tmp 4] := .of [7] (by kernel_rfl)
noncomputable def c_ref01_letter : IC := .seq (.region [⟨some 2, .mv (.cst (.v (.bool .false))), none⟩]) (.seq (.region [⟨some 3, .mv (.tmp 0), none⟩, ⟨some 4, .bin .geq .other (.tmp 3) (.cst (.v (.int .u8 97))), none⟩, ⟨some 5, .mv (.tmp 4), none⟩, ⟨some 6, .mv (.tmp 0), some (5, .true)⟩, ⟨some 7, .bin .leq .other (.tmp 6) (.cst (.v (.int .u8 122))), some (5, .true)⟩, ⟨some 8, .pick (.tmp 5) (.tmp 7) (.cst (.v (.bool .false))), none⟩, ⟨some 9, .mv (.tmp 8), none⟩, ⟨some 10, .mv (.tmp 0), some (9, .false)⟩, ⟨some 11, .bin .geq .other (.tmp 10) (.cst (.v (.int .u8 65))), some (9, .false)⟩, ⟨some 12, .mv (.tmp 11), some (9, .false)⟩, ⟨some 13, .mv (.tmp 0), some (12, .true)⟩, ⟨some 14, .bin .leq .other (.tmp 13) (.cst (.v (.int .u8 90))), some (12, .true)⟩, ⟨some 15, .pick (.tmp 12) (.tmp 14) (.cst (.v (.bool .false))), some (9, .false)⟩, ⟨some 16, .pick (.tmp 9) (.cst (.v (.bool .true))) (.tmp 15), none⟩, ⟨some 17, .mv (.tmp 16), none⟩, ⟨some 18, .mv (.tmp 0), some (17, .false)⟩, ⟨some 19, .bin .geq .other (.tmp 18) (.cst (.v (.int .u8 48))), some (17, .false)⟩, ⟨some 20, .mv (.tmp 19), some (17, .false)⟩, ⟨some 21, .mv (.tmp 0), some (20, .true)⟩, ⟨some 22, .bin .leq .other (.tmp 21) (.cst (.v (.int .u8 57))), some (20, .true)⟩, ⟨some 23, .pick (.tmp 20) (.tmp 22) (.cst (.v (.bool .false))), some (17, .false)⟩, ⟨some 24, .pick (.tmp 17) (.cst (.v (.bool .true))) (.tmp 23), none⟩, ⟨some 2, .mv (.tmp 24), none⟩]) .ret)
theorem b_ref01_letter : HasBody P ref01_letter 25 c_ref01_letter [.tmp 2] := .of [] (by kernel_rfl)
noncomputable def c_addr_Local_1 : IC := .seq (.region [⟨some 2, .mv (.cst (.v (.bool .false))), none⟩]) (.seq (.region [⟨some 3, .mv (.tmp 0), none⟩, ⟨some 4, .call addr_all [.tmp 3, .cst (.func (.func addr_atom) [] [])], none⟩, ⟨some 5, .un .not (.tmp 4), none⟩, ⟨some 2, .mv (.tmp 5), none⟩]) .ret)
theorem b_addr_Local_1 : HasBody P addr_Local_1 6 c_addr_Local_1 [.tmp 2] := .of [] (by kernel_rfl)
noncomputable def c_addr_all : IC := .seq (.region [⟨some 4, .mv (.cst (.v (.bool .false))), none⟩]) (.seq (.seq (.region [⟨some 6, .mv (.tmp 0), none⟩, ⟨some 7, .len .str (.tmp 6), none⟩, ⟨some 8, .mv (.cst (.v (.int .i64 0))), none⟩]) (.block 0 (.loop (.seq (.region [⟨some 9, .bin .lss .other (.tmp 8) (.tmp 7), none⟩]) (.seq (.cond (.tmp 9) .skip (.exit 0)) (.seq (.block 1 (.seq (.region [⟨some 10, .mv (.tmp 8), none⟩, ⟨some 5, .mv (.tmp 10), none⟩]) (.seq (.region [⟨some 11, .mv (.tmp 1), none⟩, ⟨some 12, .mv (.tmp 0), none⟩, ⟨some 13, .mv (.tmp 5), none⟩, ⟨some 14, .ixS (.tmp 12) (.tmp 13), none⟩, ⟨some 15, .callv (.tmp 11) [.tmp 14], none⟩, ⟨some 16, .un .not (.tmp 15), none⟩]) (.cond (.tmp 16) (.seq (.region [⟨some 4, .mv (.cst (.v (.bool .false))), none⟩]) .ret) .skip)))) (.region [⟨some 17, .bin .add .other (.tmp 8) (.cst (.v (.int .i64 1))), none⟩, ⟨some 8, .mv (.tmp 17), none⟩]))))))) (.seq (.region [⟨some 18, .mv (.tmp 0), none⟩, ⟨some 19, .bin .neq .other (.tmp 18) (.cst (.v (.string (bs [])))), none⟩, ⟨some 4, .mv (.tmp 19), none⟩]) .ret))
theorem b_addr_all : HasBody P addr_all 20 c_addr_all [.tmp 4] := .of [] (by kernel_rfl)
noncomputable def c_addr_atom : IC := .seq (.region [⟨some 2, .mv (.cst (.v (.bool .false))), none⟩]) (.seq (.region [⟨some 3, .mv (.tmp 0), none⟩, ⟨some 4, .call addr_letter [.tmp 3], none⟩, ⟨some 5, .mv (.tmp 4), none⟩, ⟨some 6, .mv (.tmp 0), some (5, .false)⟩, ⟨some 7, .call strings_IndexByte [.cst (.v (.string (bs [33, 35, 36, 37, 38, 39, 42, 43, 45, 47, 61, 63, 94, 95, 96, 123, 124, 125, 126]))), .tmp 6], some (5, .false)⟩, ⟨some 8, .bin .geq .other (.tmp 7) (.cst (.v (.int .i64 0))), some (5, .false)⟩, ⟨some 9, .pick (.tmp 5) (.cst (.v (.bool .true))) (.tmp 8), none⟩, ⟨some 2, .mv (.tmp 9), none⟩]) .ret)
theorem b_addr_atom : HasBody P addr_atom 10 c_addr_atom [.tmp 2] := .of [] (by kernel_rfl)
noncomputable def c_addr_Domain_1 : IC := .seq (.region [⟨some 2, .mv (.cst (.v (.bool .false))), none⟩]) (.seq (.region [⟨some 3, .mv (.tmp 0), none⟩, ⟨some 4, .call addr_label [.tmp 3], none⟩, ⟨some 5, .un .not (.tmp 4), none⟩, ⟨some 2, .mv (.tmp 5), none⟩]) .ret)
theorem b_addr_Domain_1 : HasBody P addr_Domain_1 6 c_addr_Domain_1 [.tmp 2] := .of [] (by kernel_rfl)
noncomputable def c_addr_label : IC := .seq (.region [⟨some 2, .mv (.cst (.v (.bool .false))), none⟩]) (.seq (.region [⟨some 3, .mv (.cst (.func (.func addr_label_1) [] [])), none⟩]) (.seq (.region [⟨some 4, .mv (.tmp 0), none⟩, ⟨some 5, .len .str (.tmp 4), none⟩, ⟨some 6, .bin .leq .other (.tmp 5) (.cst (.v (.int .i64 63))), none⟩, ⟨some 7, .mv (.tmp 6), none⟩, ⟨some 8, .mv (.tmp 0), some (7, .true)⟩, ⟨some 9, .mv (.tmp 3), some (7, .true)⟩, ⟨some 10, .call addr_all [.tmp 8, .tmp 9], some (7, .true)⟩, ⟨some 11, .pick (.tmp 7) (.tmp 10) (.cst (.v (.bool .false))), none⟩, ⟨some 12, .mv (.tmp 11), none⟩, ⟨some 13, .mv (.tmp 0), some (12, .true)⟩, ⟨some 14, .ixS (.tmp 13) (.cst (.v (.int .i64 0))), some (12, .true)⟩, ⟨some 15, .bin .neq .other (.tmp 14) (.cst (.v (.int .u8 45))), some (12, .true)⟩, ⟨some 16, .pick (.tmp 12) (.tmp 15) (.cst (.v (.bool .false))), none⟩, ⟨some 17, .mv (.tmp 16), none⟩, ⟨some 18, .mv (.tmp 0), some (17, .true)⟩, ⟨some 19, .mv (.tmp 0), some (17, .true)⟩, ⟨some 20, .len .str (.tmp 19), some (17, .true)⟩, ⟨some 21, .bin .sub .other (.tmp 20) (.cst (.v (.int .i64 1))), some (17, .true)⟩, ⟨some 22, .ixS (.tmp 18) (.tmp 21), some (17, .true)⟩, ⟨some 23, .bin .neq .other (.tmp 22) (.cst (.v (.int .u8 45))), some (17, .true)⟩, ⟨some 24, .pick (.tmp 17) (.tmp 23) (.cst (.v (.bool .false))), none⟩, ⟨some 2, .mv (.tmp 24), none⟩]) .ret))
theorem b_addr_label : HasBody P addr_label 25 c_addr_label [.tmp 2] := .of [] (by kernel_rfl)
noncomputable def c_addr_letter : IC := .seq (.region [⟨some 2, .mv (.cst (.v (.bool .false))), none⟩]) (.seq (.region [⟨some 3, .mv (.tmp 0), none⟩, ⟨some 4, .bin .geq .other (.tmp 3) (.cst (.v (.int .u8 97))), none⟩, ⟨some 5, .mv (.tmp 4), none⟩, ⟨some 6, .mv (.tmp 0), some (5, .true)⟩, ⟨some 7, .bin .leq .other (.tmp 6) (.cst (.v (.int .u8 122))), some (5, .true)⟩, ⟨some 8, .pick (.tmp 5) (.tmp 7) (.cst (.v (.bool .false))), none⟩, ⟨some 9, .mv (.tmp 8), none⟩, ⟨some 10, .mv (.tmp 0), some (9, .false)⟩, ⟨some 11, .bin .geq .other (.tmp 10) (.cst (.v (.int .u8 65))), some (9, .false)⟩, ⟨some 12, .mv (.tmp 11), some (9, .false)⟩, ⟨some 13, .mv (.tmp 0), some (12, .true)⟩, ⟨some 14, .bin .leq .other (.tmp 13) (.cst (.v (.int .u8 90))), some (12, .true)⟩, ⟨some 15, .pick (.tmp 12) (.tmp 14) (.cst (.v (.bool .false))), some (9, .false)⟩, ⟨some 16, .pick (.tmp 9) (.cst (.v (.bool .true))) (.tmp 15), none⟩, ⟨some 17, .mv (.tmp 16), none⟩, ⟨some 18, .mv (.tmp 0), some (17, .false)⟩, ⟨some 19, .bin .geq .other (.tmp 18) (.cst (.v (.int .u8 48))), some (17, .false)⟩, ⟨some 20, .mv (.tmp 19), some (17, .false)⟩, ⟨some 21, .mv (.tmp 0), some (20, .true)⟩, ⟨some 22, .bin .leq .other (.tmp 21) (.cst (.v (.int .u8 57))), some (20, .true)⟩, ⟨some 23, .pick (.tmp 20) (.tmp 22) (.cst (.v (.bool .false))), some (17, .false)⟩, ⟨some 24, .pick (.tmp 17) (.cst (.v (.bool .true))) (.tmp 23), none⟩, ⟨some 2, .mv (.tmp 24), none⟩]) .ret)
theorem b_addr_letter : HasBody P addr_letter 25 c_addr_letter [.tmp 2] := .of [] (by kernel_rfl)
noncomputable def c_addr_label_1 : IC := .seq (.region [⟨some 2, .mv (.cst (.v (.bool .false))), none⟩]) (.seq (.region [⟨some 3, .mv (.tmp 0), none⟩, ⟨some 4, .call addr_letter [.tmp 3], none⟩, ⟨some 5, .mv (.tmp 4), none⟩, ⟨some 6, .mv (.tmp 0), some (5, .false)⟩, ⟨some 7, .bin .eql .other (.tmp 6) (.cst (.v (.int .u8 45))), some (5, .false)⟩, ⟨some 8, .pick (.tmp 5) (.cst (.v (.bool .true))) (.tmp 7), none⟩, ⟨some 2, .mv (.tmp 8), none⟩]) .ret)
theorem b_addr_label_1 : HasBody P addr_label_1 9 c_addr_label_1 [.tmp 2] := .of [] (by kernel_rfl)
end Go.Abs.F
/- A program logic over abstract states, 21: the moves of a run. -/
namespace Go.Abs
open Go Go.RowKit
set_option linter.unusedVariables false
set_option linter.unusedSimpArgs false

theorem beqT (t : Bool) : (t == true) = t := by cases t <;> rfl
theorem beqF (t : Bool) : (t == false) = !t := by cases t <;> rfl

section
variable {P : Program} {w0 : World} {n : Nat} {σ : Fm} {h : AH}
theorem vcF.skip {Q : AExit → Fm → AH → Prop} (k : Q .normal σ h) : vcF P w0 n .skip Q σ h := k
theorem vcF.region {ops : List IOper} {Q : AExit → Fm → AH → Prop} (k : opsF P w0 ops (Q .normal) σ h) : vcF P w0 n (.region ops) Q σ h := k
theorem vcF.dregion {ops : List (IOper × List IOper)} {Q : AExit → Fm → AH → Prop} (k : dopsF P w0 ops (Q .normal) σ h) : vcF P w0 n (.dregion ops) Q σ h := k
theorem vcF.dalts {ls : List (List (IOper × List IOper))} {Q : AExit → Fm → AH → Prop} (k : dallF P w0 ls (Q .normal) σ h) : vcF P w0 n (.dalts ls) Q σ h := k
theorem dallF.nil {Q : Fm → AH → Prop} : dallF P w0 [] Q σ h := trivial
theorem dallF.cons {l : List (IOper × List IOper)} {ls : List (List (IOper × List IOper))} {Q : Fm → AH → Prop} (k : dopsF P w0 l Q σ h) (r : dallF P w0 ls Q σ h) : dallF P w0 (l :: ls) Q σ h := ⟨k, r⟩
theorem vcF.seq {a b : IC} {Q : AExit → Fm → AH → Prop} (k : vcF P w0 n a (seqF (vcF P w0 n b Q) Q) σ h) : vcF P w0 n (.seq a b) Q σ h := k
theorem vcF.block {id : Nat} {b : IC} {Q : AExit → Fm → AH → Prop} (k : vcF P w0 n b (blkF id Q) σ h) : vcF P w0 n (.block id b) Q σ h := k
theorem vcF.exit {id : Nat} {Q : AExit → Fm → AH → Prop} (k : Q (.exit id) σ h) : vcF P w0 n (.exit id) Q σ h := k
theorem vcF.ret {Q : AExit → Fm → AH → Prop} (k : Q .ret σ h) : vcF P w0 n .ret Q σ h := k
theorem vcF.loop {b : IC} {Q : AExit → Fm → AH → Prop} (k : LpF P w0 n b Q σ h) : vcF P w0 n (.loop b) Q σ h := k
theorem vcF.cond {x : Opd} {a b : IC} {Q : AExit → Fm → AH → Prop} {t : Bool} (hx : evF σ x = .v (.bool t)) (k1 : t = true → vcF P w0 n a Q σ h) (k2 : t = false → vcF P w0 n b Q σ h) : vcF P w0 n (.cond x a b) Q σ h := by
  simp only [vcF, hx]
  cases t with
  | true => simp only [if_true]; exact k1 rfl
  | false => simp only [Bool.false_eq_true, if_false]; exact k2 rfl
theorem seqF.nn {K : Fm → AH → Prop} {Q : AExit → Fm → AH → Prop} (k : K σ h) : seqF K Q .normal σ h := k
theorem seqF.e {K : Fm → AH → Prop} {Q : AExit → Fm → AH → Prop} {i : Nat} (k : Q (.exit i) σ h) : seqF K Q (.exit i) σ h := k
theorem seqF.r {K : Fm → AH → Prop} {Q : AExit → Fm → AH → Prop} (k : Q .ret σ h) : seqF K Q .ret σ h := k
theorem blkF.nn {id : Nat} {Q : AExit → Fm → AH → Prop} (k : Q .normal σ h) : blkF id Q .normal σ h := k
theorem blkF.e {id : Nat} {Q : AExit → Fm → AH → Prop} (k : Q .normal σ h) : blkF id Q (.exit id) σ h := by
  simp only [blkF, if_true]; exact k
theorem blkF.o {id i : Nat} {Q : AExit → Fm → AH → Prop} (hne : (i == id) = false) (k : Q (.exit i) σ h) : blkF id Q (.exit i) σ h := by
  have : i ≠ id := by simpa using hne
  simp only [blkF, if_neg this]; exact k
theorem blkF.r {id : Nat} {Q : AExit → Fm → AH → Prop} (k : Q .ret σ h) : blkF id Q .ret σ h := k
theorem retF.r {rs : List ARes} {Q : AV → AH → Prop} {v : AV} (hv : aresF σ h rs = some v) (k : Q v h) : retF rs Q .ret σ h := by
  simp only [retF, hv]; exact k
theorem retF.nn {rs : List ARes} {Q : AV → AH → Prop} {v : AV} (hv : aresF σ h rs = some v) (k : Q v h) : retF rs Q .normal σ h := by
  simp only [retF, hv]; exact k

theorem opsF.nil {Q : Fm → AH → Prop} (k : Q σ h) : opsF P w0 [] Q σ h := k
/-- An operation that is no call. -/
def IOp.noCall (o : IOp) : Bool := !o.isCall
theorem opF_of {o : IOp} (hn : o.noCall = true) {v : AV} {h' : AH} (hs : istep o (evF σ) h = some (v, h')) {K : AV → AH → Prop} (k : K v h') : opF P w0 o σ h K := by
  cases o <;> first | (simp only [opF, hs]; exact k) | (simp [IOp.noCall, IOp.isCall] at hn; done) | (simp only [opF]; split; (next hx => simp [istep, hx] at hs); (next => rw [hs]; exact k))
theorem opsF.op {d : Option Nat} {o : IOp} {os : List IOper} {Q : Fm → AH → Prop} (hn : o.noCall = true) {v : AV} {h' : AH} (hs : istep o (evF σ) h = some (v, h')) (k : opsF P w0 os Q (up σ d v) h') : opsF P w0 (⟨d, o, none⟩ :: os) Q σ h := by
  simp only [opsF, wantF, if_true]
  exact opF_of hn hs k
theorem opsF.skip {d : Option Nat} {o : IOp} {g : Nat} {b : Bool} {os : List IOper} {Q : Fm → AH → Prop} {t : Bool} (hg : σ g = .v (.bool t)) (hb : t = !b) (k : opsF P w0 os Q (up σ d (.v undef)) h) : opsF P w0 (⟨d, o, some (g, b)⟩ :: os) Q σ h := by
  subst hb
  simp only [opsF, wantF, hg]
  cases b <;> simp only [Bool.not_true, Bool.not_false, Bool.false_beq, Bool.true_beq, Bool.not_true, Bool.not_false, Bool.false_eq_true, if_false] <;> exact k
theorem opsF.want {d : Option Nat} {o : IOp} {g : Nat} {b : Bool} {os : List IOper} {Q : Fm → AH → Prop} {t : Bool} (hg : σ g = .v (.bool t)) (hb : t = b) (k : opsF P w0 (⟨d, o, none⟩ :: os) Q σ h) : opsF P w0 (⟨d, o, some (g, b)⟩ :: os) Q σ h := by
  subst hb
  simp only [opsF, wantF, hg, beq_self_eq_true, if_true] at k ⊢
  exact k
theorem opsF.und {d : Option Nat} {o : IOp} {g : Nat} {b : Bool} {os : List IOper} {Q : Fm → AH → Prop} (hg : σ g = .v undef) (k : opsF P w0 os Q (up σ d (.v undef)) h) : opsF P w0 (⟨d, o, some (g, b)⟩ :: os) Q σ h := by
  simp only [opsF, wantF, hg, undef, Bool.false_eq_true, if_false]
  exact k
/-- A guard that is not known. -/
theorem opsF.case {d : Option Nat} {o : IOp} {g : Nat} {b : Bool} {os : List IOper} {Q : Fm → AH → Prop} {t : Bool} (hg : σ g = .v (.bool t)) (k1 : t = b → opsF P w0 (⟨d, o, none⟩ :: os) Q σ h) (k2 : t = !b → opsF P w0 os Q (up σ d (.v undef)) h) : opsF P w0 (⟨d, o, some (g, b)⟩ :: os) Q σ h := by
  by_cases hb : t = b
  · exact opsF.want hg hb (k1 hb)
  · exact opsF.skip hg (by cases t <;> cases b <;> simp_all) (k2 (by cases t <;> cases b <;> simp_all))
theorem opsF.call {d : Option Nat} {f : FuncId} {xs : List Opd} {os : List IOper} {Q : Fm → AH → Prop} {vs : List AV} (hx : xs.map (evF σ) = vs) (k : Call P w0 f vs h fun v h' => opsF P w0 os Q (up σ d v) h') : opsF P w0 (⟨d, .call f xs, none⟩ :: os) Q σ h := by
  simp only [opsF, wantF, if_true, opF, hx]; exact k
theorem opsF.callv {d : Option Nat} {x : Opd} {f : FuncId} {xs : List Opd} {os : List IOper} {Q : Fm → AH → Prop} {vs first caps : List AV} (hf : evF σ x = .func (.func f) first caps) (hx : first ++ xs.map (evF σ) ++ caps = vs) (k : Call P w0 f vs h fun v h' => opsF P w0 os Q (up σ d v) h') : opsF P w0 (⟨d, .callv x xs, none⟩ :: os) Q σ h := by
  simp only [opsF, wantF, if_true, opF, hf, hx]; exact k
theorem opsF.yield {d : Option Nat} {x : Opd} {l : Nat} {xs : List Opd} {os : List IOper} {Q : Fm → AH → Prop} {vs : List AV} (hf : evF σ x = .func (.yield l) [] []) (hx : xs.map (evF σ) = vs) (k : Yld P w0 l vs h fun v h' => opsF P w0 os Q (up σ d v) h') : opsF P w0 (⟨d, .callv x xs, none⟩ :: os) Q σ h := by
  simp only [opsF, wantF, if_true, opF, hf, hx]; exact k

/-- An append of something to a row that is an object. -/
theorem opsF.appR {d : Option Nat} {sz eb : Nat} {x y : Opd} {os : List IOper} {Q : Fm → AH → Prop} {id len c : Nat} {cs : List AV} {new : List (List AV)} {b : AV} (hx : evF σ x = .row id 0 len (some c)) (hy : evF σ y = b) (hv : srcRows sz h b = some new) (ho : h.objs id = some (.cells cs)) (hl : len ≤ c) (hc : c * sz ≤ cs.length)
    (hb : (len + new.length) * eb ≤ 140737488355328) (hne : new ≠ [])
    (k1 : len + new.length ≤ c → opsF P w0 os Q (up σ d (.row id 0 (len + new.length) (some c))) (h.set id (.cells (wrL cs (len * sz) new.flatten))))
    (k2 : c < len + new.length → ∀ C spare, len + new.length ≤ C → spare.length = (C - (len + new.length)) * sz → opsF P w0 os Q (up σ d (.row h.n 0 (len + new.length) (some C))) (h.alloc (.cells (cs.take (len * sz) ++ (new.flatten ++ spare))))) : opsF P w0 (⟨d, .app sz eb x y, none⟩ :: os) Q σ h := by
  subst hy
  simp only [opsF, wantF, if_true, opF, hx]
  exact ⟨c, cs, new, rfl, ho, hv, rfl, hl, hc, hb, fun e => absurd e hne, fun _ => k1, k2⟩
theorem dopsF.appR {d : Option Nat} {sz eb : Nat} {x y : Opd} {ck : List IOper} {os : List (IOper × List IOper)} {Q : Fm → AH → Prop} {id len c : Nat} {cs : List AV} {new : List (List AV)} {b : AV} (hx : evF σ x = .row id 0 len (some c)) (hy : evF σ y = b) (hv : srcRows sz h b = some new) (ho : h.objs id = some (.cells cs)) (hl : len ≤ c) (hc : c * sz ≤ cs.length)
    (hb : (len + new.length) * eb ≤ 140737488355328) (hne : new ≠ [])
    (k1 : len + new.length ≤ c → stabsF ck (up σ d (.row id 0 (len + new.length) (some c))) (h.set id (.cells (wrL cs (len * sz) new.flatten))) ∧ dopsF P w0 os Q (up σ d (.row id 0 (len + new.length) (some c))) (h.set id (.cells (wrL cs (len * sz) new.flatten))))
    (k2 : c < len + new.length → ∀ C spare, len + new.length ≤ C → spare.length = (C - (len + new.length)) * sz → stabsF ck (up σ d (.row h.n 0 (len + new.length) (some C))) (h.alloc (.cells (cs.take (len * sz) ++ (new.flatten ++ spare)))) ∧ dopsF P w0 os Q (up σ d (.row h.n 0 (len + new.length) (some C))) (h.alloc (.cells (cs.take (len * sz) ++ (new.flatten ++ spare))))) : dopsF P w0 ((⟨d, .app sz eb x y, none⟩, ck) :: os) Q σ h := by
  subst hy
  simp only [dopsF, wantF, if_true, opF, hx]
  exact ⟨c, cs, new, rfl, ho, hv, rfl, hl, hc, hb, fun e => absurd e hne, fun _ => k1, k2⟩

theorem dopsF.nil {Q : Fm → AH → Prop} (k : Q σ h) : dopsF P w0 [] Q σ h := k
theorem stabsF.nil : stabsF [] σ h := trivial
theorem stabsF.cons {o : IOper} {cs : List IOper} (k : stabF o σ h) (k' : stabsF cs σ h) : stabsF (o :: cs) σ h := ⟨k, k'⟩
theorem stabF.skip {d : Option Nat} {o : IOp} {g : Nat} {b t : Bool} (hg : σ g = .v (.bool t)) (hb : t = !b) : stabF ⟨d, o, some (g, b)⟩ σ h := by
  subst hb
  cases b <;> simp [stabF, wantF, hg]
theorem stabF.und {d : Option Nat} {o : IOp} {g : Nat} {b : Bool} (hg : σ g = .v undef) : stabF ⟨d, o, some (g, b)⟩ σ h := by
  simp only [stabF, wantF, hg, undef, Bool.false_eq_true, if_false]
theorem stabF.want {d : Option Nat} {o : IOp} {g : Nat} {b t : Bool} (hg : σ g = .v (.bool t)) (hb : t = b) (k : stabF ⟨d, o, none⟩ σ h) : stabF ⟨d, o, some (g, b)⟩ σ h := by
  subst hb
  simp only [stabF, wantF, hg, beq_self_eq_true, if_true] at k ⊢
  exact k
theorem stabF.op {d : Nat} {o : IOp} {v : AV} {h' : AH} (hs : istep o (evF σ) h = some (v, h')) (hv : σ d = v) : stabF ⟨some d, o, none⟩ σ h := by
  simp only [stabF, wantF, if_true, hs, hv]
theorem dopsF.op {d : Option Nat} {o : IOp} {cs : List IOper} {os : List (IOper × List IOper)} {Q : Fm → AH → Prop} (hn : o.noCall = true) {v : AV} {h' : AH} (hs : istep o (evF σ) h = some (v, h')) (kc : stabsF cs (up σ d v) h') (k : dopsF P w0 os Q (up σ d v) h') : dopsF P w0 ((⟨d, o, none⟩, cs) :: os) Q σ h := by
  simp only [dopsF, wantF, if_true]
  exact opF_of hn hs ⟨kc, k⟩
theorem dopsF.skip {d : Option Nat} {o : IOp} {g : Nat} {b : Bool} {cs : List IOper} {os : List (IOper × List IOper)} {Q : Fm → AH → Prop} {t : Bool} (hg : σ g = .v (.bool t)) (hb : t = !b) (k : dopsF P w0 os Q (up σ d (.v undef)) h) : dopsF P w0 ((⟨d, o, some (g, b)⟩, cs) :: os) Q σ h := by
  subst hb
  simp only [dopsF, wantF, hg]
  cases b <;> simp only [Bool.not_true, Bool.not_false, Bool.false_beq, Bool.true_beq, Bool.not_true, Bool.not_false, Bool.false_eq_true, if_false] <;> exact k
theorem dopsF.want {d : Option Nat} {o : IOp} {g : Nat} {b : Bool} {cs : List IOper} {os : List (IOper × List IOper)} {Q : Fm → AH → Prop} {t : Bool} (hg : σ g = .v (.bool t)) (hb : t = b) (k : dopsF P w0 ((⟨d, o, none⟩, cs) :: os) Q σ h) : dopsF P w0 ((⟨d, o, some (g, b)⟩, cs) :: os) Q σ h := by
  subst hb
  simp only [dopsF, wantF, hg, beq_self_eq_true, if_true] at k ⊢
  exact k
theorem dopsF.und {d : Option Nat} {o : IOp} {g : Nat} {b : Bool} {cs : List IOper} {os : List (IOper × List IOper)} {Q : Fm → AH → Prop} (hg : σ g = .v undef) (k : dopsF P w0 os Q (up σ d (.v undef)) h) : dopsF P w0 ((⟨d, o, some (g, b)⟩, cs) :: os) Q σ h := by
  simp only [dopsF, wantF, hg, undef, Bool.false_eq_true, if_false]
  exact k
theorem dopsF.case {d : Option Nat} {o : IOp} {g : Nat} {b : Bool} {cs : List IOper} {os : List (IOper × List IOper)} {Q : Fm → AH → Prop} {t : Bool} (hg : σ g = .v (.bool t)) (k1 : t = b → dopsF P w0 ((⟨d, o, none⟩, cs) :: os) Q σ h) (k2 : t = !b → dopsF P w0 os Q (up σ d (.v undef)) h) : dopsF P w0 ((⟨d, o, some (g, b)⟩, cs) :: os) Q σ h := by
  by_cases hb : t = b
  · exact dopsF.want hg hb (k1 hb)
  · exact dopsF.skip hg (by cases t <;> cases b <;> simp_all) (k2 (by cases t <;> cases b <;> simp_all))
theorem dopsF.call {d : Option Nat} {f : FuncId} {xs : List Opd} {cs : List IOper} {os : List (IOper × List IOper)} {Q : Fm → AH → Prop} {vs : List AV} (hx : xs.map (evF σ) = vs) (k : Call P w0 f vs h fun v h' => stabsF cs (up σ d v) h' ∧ dopsF P w0 os Q (up σ d v) h') : dopsF P w0 ((⟨d, .call f xs, none⟩, cs) :: os) Q σ h := by
  simp only [dopsF, wantF, if_true, opF, hx]; exact k
theorem dopsF.callv {d : Option Nat} {x : Opd} {f : FuncId} {xs : List Opd} {cs : List IOper} {os : List (IOper × List IOper)} {Q : Fm → AH → Prop} {vs first caps : List AV} (hf : evF σ x = .func (.func f) first caps) (hx : first ++ xs.map (evF σ) ++ caps = vs) (k : Call P w0 f vs h fun v h' => stabsF cs (up σ d v) h' ∧ dopsF P w0 os Q (up σ d v) h') : dopsF P w0 ((⟨d, .callv x xs, none⟩, cs) :: os) Q σ h := by
  simp only [dopsF, wantF, if_true, opF, hf, hx]; exact k
end

/-! bytes -/
theorem bs_size (l : List UInt8) : (bs l).size = l.length := rfl
theorem bs_data (l : List UInt8) (i : Nat) : (bs l).data[i]? = l[i]? := by simp [bs]
theorem bs_toList (l : List UInt8) : (bs l).toList = l := by
  have key : ∀ (l : List UInt8), ByteArray.toList ⟨l.toArray⟩ = l := by
    intro l
    have loop : ∀ (k i : Nat) (r : List UInt8), k = l.length - i → ByteArray.toList.loop ⟨l.toArray⟩ i r = r.reverse ++ l.drop i := by
      intro k
      induction k with
      | zero =>
        intro i r hk
        unfold ByteArray.toList.loop
        have : ¬ i < (⟨l.toArray⟩ : ByteArray).size := by show ¬ i < l.length; omega
        rw [if_neg this, List.drop_eq_nil_of_le (by omega), List.append_nil]
      | succ k ih =>
        intro i r hk
        unfold ByteArray.toList.loop
        have hlt : i < l.length := by omega
        have : i < (⟨l.toArray⟩ : ByteArray).size := hlt
        rw [if_pos this, ih (i + 1) _ (by omega)]
        have hg : (⟨l.toArray⟩ : ByteArray).get! i = l[i] := by
          simp [ByteArray.get!, hlt]
        rw [hg, List.reverse_cons, List.append_assoc, List.singleton_append, List.drop_eq_getElem_cons hlt]
    have := loop l.length 0 [] (by simp)
    simpa [ByteArray.toList] using this
  exact key l
theorem bs_ext {a b : ByteArray} (h : a.data.toList = b.data.toList) : a = b := by
  cases a; cases b; simp only at h; rw [Array.toList_inj.1 h]
theorem bs_append (a b : List UInt8) : bs a ++ bs b = bs (a ++ b) := bs_ext (by simp [bs])
theorem bs_extract (l : List UInt8) (a b : Nat) : (bs l).extract a b = bs ((l.take b).drop a) := bs_ext (by
  simp [bs, ByteArray.data_extract, Array.toList_extract, List.drop_take])
theorem bs_of (a : ByteArray) : bs a.data.toList = a := bs_ext (by simp [bs])
theorem byteRows_bs (l : List UInt8) : byteRows (bs l) = l.map fun b => [.v (.int .u8 b.toNat)] := by simp [byteRows, bs]

/-! one operation at a time -/
theorem alloc_at (h : AH) (o : AObj) (i : Nat) : (h.alloc o).objs i = if i = h.n then some o else h.objs i := rfl
theorem set_at (h : AH) (j : Nat) (o : AObj) (i : Nat) : (h.set j o).objs i = if i = j then some o else h.objs i := rfl
theorem alloc_n (h : AH) (o : AObj) : (h.alloc o).n = h.n + 1 := rfl
theorem set_n (h : AH) (j : Nat) (o : AObj) : (h.set j o).n = h.n := rfl
theorem newTok_at (h : AH) (i : Nat) : h.newTok.objs i = h.objs i := rfl
theorem bump_at (h : AH) (t i : Nat) : (h.bump t).objs i = h.objs i := rfl
theorem newTok_n (h : AH) : h.newTok.n = h.n := rfl
theorem bump_n (h : AH) (t : Nat) : (h.bump t).n = h.n := rfl
theorem alloc_nt (h : AH) (o : AObj) : (h.alloc o).nt = h.nt := rfl
theorem set_nt (h : AH) (j : Nat) (o : AObj) : (h.set j o).nt = h.nt := rfl
theorem bump_nt (h : AH) (t : Nat) : (h.bump t).nt = h.nt := rfl
theorem newTok_nt (h : AH) : h.newTok.nt = h.nt + 1 := rfl
theorem alloc_ver (h : AH) (o : AObj) (t : Nat) : (h.alloc o).ver t = h.ver t := rfl
theorem set_ver (h : AH) (j : Nat) (o : AObj) (t : Nat) : (h.set j o).ver t = h.ver t := rfl
theorem newTok_ver (h : AH) (t : Nat) : h.newTok.ver t = if t = h.nt then 0 else h.ver t := rfl
theorem bump_ver (h : AH) (s t : Nat) : (h.bump s).ver t = if t = s then h.ver s + 1 else h.ver t := rfl

section
variable {σ : Fm} {h : AH}
theorem is_mv {x : Opd} {a : AV} (hx : evF σ x = a) : istep (.mv x) (evF σ) h = some (a, h) := by simp only [istep, hx]
theorem is_pick {c x y : Opd} {t : Bool} {a b v : AV} (hc : evF σ c = .v (.bool t)) (hx : evF σ x = a) (hy : evF σ y = b) (hv : (if t = true then a else b) = v) : istep (.pick c x y) (evF σ) h = some (v, h) := by
  simp only [istep, hc, hx, hy, hv]
theorem is_pickt {c x y : Opd} {t : Bool} {v : AV} (hc : evF σ c = .v (.bool t)) (hb : t = true) (hx : evF σ x = v) : istep (.pick c x y) (evF σ) h = some (v, h) := by
  subst hb
  simp only [istep, hc, hx, if_true]
theorem is_pickf {c x y : Opd} {t : Bool} {v : AV} (hc : evF σ c = .v (.bool t)) (hb : t = false) (hx : evF σ y = v) : istep (.pick c x y) (evF σ) h = some (v, h) := by
  subst hb
  simp only [istep, hc, hx, Bool.false_eq_true, if_false]
theorem is_box {x : Opd} {a : AV} {cs : List AV} (hx : evF σ x = a) (hv : scells a = some cs) : istep (.box x) (evF σ) h = some (.ptr h.n 0, h.alloc (.cells cs)) := by simp only [istep, hx, hv]
theorem is_new {z : List AV} : istep (.new z) (evF σ) h = some (.ptr h.n 0, h.alloc (.cells z)) := rfl
theorem is_newT {t : TypeId} {z : List AV} : istep (.newT t z) (evF σ) h = some (.ptr h.n 0, h.alloc (.bld t none 0 0)) := rfl
theorem is_load {x : Opd} {id off : Nat} {sz : Option Nat} {cs : List AV} {v : AV} (hx : evF σ x = .ptr id off) (ho : h.objs id = some (.cells cs)) (hv : rd cs off sz = some v) : istep (.load x sz) (evF σ) h = some (v, h) := by
  simp only [istep, hx, ho, hv, Option.map_some]
theorem is_loadl {x : Opd} {off : Nat} {sz : Option Nat} {cs : List AV} {v : AV} (hx : evF σ x = .lptr cs off) (hv : rd cs off sz = some v) : istep (.load x sz) (evF σ) h = some (v, h) := by
  simp only [istep, hx, hv, Option.map_some]
theorem is_store {x y : Opd} {id off sz : Nat} {b : AV} {as cs cs' : List AV} (hx : evF σ x = .ptr id off) (hy : evF σ y = b) (hv : scells b = some as) (ho : h.objs id = some (.cells cs)) (hb : as.length = sz ∧ off + sz ≤ cs.length) (hw : wrL cs off as = cs') : istep (.store x y sz) (evF σ) h = some (.v undef, h.set id (.cells cs')) := by
  simp only [istep, hx, hy, hv, ho, if_pos hb, hw]
theorem is_nilp {x : Opd} {id off : Nat} (hx : evF σ x = .ptr id off) : istep (.nilc x) (evF σ) h = some (.ptr id off, h) := by simp only [istep, hx]
theorem is_nill {x : Opd} {cs : List AV} {off : Nat} (hx : evF σ x = .lptr cs off) : istep (.nilc x) (evF σ) h = some (.lptr cs off, h) := by simp only [istep, hx]
theorem is_bin {op : BinOp} {k : EqK} {x y : Opd} {a b v : AV} (hx : evF σ x = a) (hy : evF σ y = b) (hv : abin op k a b = some v) : istep (.bin op k x y) (evF σ) h = some (v, h) := by simp only [istep, hx, hy, hv, Option.map_some]
theorem is_un {op : UnOp} {x : Opd} {a v : AV} (hx : evF σ x = a) (hv : aun op a = some v) : istep (.un op x) (evF σ) h = some (v, h) := by simp only [istep, hx, hv, Option.map_some]
theorem is_convI {k k' : IntKind} {x : Opd} {n m : Int} (hx : evF σ x = .v (.int k' n)) (hv : k.wrap n = m) : istep (.convI k x) (evF σ) h = some (.v (.int k m), h) := by simp only [istep, hx, hv]
theorem is_convS {x : Opd} {s : ByteArray} (hx : evF σ x = .v (.string s)) : istep (.convS x) (evF σ) h = some (.v (.string s), h) := by simp only [istep, hx]
theorem is_s2b {x : Opd} {s : ByteArray} {rows : List (List AV)} (hx : evF σ x = .v (.string s)) (hv : byteRows s = rows) : istep (.s2b false x) (evF σ) h = some (.list 1 rows .no, h) := by simp only [istep, hx, hv, Bool.false_eq_true, if_false]
theorem is_fadp {x : Opd} {id o off o' : Nat} (hx : evF σ x = .ptr id o) (hv : o + off = o') : istep (.fad x off) (evF σ) h = some (.ptr id o', h) := by simp only [istep, hx, hv]
theorem is_fadl {x : Opd} {cs : List AV} {o off o' : Nat} (hx : evF σ x = .lptr cs o) (hv : o + off = o') : istep (.fad x off) (evF σ) h = some (.lptr cs o', h) := by simp only [istep, hx, hv]
theorem is_fld {x : Opd} {off : Nat} {sz : Option Nat} {cs : List AV} {v : AV} (hx : evF σ x = .agg cs) (hv : rd cs off sz = some v) : istep (.fld x off sz) (evF σ) h = some (v, h) := by simp only [istep, hx, hv, Option.map_some]
theorem is_iaL {sz : Nat} {x i : Opd} {rows : List (List AV)} {tok : Tok} {k : IntKind} {n : Int} {r : List AV} (hx : evF σ x = .list sz rows tok) (hy : evF σ i = .v (.int k n)) (hb : 0 ≤ n) (hv : rows[n.toNat]? = some r) : istep (.iaL sz x i) (evF σ) h = some (.lptr r 0, h) := by
  simp only [istep, hx, hy, if_true, if_pos hb, hv]
theorem is_iaLr {sz : Nat} {x i : Opd} {id off len : Nat} {cap : Option Nat} {k : IntKind} {n : Int} {o' : Nat} (hx : evF σ x = .row id off len cap) (hy : evF σ i = .v (.int k n)) (hb : 0 ≤ n ∧ n < len) (hv : off + n.toNat * sz = o') : istep (.iaL sz x i) (evF σ) h = some (.ptr id o', h) := by
  simp only [istep, hx, hy, if_pos hb, hv]
theorem is_lenL {x : Opd} {sz : Nat} {rows : List (List AV)} {tok : Tok} {n : Nat} (hx : evF σ x = .list sz rows tok) (hv : rows.length = n) : istep (.len .sl x) (evF σ) h = some (.v (.int .i64 n), h) := by simp only [istep, hx, hv]
theorem is_lenR {x : Opd} {id off n : Nat} {cap : Option Nat} (hx : evF σ x = .row id off n cap) : istep (.len .sl x) (evF σ) h = some (.v (.int .i64 n), h) := by simp only [istep, hx]
theorem is_ext {x : Opd} {i : Nat} {vs : List AV} {v : AV} (hx : evF σ x = .tup vs) (hv : vs[i]? = some v) : istep (.ext x i) (evF σ) h = some (v, h) := by simp only [istep, hx, hv, Option.map_some]
theorem is_app {sz eb : Nat} {x y : Opd} {rows new rows' : List (List AV)} {r : List AV} {tok tok' : Tok} {b : AV} {h' : AH} (hx : evF σ x = .list sz rows tok) (hy : evF σ y = b) (hv : srcRows sz h b = some (r :: new)) (ht : appTok h tok = some (tok', h')) (hb : (rows.length + (new.length + 1)) * eb ≤ 140737488355328)
    (hw : rows ++ r :: new = rows') : istep (.app sz eb x y) (evF σ) h = some (.list sz rows' tok', h') := by
  subst hw
  simp only [istep, hx, hy, hv, if_true, ht, if_pos hb]
theorem is_lss {q : EqK} {x y : Opd} {k : IntKind} {a b : Int} (hx : evF σ x = .v (.int k a)) (hy : evF σ y = .v (.int k b)) : istep (.bin .lss q x y) (evF σ) h = some (.v (.bool (decide (a < b))), h) := by
  simp [istep, hx, hy, abin, intBin]
theorem is_leq {q : EqK} {x y : Opd} {k : IntKind} {a b : Int} (hx : evF σ x = .v (.int k a)) (hy : evF σ y = .v (.int k b)) : istep (.bin .leq q x y) (evF σ) h = some (.v (.bool (decide (a ≤ b))), h) := by
  simp [istep, hx, hy, abin, intBin]
theorem is_gtr {q : EqK} {x y : Opd} {k : IntKind} {a b : Int} (hx : evF σ x = .v (.int k a)) (hy : evF σ y = .v (.int k b)) : istep (.bin .gtr q x y) (evF σ) h = some (.v (.bool (decide (b < a))), h) := by
  simp [istep, hx, hy, abin, intBin]
theorem is_geq {q : EqK} {x y : Opd} {k : IntKind} {a b : Int} (hx : evF σ x = .v (.int k a)) (hy : evF σ y = .v (.int k b)) : istep (.bin .geq q x y) (evF σ) h = some (.v (.bool (decide (b ≤ a))), h) := by
  simp [istep, hx, hy, abin, intBin]
theorem is_eql {q : EqK} {x y : Opd} {k : IntKind} {a b : Int} (hx : evF σ x = .v (.int k a)) (hy : evF σ y = .v (.int k b)) : istep (.bin .eql q x y) (evF σ) h = some (.v (.bool (decide (a = b))), h) := by
  simp [istep, hx, hy, abin, intBin]
  by_cases e : a = b <;> simp [e]
theorem is_neq {q : EqK} {x y : Opd} {k : IntKind} {a b : Int} (hx : evF σ x = .v (.int k a)) (hy : evF σ y = .v (.int k b)) : istep (.bin .neq q x y) (evF σ) h = some (.v (.bool (decide (¬ a = b))), h) := by
  simp [istep, hx, hy, abin, intBin]
  by_cases e : a = b <;> simp [e]
theorem is_add {q : EqK} {x y : Opd} {k : IntKind} {a b c : Int} (hx : evF σ x = .v (.int k a)) (hy : evF σ y = .v (.int k b)) (hw : k.wrap (a + b) = c) : istep (.bin .add q x y) (evF σ) h = some (.v (.int k c), h) := by
  simp [istep, hx, hy, abin, intBin, hw]
theorem is_sub {q : EqK} {x y : Opd} {k : IntKind} {a b c : Int} (hx : evF σ x = .v (.int k a)) (hy : evF σ y = .v (.int k b)) (hw : k.wrap (a - b) = c) : istep (.bin .sub q x y) (evF σ) h = some (.v (.int k c), h) := by
  simp [istep, hx, hy, abin, intBin, hw]
theorem is_mul {q : EqK} {x y : Opd} {k : IntKind} {a b c : Int} (hx : evF σ x = .v (.int k a)) (hy : evF σ y = .v (.int k b)) (hw : k.wrap (a * b) = c) : istep (.bin .mul q x y) (evF σ) h = some (.v (.int k c), h) := by
  simp [istep, hx, hy, abin, intBin, hw]
theorem is_eqls {q : EqK} {x y : Opd} {a b : List UInt8} (hx : evF σ x = .v (.string (bs a))) (hy : evF σ y = .v (.string (bs b))) : istep (.bin .eql q x y) (evF σ) h = some (.v (.bool (decide (a = b))), h) := by
  simp [istep, hx, hy, abin, strBin, bs_toList]
  by_cases e : a = b <;> simp [e]
theorem is_neqs {q : EqK} {x y : Opd} {a b : List UInt8} (hx : evF σ x = .v (.string (bs a))) (hy : evF σ y = .v (.string (bs b))) : istep (.bin .neq q x y) (evF σ) h = some (.v (.bool (decide (¬ a = b))), h) := by
  simp [istep, hx, hy, abin, strBin, bs_toList]
  by_cases e : a = b <;> simp [e]
theorem is_adds {q : EqK} {x y : Opd} {a b c : List UInt8} (hx : evF σ x = .v (.string (bs a))) (hy : evF σ y = .v (.string (bs b))) (hb : a.length + b.length ≤ 9223372036854775807) (hw : a ++ b = c) : istep (.bin .add q x y) (evF σ) h = some (.v (.string (bs c)), h) := by
  subst hw
  simp [istep, hx, hy, abin, strBin, bs_size, hb, bs_append]
theorem is_not {x : Opd} {t : Bool} (hx : evF σ x = .v (.bool t)) : istep (.un .not x) (evF σ) h = some (.v (.bool !t), h) := by
  simp only [istep, hx, aun, Option.map_some]
theorem is_lenB {x : Opd} {l : List UInt8} {n : Nat} (hx : evF σ x = .v (.string (bs l))) (hw : l.length = n) : istep (.len .str x) (evF σ) h = some (.v (.int .i64 n), h) := by simp only [istep, hx, bs_size, hw]
theorem is_ixB {x i : Opd} {l : List UInt8} {k : IntKind} {n : Int} {b : UInt8} (hx : evF σ x = .v (.string (bs l))) (hy : evF σ i = .v (.int k n)) (hb : 0 ≤ n) (hw : l[n.toNat]? = some b) : istep (.ixS x i) (evF σ) h = some (.v (.int .u8 b.toNat), h) := by
  simp only [istep, hx, hy, if_pos hb, bs_data, hw]
end

section
variable {σ : Fm} {h : AH}
theorem args_nil : ([] : List Opd).map (evF σ) = [] := rfl
theorem args_cons {x : Opd} {xs : List Opd} {v : AV} {vs : List AV} (hx : evF σ x = v) (hr : xs.map (evF σ) = vs) : (x :: xs).map (evF σ) = v :: vs := by simp only [List.map_cons, hx, hr]
theorem res_tmp {t : Nat} {v : AV} (hx : σ t = v) : resF σ h (.tmp t) = some v := by simp only [resF, hx]
theorem res_cell {t id off : Nat} {sz : Option Nat} {cs : List AV} {v : AV} (hx : σ t = .ptr id off) (ho : h.objs id = some (.cells cs)) (hv : rd cs off sz = some v) : resF σ h (.cell t sz) = some v := by simp only [resF, hx, ho, hv]
theorem ress_nil : ressF σ h [] = some [] := rfl
theorem ress_cons {r : ARes} {rs : List ARes} {v : AV} {vs : List AV} (hq : resF σ h r = some v) (hr : ressF σ h rs = some vs) : ressF σ h (r :: rs) = some (v :: vs) := by simp only [ressF, hq, hr]
theorem ares_one {r : ARes} {v : AV} (hq : resF σ h r = some v) : aresF σ h [r] = some v := hq
theorem ares_many {r s : ARes} {rs : List ARes} {vs : List AV} (hr : ressF σ h (r :: s :: rs) = some vs) : aresF σ h (r :: s :: rs) = some (.tup vs) := by simp only [aresF, hr, Option.map_some]
theorem ares_none : aresF σ h [] = some (.tup []) := rfl
end

/-! numbers in range -/
theorem w64 {x : Int} (h0 : -9223372036854775808 ≤ x) (h1 : x ≤ 9223372036854775807) : IntKind.i64.wrap x = x := by rw [IntKind.wrap_i64]; omega
theorem w32 {x : Int} (h0 : -2147483648 ≤ x) (h1 : x ≤ 2147483647) : IntKind.i32.wrap x = x := by rw [IntKind.wrap_i32]; omega
theorem wu8 {x : Int} (h0 : 0 ≤ x) (h1 : x ≤ 255) : IntKind.u8.wrap x = x := by rw [IntKind.wrap_u8]; omega
theorem wu64 {x : Int} (h0 : 0 ≤ x) (h1 : x ≤ 18446744073709551615) : IntKind.u64.wrap x = x := by
  have : IntKind.u64.wrap x = x % 18446744073709551616 := by simp [IntKind.wrap, IntKind.bits, IntKind.signed]
  rw [this]; omega

end Go.Abs
/- A program logic over abstract states, 24: lists that may be appended to; what else stays. -/
namespace Go.Abs
open Go Go.RowKit
set_option linter.unusedVariables false
set_option linter.unusedSimpArgs false
/-- How a condition is read. -/
theorem nrm : (decide True = true) ∧ (decide False = false) ∧ ((¬ True) = False) ∧ ((¬ False) = True) ∧ (∀ (p : Prop) [Decidable p], (decide p = true) = p) ∧ (∀ (p : Prop) [Decidable p], (decide p = false) = ¬ p) ∧ (∀ b : Bool, ((!b) = true) = (b = false)) ∧ (∀ b : Bool, ((!b) = false) = (b = true)) ∧ ((!true) = false) ∧ ((!false) = true) ∧ ((false = true) = False) ∧ ((true = false) = False) ∧ (∀ b : Bool, (¬ b = true) = (b = false)) ∧ (∀ b : Bool, (¬ b = false) = (b = true)) ∧ (∀ a b : Int, (¬ a < b) = (b ≤ a)) ∧ (∀ a b : Int, (¬ a ≤ b) = (b < a)) ∧ (∀ p : Prop, (¬ ¬ p) = p) := by
  refine ⟨by simp, by simp, by simp, by simp, fun p _ => by simp, fun p _ => by simp, fun b => by simp, fun b => by simp, rfl, rfl, by simp, by simp, fun b => by simp, fun b => by simp, fun a b => by simp, fun a b => by simp, fun p => propext Classical.not_not⟩
theorem lq_nil {σ : Fm} {sz : Nat} : (([] : List (Nat × Opd)).map fun p => (p.1 * sz, sz, evF σ p.2)) = [] := rfl
theorem lq_cons {σ : Fm} {sz i : Nat} {o : Opd} {ps : List (Nat × Opd)} {v : AV} {qs : List (Nat × Nat × AV)} (hx : evF σ o = v) (hr : (ps.map fun p => (p.1 * sz, sz, evF σ p.2)) = qs) : (((i, o) :: ps).map fun p => (p.1 * sz, sz, evF σ p.2)) = (i * sz, sz, v) :: qs := by simp only [List.map_cons, hx, hr]
theorem bq_nil {σ : Fm} : (([] : List (Nat × Nat × Opd)).map fun p => (p.1, p.2.1, evF σ p.2.2)) = [] := rfl
theorem bq_cons {σ : Fm} {i n : Nat} {o : Opd} {ps : List (Nat × Nat × Opd)} {v : AV} {qs : List (Nat × Nat × AV)} (hx : evF σ o = v) (hr : (ps.map fun p => (p.1, p.2.1, evF σ p.2.2)) = qs) : (((i, n, o) :: ps).map fun p => (p.1, p.2.1, evF σ p.2.2)) = (i, n, v) :: qs := by simp only [List.map_cons, hx, hr]
theorem is_build {σ : Fm} {h : AH} {z : List AV} {ps : List (Nat × Nat × Opd)} {qs : List (Nat × Nat × AV)} {cs : List AV} (hq : (ps.map fun p => (p.1, p.2.1, evF σ p.2.2)) = qs) (hv : fillA z qs = some cs) : istep (.build z ps) (evF σ) h = some (.agg cs, h) := by
  simp only [istep, hq, hv]
theorem is_lit {σ : Fm} {h : AH} {sz n : Nat} {z : List AV} {ps : List (Nat × Opd)} {qs : List (Nat × Nat × AV)} {cs : List AV} {rows : List (List AV)} (hq : (ps.map fun p => (p.1 * sz, sz, evF σ p.2)) = qs) (hv : fillA ((List.replicate n z).flatten) qs = some cs) (hw : chunk sz n cs = rows) : istep (.lit sz n z ps) (evF σ) h = some (.list sz rows .full, h) := by
  subst hw
  simp only [istep, hq, hv]
/-- A row that was an object never turns any more. -/
theorem WR.freeze {w0 : World} {Γ : Con} {h : AH} {w : World} (H : WR w0 Γ h w) {id b : Nat} (hb : Γ.rho id = some b) {o : AObj} (ho : h.objs id = some o) {vs : Array Value} {e : TypeId} {fr : Nat × Nat} (hh : w.heap[b]? = some (.cells vs e fr)) (n : Nat) :
    Γ.le (Γ.withRow b fun o => if o < n then vs[o]? else none) ∧ WR w0 (Γ.withRow b fun o => if o < n then vs[o]? else none) (h.drop id) w := by
  obtain ⟨b', hb', hge, hat, hF⟩ := H.obj ho
  obtain rfl : b = b' := by rw [hb] at hb'; injection hb'
  have hle : Γ.le (Γ.withRow b fun o => if o < n then vs[o]? else none) := by
    refine ⟨fun {k o x} hx => ?_, fun x => x, fun x => x⟩
    simp only [Con.withRow]
    rw [if_neg (by rintro rfl; rw [hF] at hx; cases hx)]
    exact hx
  have hobj : ∀ {i}, ((h.drop id).objs i).isSome → (h.objs i).isSome ∧ i ≠ id := by
    intro i hi
    simp only [AH.drop] at hi
    split at hi
    · cases hi
    · exact ⟨hi, by assumption⟩
  have hne : ∀ {i c}, ((h.drop id).objs i).isSome → Γ.rho i = some c → c ≠ b := by
    rintro i c hi hc rfl
    exact (hobj hi).2 (H.inj (hobj hi).1 (by rw [ho]; rfl) hc hb)
  refine ⟨hle, H.below, ?_, ?_, fun hi hj => H.inj (hobj hi).1 (hobj hj).1, H.rlt, ?_, H.tinj, H.tnew⟩
  · intro k o x hx
    simp only [Con.withRow] at hx
    split at hx
    · rename_i hk
      subst hk
      split at hx
      · simp only [World.cell?, hh]
        exact hx
      · cases hx
    · exact H.fcell hx
  · intro i o' hi
    have hi2 : (h.drop id).objs i = h.objs i := by
      simp only [AH.drop] at hi ⊢
      split at hi
      · cases hi
      · rename_i e; rw [if_neg e]
    obtain ⟨c, h1, h2, h3, h4⟩ := H.obj (hi2 ▸ hi)
    refine ⟨c, h1, h2, h3.mono hle, fun off => ?_⟩
    simp only [Con.withRow]
    rw [if_neg (hne (by rw [hi]; rfl) h1)]
    exact h4 off
  · intro t T ht
    obtain ⟨h1, ⟨h2, vs', e', fr', h3, h4, h5⟩, h6⟩ := H.tok ht
    refine ⟨h1, ⟨h2, vs', e', fr', h3, h4, fun off a c => ?_⟩, fun i hi => h6 i (hobj hi).1⟩
    simp only [Con.withRow]
    rw [if_neg (by rintro e; exact h6 id (by rw [ho]; rfl) (by rw [hb, e]))]
    exact h5 off a c
/-- A row that is an object, as a list. -/
theorem WR.listed {w0 : World} {Γ : Con} {h : AH} {w : World} (H : WR w0 Γ h w) {id len sz : Nat} {cap : Option Nat} {x : Value} (hx : RV Γ (.row id 0 len cap) x) {rows : List (List AV)} {rest : List AV} (ho : h.objs id = some (.cells (rows.flatten ++ rest))) (hl : rows.length = len) (hr : ∀ r ∈ rows, r.length = sz) (hp : 0 < sz) {tok : Tok} (htok : tok = .no ∨ tok = .full ∧ cap = some len) :
    ∃ Γ', Γ.le Γ' ∧ RV Γ' (.list sz rows tok) x ∧ WR w0 Γ' (h.drop id) w := by
  obtain ⟨b, c, hb, rfl, hlc, hcap⟩ := hx.inv_row
  obtain ⟨b', hb', hge, ⟨vs, e, fr, hh, hvl, hat⟩, hF⟩ := H.obj ho
  obtain rfl : b = b' := by rw [hb] at hb'; injection hb'
  subst hl
  have hfl : rows.flatten.length = rows.length * sz := flat_len hr
  obtain ⟨hle, HW⟩ := H.freeze hb ho hh (rows.length * sz)
  refine ⟨_, hle, ?_, HW⟩
  have hsz : rows.length * sz ≤ vs.size := by rw [List.length_append, hfl] at hvl; omega
  have hus : (vs.toList.take (rows.length * sz)).length = rows.length * sz := by
    rw [List.length_take, show vs.toList.length = vs.size from Array.length_toList]; omega
  refine RV.mk_list (us := vs.toList.take (rows.length * sz)) hlc hr ⟨by rw [hus, hfl], fun k hk hk' => ?_, fun y hy => ?_⟩ (fun k hk => ?_) ?_
  · have h1 : k < (rows.flatten ++ rest).length := by rw [List.length_append]; omega
    have h2 : k < vs.size := by omega
    have := (hat k h1 h2).1.mono hle
    rw [List.getElem_take, Array.getElem_toList]
    rwa [List.getElem_append_left hk] at this
  · obtain ⟨k, hk, rfl⟩ := List.getElem_of_mem hy
    have h1 : k < (rows.flatten ++ rest).length := by rw [List.length_append]; omega
    rw [List.getElem_take, Array.getElem_toList]
    exact (hat k h1 (by omega)).2.1
  · have hk2 : k < rows.length * sz := by rw [← hus]; exact hk
    simp only [Con.withRow, if_true, Nat.zero_add]
    rw [if_pos hk2, List.getElem_take, Array.getElem_toList, Array.getElem?_eq_getElem (by omega)]
  · rcases htok with rfl | ⟨rfl, hc⟩
    · trivial
    · exact hcap _ hc
/-- What a call returns as a row that nobody else has is a list. -/
theorem Call.listed {P : Program} {w0 : World} {f : FuncId} {args : List AV} {h : AH} {Q Q' : AV → AH → Prop} (hc : Call P w0 f args h Q) (hq : ∀ v h', Q v h' → ∃ id len cap sz rows rest tok, v = .row id 0 len cap ∧ h'.objs id = some (.cells (List.flatten rows ++ rest)) ∧ rows.length = len ∧ (∀ r ∈ rows, r.length = sz) ∧ 0 < sz ∧ (tok = .no ∨ tok = .full ∧ cap = some len) ∧ Q' (.list sz rows tok) (h'.drop id)) : Call P w0 f args h Q' :=
  ⟨hc.1, fun Γ w vs H hv => (hc.2 Γ w vs H hv).mono fun e w' ⟨x, Γ', v, h', h1, h2, h3, h4, h5⟩ => by
    obtain ⟨id, len, cap, sz, rows, rest, tok, rfl, ho, hl, hr, hp, htok, hk⟩ := hq v h' h5
    obtain ⟨Γ'', hle, hx, HW⟩ := h4.listed h3 ho hl hr hp htok
    exact ⟨x, Γ'', _, _, h1, h2.trans hle, hx, HW, hk⟩⟩
/-- The rows of a list of strings. -/
def srows (l : List (List UInt8)) : List (List AV) := l.map fun s => [.v (.string (bs s))]
theorem srows_len (l : List (List UInt8)) : (srows l).length = l.length := by simp [srows]
theorem srows_app (l m : List (List UInt8)) : srows (l ++ m) = srows l ++ srows m := by simp [srows]
theorem srows_get (l : List (List UInt8)) (i : Nat) : (srows l)[i]? = (l[i]?).map fun s => [.v (.string (bs s))] := by simp [srows]
/-- A list that may be appended to. -/
def TokU (h : AH) : Tok → Prop
  | .no => False
  | .full => True
  | .own t v => v = h.ver t ∧ t < h.nt
def Tok.owner : Tok → Option Nat
  | .own t _ => some t
  | _ => none
/-- What else stays: all but some objects and some tokens. -/
structure ExtX (I T : Nat → Prop) (h h' : AH) : Prop where
  n : h.n ≤ h'.n
  nt : h.nt ≤ h'.nt
  objs : ∀ i, i < h.n → ¬ I i → h'.objs i = h.objs i
  ver : ∀ t, t < h.nt → ¬ T t → h'.ver t = h.ver t
theorem ExtX.of {I T : Nat → Prop} {h h' : AH} (e : Ext h h') : ExtX I T h h' := ⟨e.n, e.nt, fun i hi _ => e.objs i hi, fun t ht _ => e.ver t ht⟩
theorem ExtX.trans {I T : Nat → Prop} {a b c : AH} (h : ExtX I T a b) (k : ExtX I T b c) : ExtX I T a c :=
  ⟨Nat.le_trans h.n k.n, Nat.le_trans h.nt k.nt, fun i hi hn => (k.objs i (Nat.lt_of_lt_of_le hi h.n) hn).trans (h.objs i hi hn), fun t ht hn => (k.ver t (Nat.lt_of_lt_of_le ht h.nt) hn).trans (h.ver t ht hn)⟩
theorem ExtX.mono {I T I' T' : Nat → Prop} (hi : ∀ i, I i → I' i) (ht : ∀ i, T i → T' i) {a b : AH} (h : ExtX I T a b) : ExtX I' T' a b :=
  ⟨h.n, h.nt, fun i hl hn => h.objs i hl fun x => hn (hi _ x), fun t hl hn => h.ver t hl fun x => hn (ht _ x)⟩
theorem TokU.ext {h h' : AH} (e : Ext h h') {tok : Tok} (k : TokU h tok) : TokU h' tok := by
  cases tok with
  | no => exact k
  | full => trivial
  | own t v => exact ⟨k.1.trans (e.ver t k.2).symm, Nat.lt_of_lt_of_le k.2 e.nt⟩
/-- A token of a list that is new or was the list's own. -/
def TokN (h : AH) (tok tok' : Tok) : Prop := ∀ t, tok'.owner = some t → tok.owner = some t ∨ h.nt ≤ t
theorem Ext.transX {I T : Nat → Prop} {a b c : AH} (e : Ext a b) (k : ExtX I T b c) (hi : ∀ i, I i → a.n ≤ i) (ht : ∀ t, T t → a.nt ≤ t) : Ext a c :=
  ⟨Nat.le_trans e.n k.n, Nat.le_trans e.nt k.nt, fun i hl => (k.objs i (Nat.lt_of_lt_of_le hl e.n) fun x => by have := hi i x; omega).trans (e.objs i hl), fun t hl => (k.ver t (Nat.lt_of_lt_of_le hl e.nt) fun x => by have := ht t x; omega).trans (e.ver t hl)⟩
theorem ExtX.set {I T : Nat → Prop} {h h' : AH} (e : ExtX I T h h') {i : Nat} (hi : I i ∨ h.n ≤ i) (o : AObj) : ExtX I T h (h'.set i o) :=
  ⟨e.n, e.nt, fun j hj hn => by
    simp only [set_at]
    rw [if_neg (by rintro rfl; rcases hi with hi | hi; exact hn hi; omega)]
    exact e.objs j hj hn, e.ver⟩
theorem ExtX.alloc {I T : Nat → Prop} {h h' : AH} (e : ExtX I T h h') (o : AObj) : ExtX I T h (h'.alloc o) := e.trans (.of (Ext.alloc _ _))
theorem ExtX.newTok {I T : Nat → Prop} {h h' : AH} (e : ExtX I T h h') : ExtX I T h h'.newTok := e.trans (.of (Ext.newTok _))
theorem ExtX.bump {I T : Nat → Prop} {h h' : AH} (e : ExtX I T h h') {t : Nat} (ht : T t ∨ h.nt ≤ t) : ExtX I T h (h'.bump t) :=
  ⟨e.n, e.nt, e.objs, fun s hs hn => by
    simp only [bump_ver]
    rw [if_neg (by rintro rfl; rcases ht with ht | ht; exact hn ht; omega)]
    exact e.ver s hs hn⟩
/-- An append to a list that may be appended to. -/
theorem TokU.app {h : AH} {tok : Tok} (k : TokU h tok) : ∃ tok' h', appTok h tok = some (tok', h') ∧ TokU h' tok' ∧ TokN h tok tok' ∧ h'.objs = h.objs ∧ h'.n = h.n ∧ ExtX (fun _ => False) (fun t => tok.owner = some t) h h' := by
  cases tok with
  | no => exact k.elim
  | full => exact ⟨_, _, rfl, ⟨by simp [newTok_ver], by simp [newTok_nt]⟩, fun t ht => by cases ht; exact .inr (Nat.le_refl _), rfl, rfl, .of (Ext.newTok h)⟩
  | own t v =>
    obtain ⟨rfl, hlt⟩ := k
    exact ⟨_, _, if_pos rfl, ⟨by simp [bump_ver], hlt⟩, fun t ht => by cases ht; exact .inl rfl, rfl, rfl, ExtX.bump (.of (Ext.refl h)) (.inl rfl)⟩
theorem is_app0 {σ : Fm} {h : AH} {sz eb : Nat} {x y : Opd} {rows : List (List AV)} {tok : Tok} {b : AV} (hx : evF σ x = .list sz rows tok) (hy : evF σ y = b) (hv : srcRows sz h b = some []) : istep (.app sz eb x y) (evF σ) h = some (.list sz rows tok, h) := by
  simp only [istep, hx, hy, hv, if_true]
theorem TokU.alloc {h : AH} {o : AObj} {tok : Tok} (k : TokU h tok) : TokU (h.alloc o) tok := k.ext (Ext.alloc _ _)
theorem TokU.newTok {h : AH} {tok : Tok} (k : TokU h tok) : TokU h.newTok tok := k.ext (Ext.newTok _)
theorem TokU.set {h : AH} {i : Nat} {o : AObj} {tok : Tok} (k : TokU h tok) : TokU (h.set i o) tok := by cases tok <;> exact k
end Go.Abs
/- A program logic over abstract states, 25: the tactics of a run, carried by default arguments; printed by a program of mine. -/
namespace Go.Abs
open Go Go.RowKit
set_option linter.unusedVariables false
theorem tEV {p : Prop} (h : p := by (((conv => (lhs; whnf; (try simp only [*]))); (try ((try simp only [*]); rfl))); (first | done | fail))) : p := h
theorem tNB {p : Prop} (h : p := by ((first | ((simp only [Int.reduceLT, Int.reduceLE, Int.reduceEq, Int.reduceNe, Int.cast_ofNat_Int, Int.reduceNeg, decide_true, decide_false, not_true_eq_false, not_false_eq_true, decide_eq_true_eq, decide_eq_false_iff_not, Bool.not_eq_true', Bool.not_eq_false', Bool.not_true, Bool.not_false, Bool.false_eq_true, Bool.true_eq_false, Bool.not_eq_true, Bool.not_eq_false, beq_iff_eq, beq_eq_false_iff_ne, bne_iff_ne, bne_eq_false_iff_eq, ne_eq, Int.not_lt, Int.not_le, ge_iff_le, gt_iff_lt, Decidable.not_not, reduceCtorEq, *]); done) | ((simp only [Int.reduceLT, Int.reduceLE, Int.reduceEq, Int.reduceNe, Int.cast_ofNat_Int, Int.reduceNeg, decide_true, decide_false, not_true_eq_false, not_false_eq_true, decide_eq_true_eq, decide_eq_false_iff_not, Bool.not_eq_true', Bool.not_eq_false', Bool.not_true, Bool.not_false, Bool.false_eq_true, Bool.true_eq_false, Bool.not_eq_true, Bool.not_eq_false, beq_iff_eq, beq_eq_false_iff_ne, bne_iff_ne, bne_eq_false_iff_eq, ne_eq, Int.not_lt, Int.not_le, ge_iff_le, gt_iff_lt, Decidable.not_not, reduceCtorEq, Bool.false_eq_true, if_true, if_false, eq_self, reduceIte, Int.toNat_natCast, Int.reduceToNat, List.getElem?_cons_succ, List.getElem?_cons_zero, List.getElem?_nil, List.getElem?_map, Option.map_some, List.length_cons, List.length_nil, List.length_map, List.length_append, bs_size, byteRows_bs, List.nil_append, List.append_nil, List.cons_append, Nat.reduceAdd, true_and, and_true, Nat.reduceLeDiff, Nat.le_refl, *]); done) | ((try simp only [Int.reduceLT, Int.reduceLE, Int.reduceEq, Int.reduceNe, Int.cast_ofNat_Int, Int.reduceNeg, decide_true, decide_false, not_true_eq_false, not_false_eq_true, decide_eq_true_eq, decide_eq_false_iff_not, Bool.not_eq_true', Bool.not_eq_false', Bool.not_true, Bool.not_false, Bool.false_eq_true, Bool.true_eq_false, Bool.not_eq_true, Bool.not_eq_false, beq_iff_eq, beq_eq_false_iff_ne, bne_iff_ne, bne_eq_false_iff_eq, ne_eq, Int.not_lt, Int.not_le, ge_iff_le, gt_iff_lt, Decidable.not_not, reduceCtorEq, Bool.false_eq_true, if_true, if_false, eq_self, reduceIte, Int.toNat_natCast, Int.reduceToNat, List.getElem?_cons_succ, List.getElem?_cons_zero, List.getElem?_nil, List.getElem?_map, Option.map_some, List.length_cons, List.length_nil, List.length_map, List.length_append, bs_size, byteRows_bs, List.nil_append, List.append_nil, List.cons_append, Nat.reduceAdd, true_and, and_true]); omega) | ((try simp only [Int.reduceLT, Int.reduceLE, Int.reduceEq, Int.reduceNe, Int.cast_ofNat_Int, Int.reduceNeg, decide_true, decide_false, not_true_eq_false, not_false_eq_true, decide_eq_true_eq, decide_eq_false_iff_not, Bool.not_eq_true', Bool.not_eq_false', Bool.not_true, Bool.not_false, Bool.false_eq_true, Bool.true_eq_false, Bool.not_eq_true, Bool.not_eq_false, beq_iff_eq, beq_eq_false_iff_ne, bne_iff_ne, bne_eq_false_iff_eq, ne_eq, Int.not_lt, Int.not_le, ge_iff_le, gt_iff_lt, Decidable.not_not, reduceCtorEq, Bool.false_eq_true, if_true, if_false, eq_self, reduceIte, Int.toNat_natCast, Int.reduceToNat, List.getElem?_cons_succ, List.getElem?_cons_zero, List.getElem?_nil, List.getElem?_map, Option.map_some, List.length_cons, List.length_nil, List.length_map, List.length_append, bs_size, byteRows_bs, List.nil_append, List.append_nil, List.cons_append, Nat.reduceAdd, true_and, and_true, *]); omega) | rfl); (first | done | fail))) : p := h
theorem tHE {p : Prop} (h : p := by ((first | ((simp (disch := omega) only [alloc_at, set_at, newTok_at, bump_at, alloc_n, set_n, newTok_n, bump_n, alloc_nt, set_nt, newTok_nt, bump_nt, alloc_ver, set_ver, newTok_ver, bump_ver, eq_self, if_true, reduceIte, *]); rfl) | ((simp (disch := omega) only [alloc_at, set_at, newTok_at, bump_at, alloc_n, set_n, newTok_n, bump_n, alloc_nt, set_nt, newTok_nt, bump_nt, alloc_ver, set_ver, newTok_ver, bump_ver, eq_self, if_true, reduceIte, if_pos, if_neg, *]); rfl) | rfl); (first | done | fail))) : p := h
theorem tAR {p : Prop} (h : p := by ((first | ((simp (disch := omega) only [w64, w32, wu8, wu64, Int.reduceAdd, Int.reduceSub, Int.reduceMul, Int.reduceNeg, Int.zero_add, Int.add_zero, Int.zero_mul, *]); rfl) | rfl); (first | done | fail))) : p := h
theorem tLN {p : Prop} (h : p := by ((first | ((simp (disch := omega) only [Bool.false_eq_true, if_true, if_false, eq_self, reduceIte, Int.toNat_natCast, Int.reduceToNat, List.getElem?_cons_succ, List.getElem?_cons_zero, List.getElem?_nil, List.getElem?_map, Option.map_some, List.length_cons, List.length_nil, List.length_map, List.length_append, bs_size, byteRows_bs, List.nil_append, List.append_nil, List.cons_append, Nat.reduceAdd, *]); rfl) | rfl); (first | done | fail))) : p := h
theorem tPK {p : Prop} (h : p := by ((first | ((simp (disch := omega) only [Int.reduceLT, Int.reduceLE, Int.reduceEq, Int.reduceNe, Int.cast_ofNat_Int, Int.reduceNeg, decide_true, decide_false, not_true_eq_false, not_false_eq_true, decide_eq_true_eq, decide_eq_false_iff_not, Bool.not_eq_true', Bool.not_eq_false', Bool.not_true, Bool.not_false, Bool.false_eq_true, Bool.true_eq_false, Bool.not_eq_true, Bool.not_eq_false, beq_iff_eq, beq_eq_false_iff_ne, bne_iff_ne, bne_eq_false_iff_eq, ne_eq, Int.not_lt, Int.not_le, ge_iff_le, gt_iff_lt, Decidable.not_not, reduceCtorEq, eq_self, if_true, if_false, if_pos, if_neg, *]); rfl)); (first | done | fail))) : p := h
theorem tGN {p : Prop} (h : p := by ((first | (simp (disch := omega) only [istep, evF_tmp, evF_cst, up_at, up_none, argF_zero, argF_succ, argF_nil, Nat.reduceEqDiff, w64, w32, wu8, wu64, Int.reduceLE, Int.reduceLT, Int.reduceAdd, Int.reduceSub, Int.reduceMul, Int.reduceNeg, Int.reduceToNat, Int.toNat_natCast, Int.reduceEq, Int.reduceNe, Nat.reduceLT, Nat.reduceLeDiff, Nat.reduceMul, Nat.reduceSub, Int.natCast_nonneg, bs_data, List.getElem?_cons_succ, List.getElem?_cons_zero, List.getElem?_nil, List.take_succ_cons, List.drop_succ_cons, List.take_zero, List.drop_zero, List.take_nil, List.drop_nil, reduceCtorEq, eq_self, not_false_eq_true, not_true_eq_false, and_true, true_and, and_false, false_and, or_true, true_or, or_false, false_or, if_true, if_false, reduceIte, Nat.reduceAdd, abin, intBin, aun, shiftBin, strBin, eqB, scells, AV.one, Value.oneCell', Option.map_some, Option.map_none, List.map_cons, List.map_nil, bnd, rd, bs_size, bs_data, bs_toList, bs_append, bs_extract, srcRows, fillA, wrL, List.length_cons, List.length_nil, decide_true, decide_false, decide_not, Bool.not_true, Bool.not_false, decide_eq_true_eq, Bool.false_eq_true, Bool.not_eq_true', beqT, beqF, decide_eq_false_iff_not, ge_iff_le, gt_iff_lt, Int.not_lt, Int.not_le, beq_iff_eq, bne_iff_ne, beq_eq_false_iff_ne, bne_eq_false_iff_eq, ne_eq, Decidable.not_not, aresF, resF, ressF, List.append_nil, List.nil_append, List.cons_append, *]; rfl) | (simp (disch := omega) only [istep, evF_tmp, evF_cst, up_at, up_none, argF_zero, argF_succ, argF_nil, Nat.reduceEqDiff, w64, w32, wu8, wu64, Int.reduceLE, Int.reduceLT, Int.reduceAdd, Int.reduceSub, Int.reduceMul, Int.reduceNeg, Int.reduceToNat, Int.toNat_natCast, Int.reduceEq, Int.reduceNe, Nat.reduceLT, Nat.reduceLeDiff, Nat.reduceMul, Nat.reduceSub, Int.natCast_nonneg, bs_data, List.getElem?_cons_succ, List.getElem?_cons_zero, List.getElem?_nil, List.take_succ_cons, List.drop_succ_cons, List.take_zero, List.drop_zero, List.take_nil, List.drop_nil, reduceCtorEq, eq_self, not_false_eq_true, not_true_eq_false, and_true, true_and, and_false, false_and, or_true, true_or, or_false, false_or, if_true, if_false, reduceIte, Nat.reduceAdd, abin, intBin, aun, shiftBin, strBin, eqB, scells, AV.one, Value.oneCell', Option.map_some, Option.map_none, List.map_cons, List.map_nil, bnd, rd, bs_size, bs_data, bs_toList, bs_append, bs_extract, srcRows, fillA, wrL, List.length_cons, List.length_nil, decide_true, decide_false, decide_not, Bool.not_true, Bool.not_false, decide_eq_true_eq, Bool.false_eq_true, Bool.not_eq_true', beqT, beqF, decide_eq_false_iff_not, ge_iff_le, gt_iff_lt, Int.not_lt, Int.not_le, beq_iff_eq, bne_iff_ne, beq_eq_false_iff_ne, bne_eq_false_iff_eq, ne_eq, Decidable.not_not, aresF, resF, ressF, List.append_nil, List.nil_append, List.cons_append, if_pos, if_neg, *]; rfl) | rfl); (first | done | fail))) : p := h
theorem tSR {p : Prop} (h : p := by ((first | rfl | (simp (disch := omega) only [istep, evF_tmp, evF_cst, up_at, up_none, argF_zero, argF_succ, argF_nil, Nat.reduceEqDiff, w64, w32, wu8, wu64, Int.reduceLE, Int.reduceLT, Int.reduceAdd, Int.reduceSub, Int.reduceMul, Int.reduceNeg, Int.reduceToNat, Int.toNat_natCast, Int.reduceEq, Int.reduceNe, Nat.reduceLT, Nat.reduceLeDiff, Nat.reduceMul, Nat.reduceSub, Int.natCast_nonneg, bs_data, List.getElem?_cons_succ, List.getElem?_cons_zero, List.getElem?_nil, List.take_succ_cons, List.drop_succ_cons, List.take_zero, List.drop_zero, List.take_nil, List.drop_nil, reduceCtorEq, eq_self, not_false_eq_true, not_true_eq_false, and_true, true_and, and_false, false_and, or_true, true_or, or_false, false_or, if_true, if_false, reduceIte, Nat.reduceAdd, abin, intBin, aun, shiftBin, strBin, eqB, scells, AV.one, Value.oneCell', Option.map_some, Option.map_none, List.map_cons, List.map_nil, bnd, rd, bs_size, bs_data, bs_toList, bs_append, bs_extract, srcRows, fillA, wrL, List.length_cons, List.length_nil, decide_true, decide_false, decide_not, Bool.not_true, Bool.not_false, decide_eq_true_eq, Bool.false_eq_true, Bool.not_eq_true', beqT, beqF, decide_eq_false_iff_not, ge_iff_le, gt_iff_lt, Int.not_lt, Int.not_le, beq_iff_eq, bne_iff_ne, beq_eq_false_iff_ne, bne_eq_false_iff_eq, ne_eq, Decidable.not_not, aresF, resF, ressF, List.append_nil, List.nil_append, List.cons_append, *]; rfl) | (simp (disch := omega) only [istep, evF_tmp, evF_cst, up_at, up_none, argF_zero, argF_succ, argF_nil, Nat.reduceEqDiff, w64, w32, wu8, wu64, Int.reduceLE, Int.reduceLT, Int.reduceAdd, Int.reduceSub, Int.reduceMul, Int.reduceNeg, Int.reduceToNat, Int.toNat_natCast, Int.reduceEq, Int.reduceNe, Nat.reduceLT, Nat.reduceLeDiff, Nat.reduceMul, Nat.reduceSub, Int.natCast_nonneg, bs_data, List.getElem?_cons_succ, List.getElem?_cons_zero, List.getElem?_nil, List.take_succ_cons, List.drop_succ_cons, List.take_zero, List.drop_zero, List.take_nil, List.drop_nil, reduceCtorEq, eq_self, not_false_eq_true, not_true_eq_false, and_true, true_and, and_false, false_and, or_true, true_or, or_false, false_or, if_true, if_false, reduceIte, Nat.reduceAdd, abin, intBin, aun, shiftBin, strBin, eqB, scells, AV.one, Value.oneCell', Option.map_some, Option.map_none, List.map_cons, List.map_nil, bnd, rd, bs_size, bs_data, bs_toList, bs_append, bs_extract, srcRows, fillA, wrL, List.length_cons, List.length_nil, decide_true, decide_false, decide_not, Bool.not_true, Bool.not_false, decide_eq_true_eq, Bool.false_eq_true, Bool.not_eq_true', beqT, beqF, decide_eq_false_iff_not, ge_iff_le, gt_iff_lt, Int.not_lt, Int.not_le, beq_iff_eq, bne_iff_ne, beq_eq_false_iff_ne, bne_eq_false_iff_eq, ne_eq, Decidable.not_not, aresF, resF, ressF, List.append_nil, List.nil_append, List.cons_append, if_pos, if_neg, *]; rfl)); (first | done | fail))) : p := h
theorem tAP {p : Prop} (h : p := by ((first | ((simp only [*]); rfl) | rfl | ((simp (disch := omega) only [appTok, alloc_at, set_at, newTok_at, bump_at, alloc_n, set_n, newTok_n, bump_n, alloc_nt, set_nt, newTok_nt, bump_nt, alloc_ver, set_ver, newTok_ver, bump_ver, eq_self, if_true, reduceIte, *]); rfl) | ((simp (disch := omega) only [appTok, alloc_at, set_at, newTok_at, bump_at, alloc_n, set_n, newTok_n, bump_n, alloc_nt, set_nt, newTok_nt, bump_nt, alloc_ver, set_ver, newTok_ver, bump_ver, eq_self, if_true, reduceIte, if_pos, if_neg, *]); rfl)); (first | done | fail))) : p := h
theorem tWR {p : Prop} (h : p := by ((first | ((simp only [wrL, List.set_cons_zero, List.set_cons_succ, Nat.reduceAdd]); rfl) | rfl); (first | done | fail))) : p := h
theorem tRD {p : Prop} (h : p := by ((first | ((simp only [rd, List.length_cons, List.length_nil, Nat.reduceAdd, Nat.reduceLeDiff, Nat.le_refl, if_true, List.drop_zero, List.drop_succ_cons, List.take_succ_cons, List.take_zero, List.take_nil, List.getElem?_cons_succ, List.getElem?_cons_zero]); rfl) | rfl); (first | done | fail))) : p := h
theorem tFL {p : Prop} (h : p := by ((simp only [Nat.reduceMul, List.replicate_zero, List.replicate_succ, List.flatten_cons, List.flatten_nil, List.append_nil, List.nil_append, List.cons_append, fillA, scells, AV.one, Value.oneCell', if_true, List.length_cons, List.length_nil, Nat.reduceAdd, Nat.reduceLeDiff, Nat.le_refl, and_self, true_and, and_true, eq_self, wrL, List.set_cons_zero, List.set_cons_succ]; rfl); (first | done | fail))) : p := h
theorem tCH {p : Prop} (h : p := by ((simp only [chunk, List.take_succ_cons, List.take_zero, List.take_nil, List.drop_succ_cons, List.drop_zero, List.drop_nil]; rfl); (first | done | fail))) : p := h
theorem tLQ {p : Prop} (h : p := by ((repeat' (first | with_reducible exact lq_nil | ((with_reducible apply lq_cons); (case hx => exact tEV)))); (first | done | fail))) : p := h
theorem tBQ {p : Prop} (h : p := by ((repeat' (first | with_reducible exact bq_nil | ((with_reducible apply bq_cons); (case hx => exact tEV)))); (first | done | fail))) : p := h
theorem tAG {p : Prop} (h : p := by ((repeat' (first | with_reducible exact args_nil | ((with_reducible apply args_cons); (case hx => exact tEV)))); (first | done | fail))) : p := h
theorem tHS {p : Prop} (h : p := by ((first | ((with_reducible apply is_mv); exact tEV) | ((with_reducible apply is_fadp); (case hx => exact tEV); (case hv => rfl)) | ((with_reducible apply is_load); (case hx => exact tEV); (case ho => exact tHE); (case hv => exact tRD)) | ((with_reducible apply is_lss); (case hx => exact tEV); (case hy => exact tEV)) | ((with_reducible apply is_eql); (case hx => exact tEV); (case hy => exact tEV)) | ((with_reducible apply is_neq); (case hx => exact tEV); (case hy => exact tEV)) | ((with_reducible apply is_pickt); (case hc => exact tEV); (case hb => exact tNB); (case hx => exact tEV)) | ((with_reducible apply is_pickf); (case hc => exact tEV); (case hb => exact tNB); (case hx => exact tEV)) | ((with_reducible apply is_pick); (case hc => exact tEV); (case hx => exact tEV); (case hy => exact tEV); (case hv => exact tPK)) | ((with_reducible apply is_lenB); (case hx => exact tEV); (case hw => exact tLN)) | ((with_reducible apply is_lenL); (case hx => exact tEV); (case hv => exact tLN)) | ((with_reducible apply is_ixB); (case hx => exact tEV); (case hy => exact tEV); (case hb => exact tNB); (case hw => exact tLN)) | ((with_reducible apply is_iaL); (case hx => exact tEV); (case hy => exact tEV); (case hb => exact tNB); (case hv => exact tLN)) | ((with_reducible apply is_loadl); (case hx => exact tEV); (case hv => exact tRD)) | ((with_reducible apply is_add); (case hx => exact tEV); (case hy => exact tEV); (case hw => exact tAR)) | ((with_reducible apply is_ext); (case hx => exact tEV); (case hv => rfl)) | ((with_reducible apply is_leq); (case hx => exact tEV); (case hy => exact tEV)) | ((with_reducible apply is_gtr); (case hx => exact tEV); (case hy => exact tEV)) | ((with_reducible apply is_geq); (case hx => exact tEV); (case hy => exact tEV)) | ((with_reducible apply is_not); exact tEV) | ((with_reducible apply is_eqls); (case hx => exact tEV); (case hy => exact tEV)) | ((with_reducible apply is_neqs); (case hx => exact tEV); (case hy => exact tEV)) | ((with_reducible apply is_sub); (case hx => exact tEV); (case hy => exact tEV); (case hw => exact tAR)) | ((with_reducible apply is_mul); (case hx => exact tEV); (case hy => exact tEV); (case hw => exact tAR)) | ((with_reducible apply is_adds); (case hx => exact tEV); (case hy => exact tEV); (case hb => exact tNB); (case hw => exact tLN)) | ((with_reducible apply is_box); (case hx => exact tEV); (case hv => rfl)) | with_reducible apply is_new | ((with_reducible apply is_store); (case hx => exact tEV); (case hy => exact tEV); (case hv => rfl); (case ho => exact tHE); (case hb => exact tNB); (case hw => exact tWR)) | ((with_reducible apply is_nilp); exact tEV) | ((with_reducible apply is_convI); (case hx => exact tEV); (case hv => exact tAR)) | ((with_reducible apply is_fld); (case hx => exact tEV); (case hv => exact tRD)) | ((with_reducible apply is_fadl); (case hx => exact tEV); (case hv => rfl)) | ((with_reducible apply is_nill); exact tEV) | ((with_reducible apply is_convS); exact tEV) | ((with_reducible apply is_s2b); (case hx => exact tEV); (case hv => exact tLN)) | ((with_reducible apply is_iaLr); (case hx => exact tEV); (case hy => exact tEV); (case hb => exact tNB); (case hv => exact tLN)) | ((with_reducible apply is_lenR); exact tEV) | ((with_reducible apply is_build); (case hq => exact tBQ); (case hv => exact tFL)) | ((with_reducible apply is_lit); (case hq => exact tLQ); (case hv => exact tFL); (case hw => exact tCH)) | ((with_reducible apply is_app); (case hx => exact tEV); (case hy => exact tEV); (case hv => exact tSR); (case ht => exact tAP); (case hb => exact tNB); (case hw => exact tLN)) | ((with_reducible apply is_app0); (case hx => exact tEV); (case hy => exact tEV); (case hv => exact tSR)) | ((with_reducible apply is_bin); (case hx => exact tEV); (case hy => exact tEV); (case hv => exact tGN)) | ((with_reducible apply is_un); (case hx => exact tEV); (case hv => exact tGN)) | (simp (disch := omega) only [istep, evF_tmp, evF_cst, up_at, up_none, argF_zero, argF_succ, argF_nil, Nat.reduceEqDiff, w64, w32, wu8, wu64, Int.reduceLE, Int.reduceLT, Int.reduceAdd, Int.reduceSub, Int.reduceMul, Int.reduceNeg, Int.reduceToNat, Int.toNat_natCast, Int.reduceEq, Int.reduceNe, Nat.reduceLT, Nat.reduceLeDiff, Nat.reduceMul, Nat.reduceSub, Int.natCast_nonneg, bs_data, List.getElem?_cons_succ, List.getElem?_cons_zero, List.getElem?_nil, List.take_succ_cons, List.drop_succ_cons, List.take_zero, List.drop_zero, List.take_nil, List.drop_nil, reduceCtorEq, eq_self, not_false_eq_true, not_true_eq_false, and_true, true_and, and_false, false_and, or_true, true_or, or_false, false_or, if_true, if_false, reduceIte, Nat.reduceAdd, abin, intBin, aun, shiftBin, strBin, eqB, scells, AV.one, Value.oneCell', Option.map_some, Option.map_none, List.map_cons, List.map_nil, bnd, rd, bs_size, bs_data, bs_toList, bs_append, bs_extract, srcRows, fillA, wrL, List.length_cons, List.length_nil, decide_true, decide_false, decide_not, Bool.not_true, Bool.not_false, decide_eq_true_eq, Bool.false_eq_true, Bool.not_eq_true', beqT, beqF, decide_eq_false_iff_not, ge_iff_le, gt_iff_lt, Int.not_lt, Int.not_le, beq_iff_eq, bne_iff_ne, beq_eq_false_iff_ne, bne_eq_false_iff_eq, ne_eq, Decidable.not_not, aresF, resF, ressF, List.append_nil, List.nil_append, List.cons_append, *]; rfl) | (simp (disch := omega) only [istep, evF_tmp, evF_cst, up_at, up_none, argF_zero, argF_succ, argF_nil, Nat.reduceEqDiff, w64, w32, wu8, wu64, Int.reduceLE, Int.reduceLT, Int.reduceAdd, Int.reduceSub, Int.reduceMul, Int.reduceNeg, Int.reduceToNat, Int.toNat_natCast, Int.reduceEq, Int.reduceNe, Nat.reduceLT, Nat.reduceLeDiff, Nat.reduceMul, Nat.reduceSub, Int.natCast_nonneg, bs_data, List.getElem?_cons_succ, List.getElem?_cons_zero, List.getElem?_nil, List.take_succ_cons, List.drop_succ_cons, List.take_zero, List.drop_zero, List.take_nil, List.drop_nil, reduceCtorEq, eq_self, not_false_eq_true, not_true_eq_false, and_true, true_and, and_false, false_and, or_true, true_or, or_false, false_or, if_true, if_false, reduceIte, Nat.reduceAdd, abin, intBin, aun, shiftBin, strBin, eqB, scells, AV.one, Value.oneCell', Option.map_some, Option.map_none, List.map_cons, List.map_nil, bnd, rd, bs_size, bs_data, bs_toList, bs_append, bs_extract, srcRows, fillA, wrL, List.length_cons, List.length_nil, decide_true, decide_false, decide_not, Bool.not_true, Bool.not_false, decide_eq_true_eq, Bool.false_eq_true, Bool.not_eq_true', beqT, beqF, decide_eq_false_iff_not, ge_iff_le, gt_iff_lt, Int.not_lt, Int.not_le, beq_iff_eq, bne_iff_ne, beq_eq_false_iff_ne, bne_eq_false_iff_eq, ne_eq, Decidable.not_not, aresF, resF, ressF, List.append_nil, List.nil_append, List.cons_append, if_pos, if_neg, *]; rfl)); (first | done | fail))) : p := h
theorem tRS {p : Prop} (h : p := by ((first | ((with_reducible apply ares_one); (first | ((with_reducible apply res_tmp); exact tEV) | ((with_reducible apply res_cell); (case hx => exact tEV); (case ho => exact tHE); (case hv => exact tRD)))) | with_reducible exact ares_none | ((with_reducible apply ares_many); (repeat' (first | with_reducible exact ress_nil | ((with_reducible apply ress_cons); (case hq => (first | ((with_reducible apply res_tmp); exact tEV) | ((with_reducible apply res_cell); (case hx => exact tEV); (case ho => exact tHE); (case hv => exact tRD))))))))); (first | done | fail))) : p := h
theorem tCV {p : Prop} (h : p := by ((first | (simp (disch := omega) only [istep, evF_tmp, evF_cst, up_at, up_none, argF_zero, argF_succ, argF_nil, Nat.reduceEqDiff, w64, w32, wu8, wu64, Int.reduceLE, Int.reduceLT, Int.reduceAdd, Int.reduceSub, Int.reduceMul, Int.reduceNeg, Int.reduceToNat, Int.toNat_natCast, Int.reduceEq, Int.reduceNe, Nat.reduceLT, Nat.reduceLeDiff, Nat.reduceMul, Nat.reduceSub, Int.natCast_nonneg, bs_data, List.getElem?_cons_succ, List.getElem?_cons_zero, List.getElem?_nil, List.take_succ_cons, List.drop_succ_cons, List.take_zero, List.drop_zero, List.take_nil, List.drop_nil, reduceCtorEq, eq_self, not_false_eq_true, not_true_eq_false, and_true, true_and, and_false, false_and, or_true, true_or, or_false, false_or, if_true, if_false, reduceIte, Nat.reduceAdd, abin, intBin, aun, shiftBin, strBin, eqB, scells, AV.one, Value.oneCell', Option.map_some, Option.map_none, List.map_cons, List.map_nil, bnd, rd, bs_size, bs_data, bs_toList, bs_append, bs_extract, srcRows, fillA, wrL, List.length_cons, List.length_nil, decide_true, decide_false, decide_not, Bool.not_true, Bool.not_false, decide_eq_true_eq, Bool.false_eq_true, Bool.not_eq_true', beqT, beqF, decide_eq_false_iff_not, ge_iff_le, gt_iff_lt, Int.not_lt, Int.not_le, beq_iff_eq, bne_iff_ne, beq_eq_false_iff_ne, bne_eq_false_iff_eq, ne_eq, Decidable.not_not, aresF, resF, ressF, List.append_nil, List.nil_append, List.cons_append, *]; rfl)); (first | done | fail))) : p := h
theorem tSV {p : Prop} (h : p := by ((first | rfl | (simp (disch := omega) only [istep, evF_tmp, evF_cst, up_at, up_none, argF_zero, argF_succ, argF_nil, Nat.reduceEqDiff, w64, w32, wu8, wu64, Int.reduceLE, Int.reduceLT, Int.reduceAdd, Int.reduceSub, Int.reduceMul, Int.reduceNeg, Int.reduceToNat, Int.toNat_natCast, Int.reduceEq, Int.reduceNe, Nat.reduceLT, Nat.reduceLeDiff, Nat.reduceMul, Nat.reduceSub, Int.natCast_nonneg, bs_data, List.getElem?_cons_succ, List.getElem?_cons_zero, List.getElem?_nil, List.take_succ_cons, List.drop_succ_cons, List.take_zero, List.drop_zero, List.take_nil, List.drop_nil, reduceCtorEq, eq_self, not_false_eq_true, not_true_eq_false, and_true, true_and, and_false, false_and, or_true, true_or, or_false, false_or, if_true, if_false, reduceIte, Nat.reduceAdd, abin, intBin, aun, shiftBin, strBin, eqB, scells, AV.one, Value.oneCell', Option.map_some, Option.map_none, List.map_cons, List.map_nil, bnd, rd, bs_size, bs_data, bs_toList, bs_append, bs_extract, srcRows, fillA, wrL, List.length_cons, List.length_nil, decide_true, decide_false, decide_not, Bool.not_true, Bool.not_false, decide_eq_true_eq, Bool.false_eq_true, Bool.not_eq_true', beqT, beqF, decide_eq_false_iff_not, ge_iff_le, gt_iff_lt, Int.not_lt, Int.not_le, beq_iff_eq, bne_iff_ne, beq_eq_false_iff_ne, bne_eq_false_iff_eq, ne_eq, Decidable.not_not, aresF, resF, ressF, List.append_nil, List.nil_append, List.cons_append, *]; done)); (first | done | fail))) : p := h
end Go.Abs
/- A program logic over abstract states, 26: further moves of a run: bytes, parts of lists. -/
namespace Go.Abs
open Go Go.RowKit
set_option linter.unusedVariables false
set_option linter.unusedSimpArgs false
/-- The rows of bytes. -/
def brows (l : List UInt8) : List (List AV) := l.map fun b => [.v (.int .u8 (b.toNat : Int))]
theorem brows_len (l : List UInt8) : (brows l).length = l.length := by simp [brows]
theorem brows_get (l : List UInt8) (i : Nat) : (brows l)[i]? = (l[i]?).map fun b => [.v (.int .u8 (b.toNat : Int))] := by simp [brows]
theorem brows_app (l m : List UInt8) : brows (l ++ m) = brows l ++ brows m := by simp [brows]
theorem byteRows_brows (l : List UInt8) : byteRows (bs l) = brows l := byteRows_bs l
theorem u8_of (b : UInt8) : UInt8.ofNat ((b.toNat : Int)).toNat = b := by simp
theorem bytes_brows : ∀ l : List UInt8, bytesOfCells (brows l).flatten = some l
  | [] => rfl
  | b :: l => by
    have ih := bytes_brows l
    simp only [brows, List.map_cons, List.flatten_cons, List.cons_append, List.nil_append, bytesOfCells] at ih ⊢
    rw [ih]
    simp
section
variable {σ : Fm} {h : AH}
theorem is_quo {q : EqK} {x y : Opd} {k : IntKind} {a b c : Int} (hx : evF σ x = .v (.int k a)) (hy : evF σ y = .v (.int k b)) (hb : ¬ b = 0) (hw : k.wrap (a.tdiv b) = c) : istep (.bin .quo q x y) (evF σ) h = some (.v (.int k c), h) := by
  simp [istep, hx, hy, abin, intBin, hw, hb]
theorem is_rem {q : EqK} {x y : Opd} {k : IntKind} {a b c : Int} (hx : evF σ x = .v (.int k a)) (hy : evF σ y = .v (.int k b)) (hb : ¬ b = 0) (hw : a.tmod b = c) : istep (.bin .rem q x y) (evF σ) h = some (.v (.int k c), h) := by
  simp [istep, hx, hy, abin, intBin, hw, hb]
theorem is_b2s {x : Opd} {a : AV} {rows : List (List AV)} {l : List UInt8} (hx : evF σ x = a) (hv : srcRows 1 h a = some rows) (hw : bytesOfCells rows.flatten = some l) : istep (.b2s x) (evF σ) h = some (.v (.string (bs l)), h) := by
  simp only [istep, hx, hv, hw]; rfl
theorem bnd_none {d top : Nat} : bnd (evF σ) none d top = some d := rfl
theorem bnd_some {o : Opd} {d top n : Nat} {k : IntKind} {i : Int} (hx : evF σ o = .v (.int k i)) (hb : 0 ≤ i ∧ i ≤ top) (hw : i.toNat = n) : bnd (evF σ) (some o) d top = some n := by
  simp only [bnd, hx, if_pos hb, hw]
theorem is_slL {sz : Nat} {x : Opd} {lo hi : Option Opd} {rows rows' : List (List AV)} {tok tok' : Tok} {a b : Nat} (hx : evF σ x = .list sz rows tok) (hh : bnd (evF σ) hi rows.length rows.length = some b) (hl : bnd (evF σ) lo 0 b = some a) (hw : (rows.drop a).take (b - a) = rows') (ht : (if b = rows.length then tok else .no) = tok') :
    istep (.slL sz x lo hi none) (evF σ) h = some (.list sz rows' tok', h) := by
  simp only [istep, hx, if_true, hh, hl, hw, ht]
theorem is_slS {x : Opd} {lo hi : Option Opd} {l l' : List UInt8} {a b n : Nat} (hx : evF σ x = .v (.string (bs l))) (hn : l.length = n) (hh : bnd (evF σ) hi n n = some b) (hl : bnd (evF σ) lo 0 b = some a) (hw : (l.take b).drop a = l') :
    istep (.slS x lo hi) (evF σ) h = some (.v (.string (bs l')), h) := by
  subst hn
  simp only [istep, hx, bs_size, hh, hl, bs_extract, hw]
end
theorem dopsF.cont {P : Program} {w0 : World} {σ : Fm} {h : AH} {cs : List IOper} {os : List (IOper × List IOper)} {Q : Fm → AH → Prop} (k : stabsF cs σ h) (k' : dopsF P w0 os Q σ h) : stabsF cs σ h ∧ dopsF P w0 os Q σ h := ⟨k, k'⟩
theorem tBD {p : Prop} (h : p := by ((first | with_reducible exact bnd_none | ((with_reducible apply bnd_some); (case hx => exact tEV); (case hb => exact tNB); (case hw => exact tLN))); (first | done | fail))) : p := h
theorem tBR {p : Prop} (h : p := by ((first | exact bytes_brows _ | ((simp only [List.flatten_cons, List.flatten_nil, List.append_nil, List.nil_append, List.cons_append, bytesOfCells, Option.map_some]); rfl)); (first | done | fail))) : p := h
theorem tTK {p : Prop} (h : p := by ((first | ((simp only [ite_self]); rfl) | ((simp (disch := omega) only [if_pos, if_neg, *]); rfl) | rfl); (first | done | fail))) : p := h
theorem tSL {p : Prop} (h : p := by ((first | ((simp only [List.drop_zero, Nat.sub_zero, List.take_length, *]); rfl) | rfl); (first | done | fail))) : p := h
theorem tHT {p : Prop} (h : p := by ((first | with_reducible exact is_newT | ((with_reducible apply is_quo); (case hx => exact tEV); (case hy => exact tEV); (case hb => exact tNB); (case hw => exact tAR)) | ((with_reducible apply is_rem); (case hx => exact tEV); (case hy => exact tEV); (case hb => exact tNB); (case hw => exact tAR)) | ((with_reducible apply is_slL); (case hx => exact tEV); (case hh => exact tBD); (case hl => exact tBD); (case hw => exact tSL); (case ht => exact tTK)) | ((with_reducible apply is_slS); (case hx => exact tEV); (case hn => exact tLN); (case hh => exact tBD); (case hl => exact tBD); (case hw => exact tSL)) | ((with_reducible apply is_b2s); (case hx => exact tEV); (case hv => rfl); (case hw => exact tBR))); (first | done | fail))) : p := h

end Go.Abs
/- The reference's numbers. -/
namespace Go.Abs.F
open Go Go.Abs
set_option maxRecDepth 10000
set_option maxHeartbeats 20000000
set_option linter.unusedSimpArgs false
set_option linter.unusedVariables false
variable {w0 : World}
/-- A number's digits. -/
def udecS (n : Nat) : List UInt8 := if h : n < 10 then [UInt8.ofNat (48 + n)] else udecS (n / 10) ++ [UInt8.ofNat (48 + n % 10)]
termination_by n
decreasing_by omega
theorem udecS_len (k : Nat) : ∀ n, n < 10 ^ (k + 1) → (udecS n).length ≤ k + 1 := by
  induction k with
  | zero =>
    intro n hn
    rw [udecS, dif_pos (by omega)]
    simp
  | succ k ih =>
    intro n hn
    rw [udecS]
    split
    · simp
    · have := ih (n / 10) (by rw [Nat.pow_succ] at hn; omega)
      simp only [List.length_append, List.length_cons, List.length_nil]
      omega
theorem udecS_20 (n : Nat) (h : n ≤ 18446744073709551615) : (udecS n).length ≤ 20 := udecS_len 19 n (by omega)
/-- An int's digits. -/
def decS (n : Int) : List UInt8 := if n < 0 then 45 :: udecS (-n).toNat else udecS n.toNat
theorem decS_len (n : Int) (h0 : -9223372036854775808 ≤ n) (h1 : n ≤ 9223372036854775807) : (decS n).length ≤ 21 := by
  rw [decS]
  split
  · have := udecS_20 (-n).toNat (by omega)
    simp only [List.length_cons]; omega
  · have := udecS_20 n.toNat (by omega)
    omega
/-! numbers read back -/
theorem parse10_app : ∀ (l r : List UInt8) (acc a : Nat), Lib.parseUint10 acc l = .ok a → Lib.parseUint10 acc (l ++ r) = Lib.parseUint10 a r
  | [], r, acc, a, h => by
    simp only [Lib.parseUint10, Lib.NumEnd.ok.injEq] at h
    subst h; rfl
  | c :: l, r, acc, a, h => by
    simp only [Lib.parseUint10, List.cons_append] at h ⊢
    split at h
    · rename_i h1
      rw [if_pos h1]
      split at h
      · cases h
      · rename_i h2
        rw [if_neg h2]
        split at h
        · cases h
        · rename_i h3
          rw [if_neg h3]
          exact parse10_app l r _ a h
    · cases h
theorem u8n {n : Nat} (h : n < 256) : (UInt8.ofNat n).toNat = n := by rw [UInt8.toNat_ofNat']; omega
theorem parse10_dec (m : Nat) (hm : m < 18446744073709551616) : Lib.parseUint10 0 (udecS m) = .ok m := by
  induction m using Nat.strongRecOn with
  | _ m ih =>
    rw [udecS]
    split
    · simp only [Lib.parseUint10]
      rw [u8n (by omega), if_pos (by omega), if_neg (by omega), if_neg (by omega)]
      congr 1; omega
    · rw [parse10_app _ _ 0 (m / 10) (ih (m / 10) (by omega) (by omega))]
      simp only [Lib.parseUint10]
      rw [u8n (by omega), if_pos (by omega), if_neg (by omega), if_neg (by omega)]
      congr 1; omega
theorem udecS_ne (m : Nat) : udecS m ≠ [] := by
  rw [udecS]
  split <;> simp
theorem udecS_mem {m : Nat} {b : UInt8} (h : b ∈ udecS m) : 48 ≤ b.toNat ∧ b.toNat ≤ 57 := by
  induction m using Nat.strongRecOn with
  | _ m ih =>
    rw [udecS] at h
    split at h
    · simp only [List.mem_cons, List.not_mem_nil, or_false] at h
      subst h
      rw [u8n (by omega)]; omega
    · rcases List.mem_append.1 h with h | h
      · exact ih _ (by omega) h
      · simp only [List.mem_cons, List.not_mem_nil, or_false] at h
        subst h
        rw [u8n (by omega)]; omega
theorem decS_mem {n : Int} {b : UInt8} (h : b ∈ decS n) : b = 45 ∨ (48 ≤ b.toNat ∧ b.toNat ≤ 57) := by
  rw [decS] at h
  split at h
  · rcases List.mem_cons.1 h with h | h
    · exact .inl h
    · exact .inr (udecS_mem h)
  · exact .inr (udecS_mem h)
theorem decS_not {n : Int} {c : UInt8} (h1 : c ≠ 45) (h2 : ¬ (48 ≤ c.toNat ∧ c.toNat ≤ 57)) : c ∉ decS n := fun h => by
  rcases decS_mem h with h | h
  · exact h1 h
  · exact h2 h
theorem atoi_dec (n : Int) (h0 : -9223372036854775808 ≤ n) (h1 : n ≤ 9223372036854775807) : Lib.atoiAll (decS n) = .ok n := by
  rw [decS]
  split
  · rename_i hn
    simp only [Lib.atoiAll]
    rw [if_pos (by right; rfl), Lib.parseMag, if_neg (udecS_ne _), parse10_dec _ (by omega)]
    have e : (45 : UInt8).toNat = 45 := rfl
    simp only [e]
    rw [if_neg (by simp), if_neg (by omega), if_pos trivial]
    congr 1; omega
  · rename_i hn
    obtain ⟨c, r, hc⟩ : ∃ c r, udecS n.toNat = c :: r := by
      cases h : udecS n.toNat with
      | nil => exact absurd h (udecS_ne _)
      | cons c r => exact ⟨c, r, rfl⟩
    have hm : c ∈ udecS n.toNat := by rw [hc]; simp
    have hb := udecS_mem hm
    rw [hc]
    simp only [Lib.atoiAll]
    rw [if_neg (by omega), Lib.parseMag, if_neg (by simp), ← hc, parse10_dec _ (by omega)]
    simp only []
    rw [if_neg (by omega), if_neg (by omega), if_neg (by omega)]
    congr 1; omega
end Go.Abs.F
/- strconv.Itoa and strconv.Atoi by the shelf's contracts; worlds that have grown. -/
set_option linter.unusedVariables false
namespace Go.Abs
open Go Go.RowKit
/-- The world has grown; nothing of it has turned. -/
theorem WR.grown {w0 : World} {Γ : Con} {h : AH} {w w' : World} (H : WR w0 Γ h w) (hb : Below w.heap.size w w') : WR w0 Γ h w' where
  below := ⟨hb.os.trans H.below.os, hb.tape.trans H.below.tape, hb.output.trans H.below.output, Nat.le_trans H.below.size hb.size, fun k hk => (hb.block k (Nat.lt_of_lt_of_le hk H.below.size)).trans (H.below.block k hk)⟩
  fcell := fun hx => (World.cell?_of_block (hb.block _ (H.flt hx))).trans (H.fcell hx)
  obj := fun ho => by
    obtain ⟨b, h1, h2, h3, h4⟩ := H.obj ho
    exact ⟨b, h1, h2, h3.at_ (hb.block _ h3.lt), h4⟩
  inj := H.inj
  rlt := fun hi => ⟨(H.rlt hi).1, Nat.lt_of_lt_of_le (H.rlt hi).2 hb.size⟩
  tok := fun ht => by
    obtain ⟨h1, ⟨h2, vs, e, fr, h3, h4, h5⟩, h6⟩ := H.tok ht
    exact ⟨h1, ⟨h2, vs, e, fr, (hb.block _ (size_pos_of h3)).trans h3, h4, h5⟩, h6⟩
  tinj := H.tinj
  tnew := H.tnew
/-- A function that gives a plain value and leaves what was there. -/
theorem Call.plain {P : Program} {w0 : World} {f : FuncId} {args : List AV} {h : AH} {x : Value} {vs : List Value} (hcall : callable P f) (ha : args = vs.map AV.v) (hc : ∀ (Γ : Con) (w : World), WR w0 Γ h w → Calls P f vs.toArray w fun e w' => e = .returned x ∧ Below w.heap.size w w') : Call P w0 f args h (fun v h' => v = .v x ∧ h' = h) := by
  refine ⟨hcall, fun Γ w us H hv => ?_⟩
  have hu : us = vs := by
    subst ha
    have hl := hv.len
    simp only [List.length_map] at hl
    refine List.ext_getElem hl fun i h1 h2 => ?_
    have := hv.at_ i (by simpa using h2) h1
    simp only [List.getElem_map] at this
    exact this.inv_v
  subst hu
  refine (hc Γ w H).mono fun e w' hh => ?_
  obtain ⟨rfl, hb⟩ := hh
  exact ⟨_, Γ, _, h, rfl, .refl Γ, .v _, H.grown hb, rfl, rfl⟩
/-- A function that gives a value that needs no memory of the state, and leaves what was there. -/
theorem Call.grows {P : Program} {w0 : World} {f : FuncId} {args : List AV} {h : AH} {vs : List Value} {Q : AV → Prop} (hcall : callable P f) (ha : args = vs.map AV.v) (hc : ∀ (Γ : Con) (w : World), WR w0 Γ h w → Calls P f vs.toArray w fun e w' => ∃ x v, e = .returned x ∧ (∀ Γ', RV Γ' v x) ∧ Q v ∧ Below w.heap.size w w') : Call P w0 f args h (fun v h' => Q v ∧ h' = h) := by
  refine ⟨hcall, fun Γ w us H hv => ?_⟩
  have hu : us = vs := by
    subst ha
    have hl := hv.len
    simp only [List.length_map] at hl
    refine List.ext_getElem hl fun i h1 h2 => ?_
    have := hv.at_ i (by simpa using h2) h1
    simp only [List.getElem_map] at this
    exact this.inv_v
  subst hu
  refine (hc Γ w H).mono fun e w' hh => ?_
  obtain ⟨x, v, rfl, hx, hq, hb⟩ := hh
  exact ⟨_, Γ, _, h, rfl, .refl Γ, hx Γ, H.grown hb, hq, rfl⟩
end Go.Abs
namespace Go.Abs.F
open Go Go.Abs
variable {w0 : World}
theorem decDigits_udecS (n : Nat) : Lib.decDigits n = udecS n := by
  induction n using Nat.strongRecOn with
  | _ n ih =>
    rw [Lib.decDigits, udecS]
    split
    · rfl
    · rw [ih (n / 10) (by omega)]
abbrev PowTab (w : World) : Prop := Lib.TabIs P w "internal/strconv.uint64pow10" .u64 Lib.pow10Tab
theorem PowTab.below {w0 w : World} {Γ : Con} {h : AH} (hT : PowTab w0) (H : WR w0 Γ h w) : PowTab w := by
  unfold PowTab Lib.TabIs at hT ⊢
  unfold World.var? at hT ⊢
  cases hg : P.globalNamed "internal/strconv.uint64pow10" with
  | none => rw [hg] at hT; cases hT
  | some g =>
    rw [hg] at hT
    simp only [Option.bind_some] at hT ⊢
    have hlt : g < w0.heap.size := by
      rcases Nat.lt_or_ge g w0.heap.size with h1 | h1
      · exact h1
      · rw [Array.getElem?_eq_none h1] at hT
        cases hT
    rw [H.below.block g hlt]
    exact hT
theorem itoa_dec (n : Int) : Lib.itoa n = decS n := by
  rw [Lib.itoa, decS]
  split
  · rw [decDigits_udecS]; congr 2; omega
  · rw [decDigits_udecS]
theorem itoa_call (hT : PowTab w0) (n : Int) (h : AH) (h0 : -9223372036854775808 ≤ n) (h1 : n ≤ 9223372036854775807) : Call P w0 strconv_Itoa [.v (.int .i64 n)] h (fun v h' => v = .v (.string (bs (decS n))) ∧ h' = h) := by
  refine Call.plain (vs := [.int .i64 n]) ⟨_, Go.Proofs.Tryz.func33, by kernel_rfl, by kernel_rfl⟩ rfl fun Γ w H => ?_
  refine (Go.Proofs.Tryz.strconv_Itoa n h0 h1 w (hT.below H)).mono fun e w' hh => ?_
  obtain ⟨rfl, k, os, rfl⟩ := hh
  refine ⟨?_, Lib.below_grow _ _ (Nat.le_refl _) k os⟩
  rw [itoa_dec]
  rfl
/-! the errors' variables -/
theorem var_below {w : World} {n : String} {cs : Array Value} {Γ : Con} {h : AH} (hT : w0.var? P n = some cs) (H : WR w0 Γ h w) : w.var? P n = some cs := by
  unfold World.var? at hT ⊢
  cases hg : P.globalNamed n with
  | none => rw [hg] at hT; cases hT
  | some g =>
    rw [hg] at hT
    simp only [Option.bind_some] at hT ⊢
    have hlt : g < w0.heap.size := by
      rcases Nat.lt_or_ge g w0.heap.size with h1 | h1
      · exact h1
      · rw [Array.getElem?_eq_none h1] at hT
        cases hT
    rw [H.below.block g hlt]
    exact hT
def ErrVars (w : World) : Prop := (∃ tp p, w.var? P "strconv.ErrSyntax" = some #[.iface tp p]) ∧ ∃ tp p, w.var? P "strconv.ErrRange" = some #[.iface tp p]
theorem errVar_of {P : Program} {n nm : String} {d : DataW Unit} {r : List (String × DataW Unit)} {W : World} {g : Nat} {ti : TypeId} {ms : Array (String × TypeId)} (h : laidMet P ((n, .iface nm d) :: r) W)
    (hg : P.globalNamed n = some g) (ht : (P.globals[g]?).map (·.type) = some ti) (hi : P.underlying ti = some (.interface ms)) : ∃ tp p, W.var? P n = some #[.iface tp p] := by
  obtain ⟨ps, ⟨g0, t0, cs0, f0, p0, q0, hg0, ht0, hv0, hd0, _, e0⟩, _, hrows⟩ := h
  obtain rfl := Option.some.inj (hg.symm.trans hg0)
  obtain rfl := Option.some.inj (ht.symm.trans ht0)
  subst e0
  obtain ⟨l0⟩ := cs0
  obtain ⟨f', u, v, hcs, _, _⟩ := iface_of_trod hi hd0
  have hl : l0 = [.iface u v] := hcs
  exact ⟨u, v, by rw [hv0, hl]⟩
theorem errSyntax_of {nm : String} {d : DataW Unit} {l : List (String × DataW Unit)} {W : World} (hL : laidMetH P l W) (hf : l.filter (fun x => x.1 == "strconv.ErrSyntax") = [("strconv.ErrSyntax", .iface nm d)]) (hp : ([("strconv.ErrSyntax", DataW.iface nm d)].all fun x => x.2.handleName?.isNone) = true) : ∃ tp p, W.var? P "strconv.ErrSyntax" = some #[.iface tp p] := by
  have h1 := laidMetH.filter (fun x => x.1 == "strconv.ErrSyntax") hL
  rw [hf, MakeChecks.laidMetH_plain _ _ _ hp] at h1
  exact errVar_of (g := 1) (ti := 60) h1 (by kernel_rfl) (by kernel_rfl) Go.Proofs.Tryz.underlying60
theorem errRange_of {nm : String} {d : DataW Unit} {l : List (String × DataW Unit)} {W : World} (hL : laidMetH P l W) (hf : l.filter (fun x => x.1 == "strconv.ErrRange") = [("strconv.ErrRange", .iface nm d)]) (hp : ([("strconv.ErrRange", DataW.iface nm d)].all fun x => x.2.handleName?.isNone) = true) : ∃ tp p, W.var? P "strconv.ErrRange" = some #[.iface tp p] := by
  have h1 := laidMetH.filter (fun x => x.1 == "strconv.ErrRange") hL
  rw [hf, MakeChecks.laidMetH_plain _ _ _ hp] at h1
  exact errVar_of (g := 2) (ti := 60) h1 (by kernel_rfl) (by kernel_rfl) Go.Proofs.Tryz.underlying60
theorem atoi_range {l : List UInt8} {n : Int} (h : Lib.atoiAll l = .ok n) : -9223372036854775808 ≤ n ∧ n ≤ 9223372036854775807 := by
  unfold Lib.atoiAll at h
  split at h
  · cases h
  · simp only [] at h
    split at h
    · cases h
    · cases h
    · split at h
      · cases h
      · split at h
        · cases h
        · injection h with h
          subst h
          split <;> omega
/-- What Atoi gives: the number and no error, or an error. -/
def AtoiP (s : List UInt8) (v : AV) : Prop :=
  (∃ n, Lib.atoiAll s = .ok n ∧ v = .tup [.v (.int .i64 n), .v .nilIface]) ∨ ((∀ n, Lib.atoiAll s ≠ .ok n) ∧ ∃ k te, v = .tup [.v (.int .i64 k), .iface te (.lptr [] 0)])
theorem rv_err {Γ : Con} {k : Int} {te : TypeId} {b : Nat} : RV Γ (.tup [.v (.int .i64 k), .iface te (.lptr [] 0)]) (.tuple #[.int .i64 k, .iface te (.pointer (some ⟨b, 0, none⟩))]) := by
  refine .tup rfl fun i hi hi' => ?_
  match i, hi with
  | 0, _ => exact .v _
  | 1, _ => exact .iface (.lptr (o := 0) (u := fun _ => undef) (fun j hj => absurd hj (Nat.not_lt_zero j)) (fun j hj => absurd hj (Nat.not_lt_zero j)) (fun j hj => absurd hj (Nat.not_lt_zero j)))
theorem atoiA_call (hE : ErrVars w0) (s : List UInt8) (h : AH) (hl : s.length ≤ 140737488355328) : Call P w0 strconv_Atoi [.v (.string (bs s))] h (fun v h' => AtoiP s v ∧ h' = h) := by
  have hsz : (bs s).size = s.length := bs_size s
  have hdl : (bs s).data.toList = s := by simp [bs]
  refine Call.grows (vs := [.string (bs s)]) ⟨_, Go.Proofs.Tryz.func69, by kernel_rfl, by kernel_rfl⟩ rfl fun Γ w H => ?_
  obtain ⟨⟨tp, p, hv1⟩, tq, q, hv2⟩ := hE
  cases hA : Lib.atoiAll s with
  | ok n =>
    refine (Go.Proofs.Tryz.strconv_Atoi_ok (bs s) (by omega) n (by rw [hdl]; exact hA) w).mono fun e w' hh => ?_
    obtain ⟨rfl, hb⟩ := hh
    refine ⟨_, _, rfl, fun Γ' => ?_, .inl ⟨n, hA, rfl⟩, ?_⟩
    · refine .tup rfl fun i hi hi' => ?_
      match i, hi with
      | 0, _ => exact .v _
      | 1, _ => exact .v _
    · rcases hb with rfl | ⟨t, rfl⟩
      · exact .refl _ _
      · exact Lib.bytesWorld_below _ _ _
  | range =>
    refine (Go.Proofs.Any.strconv_Atoi_range_var Go.Proofs.Tryz.laysC172 (bs s) (by omega) (by rw [hdl]; exact hA) tq q w (var_below hv2 H)).mono fun e w' hh => ?_
    obtain ⟨N, rfl, _, _, hb⟩ := hh
    exact ⟨_, _, rfl, fun Γ' => rv_err, .inr ⟨fun n => (by rw [hA]; intro h; cases h), _, _, rfl⟩, hb⟩
  | _ =>
    refine (Go.Proofs.Any.strconv_Atoi_syntax_var Go.Proofs.Tryz.laysC172 (bs s) (by omega) (by rw [hdl]; exact hA) tp p w (var_below hv1 H)).mono fun e w' hh => ?_
    obtain ⟨N, rfl, _, _, hb⟩ := hh
    exact ⟨_, _, rfl, fun Γ' => rv_err, .inr ⟨fun n => (by rw [hA]; intro h; cases h), _, _, rfl⟩, hb⟩
theorem powTab_of {l : List (String × DataW Unit)} {W : World} (hL : laidMetH P l W) (hf : l.filter (fun x => x.1 == "internal/strconv.uint64pow10") = [("internal/strconv.uint64pow10", Lib.tabData .u64 Lib.pow10Tab)]) : PowTab W := by
  have h1 := laidMetH.filter (fun x => x.1 == "internal/strconv.uint64pow10") hL
  rw [hf, MakeChecks.laidMetH_plain _ _ _ (by kernel_rfl)] at h1
  exact Lib.tabIs_of_head (g := 0) (t := 159) (e := 106) (n := 20) (by kernel_rfl) (by kernel_rfl) (by kernel_rfl) (by kernel_rfl) (by kernel_rfl) (by kernel_rfl) h1
end Go.Abs.F
/- Layer 26: steps as text: the plain side. -/
namespace Go.Abs.F
open Go Go.Abs
set_option maxRecDepth 10000
set_option linter.unusedSimpArgs false
set_option linter.unusedVariables false
/-! texts cut at a byte -/
def cutB (c : UInt8) : List UInt8 → List UInt8 × List UInt8 × Bool
  | [] => ([], [], false)
  | x :: r => if x = c then ([], r, true) else (x :: (cutB c r).1, (cutB c r).2.1, (cutB c r).2.2)
theorem cutB_hit {c : UInt8} {r : List UInt8} : ∀ {a : List UInt8}, c ∉ a → cutB c (a ++ c :: r) = (a, r, true)
  | [], _ => by simp [cutB]
  | x :: a, h => by
    simp only [List.mem_cons, not_or] at h
    simp only [List.cons_append, cutB, if_neg (fun e => h.1 (Eq.symm e)), cutB_hit h.2]
theorem cutB_miss {c : UInt8} : ∀ {a : List UInt8}, c ∉ a → cutB c a = (a, [], false)
  | [], _ => rfl
  | x :: a, h => by
    simp only [List.mem_cons, not_or] at h
    simp only [cutB, if_neg (fun e => h.1 (Eq.symm e)), cutB_miss h.2]
theorem cutB_cases (c : UInt8) : ∀ s : List UInt8, (c ∉ s ∧ cutB c s = (s, [], false)) ∨ ∃ a r, s = a ++ c :: r ∧ c ∉ a ∧ cutB c s = (a, r, true)
  | [] => .inl ⟨by simp, rfl⟩
  | x :: s => by
    by_cases hx : x = c
    · subst hx
      exact .inr ⟨[], s, rfl, by simp, by simp [cutB]⟩
    · rcases cutB_cases c s with ⟨h1, h2⟩ | ⟨a, r, h1, h2, h3⟩
      · have : c ∉ x :: s := by simp only [List.mem_cons, not_or]; exact ⟨fun e => hx e.symm, h1⟩
        exact .inl ⟨this, cutB_miss this⟩
      · have : c ∉ x :: a := by simp only [List.mem_cons, not_or]; exact ⟨fun e => hx e.symm, h2⟩
        refine .inr ⟨x :: a, r, by rw [h1]; rfl, this, ?_⟩
        rw [h1, ← List.cons_append]
        exact cutB_hit this
theorem cutB_len (c : UInt8) (s : List UInt8) (h : s ≠ []) : (cutB c s).2.1.length < s.length := by
  rcases cutB_cases c s with ⟨_, h2⟩ | ⟨a, r, h1, _, h3⟩
  · rw [h2]; exact List.length_pos_iff.2 h
  · rw [h3, h1]; simp; omega
def splB (c : UInt8) : List UInt8 → List (List UInt8)
  | [] => [[]]
  | x :: r => if x = c then [] :: splB c r else (x :: (splB c r).headD []) :: (splB c r).tail
theorem splB_ne (c : UInt8) (s : List UInt8) : splB c s ≠ [] := by
  cases s with
  | nil => simp [splB]
  | cons x r => rw [splB]; split <;> simp
theorem splB_miss {c : UInt8} : ∀ {a : List UInt8}, c ∉ a → splB c a = [a]
  | [], _ => rfl
  | x :: a, h => by
    simp only [List.mem_cons, not_or] at h
    simp only [splB, if_neg (fun e => h.1 (Eq.symm e)), splB_miss h.2]
    rfl
theorem splB_hit {c : UInt8} {r : List UInt8} : ∀ {a : List UInt8}, c ∉ a → splB c (a ++ c :: r) = a :: splB c r
  | [], _ => by simp [splB]
  | x :: a, h => by
    simp only [List.mem_cons, not_or] at h
    simp only [List.cons_append, splB, if_neg (fun e => h.1 (Eq.symm e)), splB_hit h.2]
    rfl
/-! what is written -/
/-- A step: its kind, its numbers, its text. -/
abbrev St := Int × Int × Int × List UInt8
/-! what is read -/
/-! numbers, texts, steps -/
/-! the laws' plain sides -/
end Go.Abs.F
/- Objects that are not written any more: their cells are cells that never turn. -/
namespace Go.Abs
open Go Go.RowKit
set_option linter.unusedVariables false
set_option linter.unusedSimpArgs false
section
variable {P : Program} {w0 : World} {Γ : Con} {h : AH} {w : World}
theorem WR.froze (H : WR w0 Γ h w) {id b : Nat} {cs : List AV} (ho : h.objs id = some (.cells cs)) (hb : Γ.rho id = some b) :
    ∃ f : Nat → Option Value, Γ.le (Γ.withRow b f) ∧ WR w0 (Γ.withRow b f) (h.drop id) w ∧ ∀ (j : Nat) (hj : j < cs.length), ∃ x, f j = some x ∧ x.oneCell' = true ∧ RV (Γ.withRow b f) cs[j] x := by
  obtain ⟨b', hb', hw0, ⟨vs, e, fr, hh, hl, hc⟩, hn⟩ := H.obj ho
  obtain rfl : b = b' := by rw [hb] at hb'; injection hb'
  have hle : Γ.le (Γ.withRow b fun o => if o < cs.length then vs[o]? else none) := by
    refine ⟨fun {k o x} hx => ?_, fun x => x, fun x => x⟩
    simp only [Con.withRow]
    rw [if_neg (by rintro rfl; rw [hn] at hx; cases hx)]
    exact hx
  have hsome : (h.objs id).isSome = true := by rw [ho]; rfl
  have hd : ∀ i, ((h.drop id).objs i).isSome = true → i ≠ id ∧ (h.objs i).isSome = true := by
    intro i hi
    simp only [AH.drop] at hi
    split at hi
    · cases hi
    · exact ⟨by assumption, hi⟩
  refine ⟨_, hle, ⟨H.below, ?_, ?_, ?_, H.rlt, ?_, H.tinj, H.tnew⟩, ?_⟩
  · intro k o x hx
    simp only [Con.withRow] at hx
    split at hx
    · rename_i hk
      subst hk
      split at hx
      · simp only [World.cell?, hh]
        exact hx
      · cases hx
    · exact H.fcell hx
  · intro i o hi
    have hi2 := hd i (by rw [hi]; rfl)
    have hi3 : h.objs i = some o := by
      simp only [AH.drop] at hi
      rw [if_neg hi2.1] at hi
      exact hi
    obtain ⟨k, h1, h2, h3, h4⟩ := H.obj hi3
    refine ⟨k, h1, h2, h3.mono hle, fun off => ?_⟩
    simp only [Con.withRow]
    rw [if_neg (by rintro rfl; exact hi2.1 (H.inj hi2.2 hsome h1 hb))]
    exact h4 off
  · intro i j k hi hj
    exact H.inj (hd i hi).2 (hd j hj).2
  · intro t T ht
    obtain ⟨h1, ⟨h2, vs', e', fr', h3, h4, h5⟩, h6⟩ := H.tok ht
    refine ⟨h1, ⟨h2, vs', e', fr', h3, h4, fun off a c => ?_⟩, fun i hi => h6 i (hd i hi).2⟩
    simp only [Con.withRow]
    rw [if_neg (by intro e; exact h6 id hsome (by rw [hb, e]))]
    exact h5 off a c
  · intro j hj
    have hj2 : j < vs.size := by omega
    refine ⟨vs[j], ?_, (hc j hj hj2).2.1, (hc j hj hj2).1.mono hle⟩
    rw [if_pos hj]
    simp [hj2]
/-- What a call returns is a row that it has laid and that is not written any more. -/
theorem Call.frz {f : FuncId} {args : List AV} {Q : AV → AH → Prop} (hc : Call P w0 f args h fun v h' => ∃ id cap cs rest, v = .row id 0 cs.length cap ∧ h'.objs id = some (.cells (cs ++ rest)) ∧ (∀ c ∈ cs, c.one = true) ∧ Q (.list 1 (cs.map fun c => [c]) .no) (h'.drop id)) : Call P w0 f args h Q := by
  refine ⟨hc.1, fun Γ w vs H hv => (hc.2 Γ w vs H hv).mono fun e w' hp => ?_⟩
  obtain ⟨x, Γ', v, h', rfl, hle, hx, H', id, cap, cs, rest, rfl, ho, h1, hQ⟩ := hp
  obtain ⟨b, c, hb, rfl, hlc, hcc⟩ := hx.inv_row
  obtain ⟨f, hle2, H2, hf⟩ := H'.froze ho hb
  refine ⟨_, _, _, _, rfl, hle.trans hle2, ?_, H2, hQ⟩
  have hl : (cs.map fun c => [c]).length = cs.length := by simp
  have hat : ∀ j, j < cs.length → ∃ x, f j = some x ∧ x.oneCell' = true ∧ ∃ hj : j < (cs ++ rest).length, RV (Γ'.withRow b f) (cs ++ rest)[j] x := fun j hj => by
    have hj2 : j < (cs ++ rest).length := by simp; omega
    obtain ⟨x, a1, a2, a3⟩ := hf j hj2
    exact ⟨x, a1, a2, hj2, a3⟩
  have key : ∀ i, i < cs.length → f i = some ((f i).getD undef) ∧ ((f i).getD undef).oneCell' = true := fun i hi => by
    obtain ⟨x, a1, a2, _⟩ := hat i hi
    rw [a1]
    exact ⟨rfl, a2⟩
  rw [← hl]
  refine .list (u := fun i _ => (f i).getD undef) (by omega) (fun i hi => by simp) (fun i hi j hj => ?_) (fun i hi j hj => ?_) (fun i hi j hj => ?_) trivial
  · obtain rfl : j = 0 := by omega
    simp only [Con.withRow, if_true, Nat.zero_add, Nat.mul_one, Nat.add_zero]
    exact (key i (by omega)).1
  · exact (key i (by omega)).2
  · have hi2 : i < cs.length := by omega
    obtain ⟨x, a1, a2, hj2, a3⟩ := hat i hi2
    simp only [List.getElem_map, List.length_cons, List.length_nil] at hj ⊢
    obtain rfl : j = 0 := by omega
    rw [List.getElem_append_left hi2] at a3
    simp only [List.getElem_cons_zero, a1, Option.getD_some]
    exact a3
theorem Ext.drop {h h' : AH} (e : Ext h h') {id : Nat} (hi : h.n ≤ id) : Ext h (h'.drop id) :=
  ⟨e.n, e.nt, fun i hl => by
    simp only [AH.drop]
    rw [if_neg (by omega)]
    exact e.objs i hl, e.ver⟩
end
end Go.Abs
