/-
  The program's data as cells; the environment of the runs.
-/
import Derived.Test.YtkibinkahpgboaaDoorProg
import Derived.Test.YtkibinkahpgboaaDoorUAmd
import Derived.KernelRfl
namespace Go.AM
namespace S
abbrev main_main : FuncId := 0
abbrev gosem_cut : FuncId := 1
abbrev gosem_cut_init : FuncId := 2
abbrev law15_EvaluateTyped : FuncId := 3
abbrev law15_EvaluateCounts : FuncId := 4
abbrev law15_EvaluateUnordered : FuncId := 5
abbrev world_New : FuncId := 6
abbrev law15_frames : FuncId := 7
abbrev world_Tape_Store : FuncId := 8
abbrev world_Schemas : FuncId := 9
abbrev world_Tape_Expr : FuncId := 10
abbrev world_Tape_Next : FuncId := 11
abbrev world_Tape_AnyExpr : FuncId := 12
abbrev ref14_Type : FuncId := 13
abbrev evaluate_Value : FuncId := 14
abbrev law15_known : FuncId := 15
abbrev world_Col : FuncId := 16
abbrev world_Schema : FuncId := 17
abbrev evaluate_Rows : FuncId := 18
abbrev ref1_Number : FuncId := 19
abbrev ref1_Truth : FuncId := 20
abbrev world_Tape_Query : FuncId := 21
abbrev ref5_SameBag : FuncId := 22
abbrev ref17_Frames : FuncId := 23
abbrev world_Tape_Row : FuncId := 24
abbrev world_Tape_TableOf : FuncId := 25
abbrev world_Tape_column : FuncId := 26
abbrev world_Tape_Bool : FuncId := 27
abbrev world_Lit : FuncId := 28
abbrev world_Num : FuncId := 29
abbrev world_Tape_Small : FuncId := 30
abbrev world_Tape_Typed : FuncId := 31
abbrev world_Tape_query : FuncId := 32
abbrev world_Bin : FuncId := 33
abbrev world_Tape_condition : FuncId := 34
abbrev world_Mod : FuncId := 35
abbrev world_Tape_Name : FuncId := 36
abbrev world_Tape_Value : FuncId := 37
abbrev ref11_Shape : FuncId := 38
abbrev ref14_Resolve : FuncId := 39
abbrev ref14_typeOfQuery : FuncId := 40
abbrev ref14_result : FuncId := 41
abbrev scope_Formed : FuncId := 42
abbrev scope_Resolve : FuncId := 43
abbrev evaluate_aggregate : FuncId := 44
abbrev evaluate_operation : FuncId := 45
abbrev evaluate_selected : FuncId := 46
abbrev evaluate_Rows_c1 : FuncId := 47
abbrev slices_Clone_Value : FuncId := 48
abbrev world_Inside : FuncId := 49
abbrev ref5_Sort : FuncId := 50
abbrev ref1_CompareRows : FuncId := 51
abbrev ref5_Copy : FuncId := 52
abbrev world_Tape_Number : FuncId := 53
abbrev world_Tape_Word : FuncId := 54
abbrev ref14_Source : FuncId := 55
abbrev ref14_Inside : FuncId := 56
abbrev ref14_Condition : FuncId := 57
abbrev ref14_fits : FuncId := 58
abbrev schema_Find : FuncId := 59
abbrev evaluate_aggregate_c1 : FuncId := 60
abbrev evaluate_isNull : FuncId := 61
abbrev value_Truth : FuncId := 62
abbrev value_Number : FuncId := 63
abbrev evaluate_sum : FuncId := 64
abbrev slices_MinFunc_Value : FuncId := 65
abbrev value_Compare : FuncId := 66
abbrev slices_MaxFunc_Value : FuncId := 67
abbrev evaluate_truth : FuncId := 68
abbrev logic_Not : FuncId := 69
abbrev evaluate_between : FuncId := 70
abbrev evaluate_arithmetic : FuncId := 71
abbrev logic_And : FuncId := 72
abbrev logic_Or : FuncId := 73
abbrev evaluate_comparison : FuncId := 74
abbrev evaluate_find : FuncId := 75
abbrev evaluate_inside : FuncId := 76
abbrev evaluate_True : FuncId := 77
abbrev ref1_Compare : FuncId := 78
abbrev slices_IndexFunc_Column : FuncId := 79
abbrev schema_Find_c1 : FuncId := 80
abbrev arith_Sum : FuncId := 81
abbrev cmp_Or_int : FuncId := 82
abbrev cmp_Compare_int : FuncId := 83
abbrev cmp_Compare_int64 : FuncId := 84
abbrev cmp_Compare_string : FuncId := 85
abbrev logic_Valid : FuncId := 86
abbrev arith_Add : FuncId := 87
abbrev arith_Subtract : FuncId := 88
abbrev arith_Multiply : FuncId := 89
abbrev arith_Divide : FuncId := 90
abbrev arith_Modulo : FuncId := 91
abbrev logic_and : FuncId := 92
abbrev slices_IndexFunc_Table : FuncId := 93
abbrev evaluate_find_c1 : FuncId := 94
abbrev slices_Clone_Frame : FuncId := 95
abbrev logic_IsTrue : FuncId := 96
abbrev strings_Compare : FuncId := 97
abbrev math_bits_Add64 : FuncId := 98
abbrev cmp_isNaN_int : FuncId := 99
abbrev cmp_isNaN_int64 : FuncId := 100
abbrev cmp_isNaN_string : FuncId := 101
abbrev value_Valid : FuncId := 102
abbrev internal_bytealg_CompareString : FuncId := 103
abbrev value_plain : FuncId := 104
abbrev internal_bytealg_abigen_runtime_cmpstring : FuncId := 105
abbrev runtime_boundsError_Error : FuncId := 106
abbrev runtime_boundsError_RuntimeError : FuncId := 107
abbrev runtime_errorString_Error : FuncId := 108
abbrev runtime_errorString_RuntimeError : FuncId := 109
abbrev runtime_plainError_Error : FuncId := 110
abbrev runtime_plainError_RuntimeError : FuncId := 111
abbrev runtime_errorAddressString_Error : FuncId := 112
abbrev runtime_errorAddressString_RuntimeError : FuncId := 113
abbrev runtime_TypeAssertionError_Error : FuncId := 114
abbrev runtime_TypeAssertionError_RuntimeError : FuncId := 115
abbrev runtime_PanicNilError_Error : FuncId := 116
abbrev runtime_PanicNilError_RuntimeError : FuncId := 117
abbrev internal_abi_Type_Align : FuncId := 118
abbrev internal_runtime_maps_unhashableTypeError_Error : FuncId := 119
abbrev internal_runtime_maps_unhashableTypeError_RuntimeError : FuncId := 120
abbrev internal_abi_Kind_String : FuncId := 121
abbrev gosem_cut_vars : FuncId := 126
abbrev g_world_names : Nat := 0
abbrev g_world_words : Nat := 1
abbrev g_internal_bytealg_MaxLen : Nat := 2
end S
namespace Ty
abbrev int64 : TypeId := 2
abbrev int : TypeId := 3
abbrev bool : TypeId := 4
abbrev string : TypeId := 9
abbrev Lint : TypeId := 22
abbrev Value : TypeId := 24
abbrev LExpr : TypeId := 25
abbrev LQuery : TypeId := 26
abbrev Expr : TypeId := 28
abbrev LFrame : TypeId := 31
abbrev LTable : TypeId := 33
abbrev LSchema : TypeId := 35
abbrev Place : TypeId := 38
abbrev Errno : TypeId := 42
abbrev Query : TypeId := 51
abbrev LColumn : TypeId := 52
abbrev Schema : TypeId := 54
abbrev LValue : TypeId := 56
abbrev Frame : TypeId := 58
abbrev LLValue : TypeId := 59
abbrev LRow : TypeId := 65
abbrev Table : TypeId := 67
abbrev Row : TypeId := 69
abbrev Tape : TypeId := 73
abbrev Lstring : TypeId := 75
abbrev LRank : TypeId := 76
abbrev LAction : TypeId := 77
abbrev Trigger : TypeId := 79
abbrev Column : TypeId := 83
abbrev Lint64 : TypeId := 101
abbrev uint64 : TypeId := 143
abbrev Rank : TypeId := 165
abbrev LLExpr : TypeId := 166
abbrev LSet : TypeId := 167
abbrev Action : TypeId := 169
abbrev Set : TypeId := 172
end Ty
def tabA : List TI := [
  ⟨.scalar, 0, 0, []⟩,
  ⟨.scalar, 0, 0, []⟩,
  ⟨.int .i64, 1, 8, [(.v (.int .i64 0))]⟩,
  ⟨.int .i64, 1, 8, [(.v (.int .i64 0))]⟩,
  ⟨.bool, 1, 1, [.bl false]⟩,
  ⟨.int .u8, 1, 1, [(.v (.int .u8 0))]⟩,
  ⟨.int .u8, 1, 1, [(.v (.int .u8 0))]⟩,
  ⟨.struct [0, 1, 2, 3], 4, 24, [(.v (.int .i64 0)), (.v (.int .i64 0)), .bl false, (.v (.int .u8 0))]⟩,
  ⟨.struct [0, 1, 2, 3], 4, 24, [(.v (.int .i64 0)), (.v (.int .i64 0)), .bl false, (.v (.int .u8 0))]⟩,
  ⟨.str, 1, 16, [.v (.string ⟨#[]⟩)]⟩,
  ⟨.str, 1, 16, [.v (.string ⟨#[]⟩)]⟩,
  ⟨.str, 1, 16, [.v (.string ⟨#[]⟩)]⟩,
  ⟨.int .u64, 1, 8, [(.v (.int .u64 0))]⟩,
  ⟨.struct [0, 1], 2, 24, [.v (.string ⟨#[]⟩), (.v (.int .u64 0))]⟩,
  ⟨.struct [0, 1], 2, 24, [.v (.string ⟨#[]⟩), (.v (.int .u64 0))]⟩,
  ⟨.scalar, 1, 8, [.v (.pointer none)]⟩,
  ⟨.scalar, 1, 8, [.v (.pointer none)]⟩,
  ⟨.scalar, 1, 8, [.v (.pointer none)]⟩,
  ⟨.struct [0], 1, 8, [.v (.pointer none)]⟩,
  ⟨.struct [0], 1, 8, [.v (.pointer none)]⟩,
  ⟨.scalar, 1, 16, [.v .nilIface]⟩,
  ⟨.int .i32, 1, 4, [(.v (.int .i32 0))]⟩,
  ⟨.slice 3, 1, 24, [.nl]⟩,
  ⟨.struct [0, 1, 2], 3, 32, [(.v (.int .i64 0)), (.v (.int .i64 0)), .v (.string ⟨#[]⟩)]⟩,
  ⟨.struct [0, 1, 2], 3, 32, [(.v (.int .i64 0)), (.v (.int .i64 0)), .v (.string ⟨#[]⟩)]⟩,
  ⟨.slice 28, 1, 24, [.nl]⟩,
  ⟨.slice 51, 1, 24, [.nl]⟩,
  ⟨.struct [0, 1, 2, 3, 6, 7, 8, 9], 10, 136, [(.v (.int .i64 0)), (.v (.int .i64 0)), .bl false, (.v (.int .i64 0)), (.v (.int .i64 0)), .v (.string ⟨#[]⟩), .v (.string ⟨#[]⟩), .v (.string ⟨#[]⟩), .nl, .nl]⟩,
  ⟨.struct [0, 1, 2, 3, 6, 7, 8, 9], 10, 136, [(.v (.int .i64 0)), (.v (.int .i64 0)), .bl false, (.v (.int .i64 0)), (.v (.int .i64 0)), .v (.string ⟨#[]⟩), .v (.string ⟨#[]⟩), .v (.string ⟨#[]⟩), .nl, .nl]⟩,
  ⟨.scalar, 1, 8, [.v (.pointer none)]⟩,
  ⟨.scalar, 0, 0, []⟩,
  ⟨.slice 58, 1, 24, [.nl]⟩,
  ⟨.scalar, 0, 0, []⟩,
  ⟨.slice 67, 1, 24, [.nl]⟩,
  ⟨.scalar, 0, 0, []⟩,
  ⟨.slice 54, 1, 24, [.nl]⟩,
  ⟨.scalar, 0, 0, []⟩,
  ⟨.struct [0, 1], 2, 48, [.nl, .nl]⟩,
  ⟨.struct [0, 1], 2, 48, [.nl, .nl]⟩,
  ⟨.scalar, 0, 0, []⟩,
  ⟨.scalar, 0, 0, []⟩,
  ⟨.scalar, 0, 0, []⟩,
  ⟨.int .i64, 1, 8, [(.v (.int .i64 0))]⟩,
  ⟨.scalar, 0, 0, []⟩,
  ⟨.scalar, 0, 0, []⟩,
  ⟨.scalar, 0, 0, []⟩,
  ⟨.scalar, 0, 0, []⟩,
  ⟨.scalar, 0, 0, []⟩,
  ⟨.scalar, 0, 0, []⟩,
  ⟨.scalar, 0, 0, []⟩,
  ⟨.struct [0, 1, 2, 3], 4, 72, [.bl false, .nl, .v (.string ⟨#[]⟩), .nl]⟩,
  ⟨.struct [0, 1, 2, 3], 4, 72, [.bl false, .nl, .v (.string ⟨#[]⟩), .nl]⟩,
  ⟨.slice 83, 1, 24, [.nl]⟩,
  ⟨.struct [0, 1], 2, 40, [.v (.string ⟨#[]⟩), .nl]⟩,
  ⟨.struct [0, 1], 2, 40, [.v (.string ⟨#[]⟩), .nl]⟩,
  ⟨.scalar, 0, 0, []⟩,
  ⟨.slice 24, 1, 24, [.nl]⟩,
  ⟨.struct [0, 1, 2, 3], 4, 72, [.v (.string ⟨#[]⟩), .bl false, .nl, .nl]⟩,
  ⟨.struct [0, 1, 2, 3], 4, 72, [.v (.string ⟨#[]⟩), .bl false, .nl, .nl]⟩,
  ⟨.slice 56, 1, 24, [.nl]⟩,
  ⟨.scalar, 0, 0, []⟩,
  ⟨.scalar, 0, 0, []⟩,
  ⟨.scalar, 0, 0, []⟩,
  ⟨.scalar, 0, 0, []⟩,
  ⟨.scalar, 0, 0, []⟩,
  ⟨.slice 69, 1, 24, [.nl]⟩,
  ⟨.struct [0, 2, 3], 4, 72, [.v (.string ⟨#[]⟩), .nl, (.v (.int .i64 0)), .nl]⟩,
  ⟨.struct [0, 2, 3], 4, 72, [.v (.string ⟨#[]⟩), .nl, (.v (.int .i64 0)), .nl]⟩,
  ⟨.struct [0, 1], 2, 32, [(.v (.int .i64 0)), .nl]⟩,
  ⟨.struct [0, 1], 2, 32, [(.v (.int .i64 0)), .nl]⟩,
  ⟨.scalar, 0, 0, []⟩,
  ⟨.scalar, 0, 0, []⟩,
  ⟨.struct [0, 1], 2, 32, [.nl, (.v (.int .i64 0))]⟩,
  ⟨.struct [0, 1], 2, 32, [.nl, (.v (.int .i64 0))]⟩,
  ⟨.scalar, 0, 0, []⟩,
  ⟨.slice 9, 1, 24, [.nl]⟩,
  ⟨.slice 165, 1, 24, [.nl]⟩,
  ⟨.slice 169, 1, 24, [.nl]⟩,
  ⟨.struct [0, 1, 2, 3, 4, 5, 6, 7, 8, 9, 10], 11, 200, [.v (.string ⟨#[]⟩), .v (.string ⟨#[]⟩), .bl false, (.v (.int .i64 0)), .nl, .bl false, .nl, .nl, .nl, .nl, .nl]⟩,
  ⟨.struct [0, 1, 2, 3, 4, 5, 6, 7, 8, 9, 10], 11, 200, [.v (.string ⟨#[]⟩), .v (.string ⟨#[]⟩), .bl false, (.v (.int .i64 0)), .nl, .bl false, .nl, .nl, .nl, .nl, .nl]⟩,
  ⟨.scalar, 0, 0, []⟩,
  ⟨.scalar, 0, 0, []⟩,
  ⟨.struct [0, 1, 2, 3], 4, 32, [.v (.string ⟨#[]⟩), (.v (.int .i64 0)), .bl false, .bl false]⟩,
  ⟨.struct [0, 1, 2, 3], 4, 32, [.v (.string ⟨#[]⟩), (.v (.int .i64 0)), .bl false, .bl false]⟩,
  ⟨.scalar, 0, 0, []⟩,
  ⟨.scalar, 0, 0, []⟩,
  ⟨.scalar, 0, 0, []⟩,
  ⟨.scalar, 0, 0, []⟩,
  ⟨.scalar, 0, 0, []⟩,
  ⟨.scalar, 0, 0, []⟩,
  ⟨.scalar, 0, 0, []⟩,
  ⟨.scalar, 0, 0, []⟩,
  ⟨.scalar, 0, 0, []⟩,
  ⟨.scalar, 0, 0, []⟩,
  ⟨.scalar, 0, 0, []⟩,
  ⟨.scalar, 0, 0, []⟩,
  ⟨.scalar, 0, 0, []⟩,
  ⟨.scalar, 0, 0, []⟩,
  ⟨.scalar, 0, 0, []⟩,
  ⟨.scalar, 0, 0, []⟩,
  ⟨.scalar, 0, 0, []⟩,
  ⟨.slice 2, 1, 24, [.nl]⟩,
  ⟨.scalar, 0, 0, []⟩,
  ⟨.scalar, 0, 0, []⟩,
  ⟨.scalar, 0, 0, []⟩,
  ⟨.scalar, 0, 0, []⟩,
  ⟨.scalar, 0, 0, []⟩,
  ⟨.scalar, 0, 0, []⟩,
  ⟨.array 8 9, 8, 128, [.v (.string ⟨#[]⟩), .v (.string ⟨#[]⟩), .v (.string ⟨#[]⟩), .v (.string ⟨#[]⟩), .v (.string ⟨#[]⟩), .v (.string ⟨#[]⟩), .v (.string ⟨#[]⟩), .v (.string ⟨#[]⟩)]⟩,
  ⟨.scalar, 0, 0, []⟩,
  ⟨.scalar, 0, 0, []⟩,
  ⟨.scalar, 0, 0, []⟩,
  ⟨.scalar, 0, 0, []⟩,
  ⟨.scalar, 0, 0, []⟩,
  ⟨.scalar, 0, 0, []⟩,
  ⟨.scalar, 0, 0, []⟩,
  ⟨.scalar, 0, 0, []⟩,
  ⟨.scalar, 0, 0, []⟩,
  ⟨.scalar, 0, 0, []⟩,
  ⟨.scalar, 0, 0, []⟩,
  ⟨.scalar, 0, 0, []⟩,
  ⟨.scalar, 0, 0, []⟩,
  ⟨.scalar, 0, 0, []⟩,
  ⟨.scalar, 0, 0, []⟩,
  ⟨.scalar, 0, 0, []⟩,
  ⟨.scalar, 0, 0, []⟩,
  ⟨.scalar, 0, 0, []⟩,
  ⟨.scalar, 0, 0, []⟩,
  ⟨.scalar, 0, 0, []⟩,
  ⟨.array 6 9, 6, 96, [.v (.string ⟨#[]⟩), .v (.string ⟨#[]⟩), .v (.string ⟨#[]⟩), .v (.string ⟨#[]⟩), .v (.string ⟨#[]⟩), .v (.string ⟨#[]⟩)]⟩,
  ⟨.scalar, 0, 0, []⟩,
  ⟨.scalar, 0, 0, []⟩,
  ⟨.scalar, 0, 0, []⟩,
  ⟨.scalar, 0, 0, []⟩,
  ⟨.scalar, 0, 0, []⟩,
  ⟨.scalar, 0, 0, []⟩,
  ⟨.scalar, 0, 0, []⟩,
  ⟨.scalar, 0, 0, []⟩,
  ⟨.scalar, 0, 0, []⟩,
  ⟨.array 9 4, 9, 9, [.bl false, .bl false, .bl false, .bl false, .bl false, .bl false, .bl false, .bl false, .bl false]⟩,
  ⟨.scalar, 0, 0, []⟩,
  ⟨.scalar, 0, 0, []⟩,
  ⟨.scalar, 0, 0, []⟩,
  ⟨.int .u64, 1, 8, [(.v (.int .u64 0))]⟩,
  ⟨.scalar, 0, 0, []⟩,
  ⟨.scalar, 0, 0, []⟩,
  ⟨.int .u64, 1, 8, [(.v (.int .u64 0))]⟩,
  ⟨.scalar, 0, 0, []⟩,
  ⟨.scalar, 0, 0, []⟩,
  ⟨.struct [0, 1, 2, 3], 4, 40, [.v (.pointer none), .v (.pointer none), .v (.pointer none), .v (.string ⟨#[]⟩)]⟩,
  ⟨.struct [0, 1, 2, 3], 4, 40, [.v (.pointer none), .v (.pointer none), .v (.pointer none), .v (.string ⟨#[]⟩)]⟩,
  ⟨.scalar, 0, 0, []⟩,
  ⟨.scalar, 0, 0, []⟩,
  ⟨.scalar, 0, 0, []⟩,
  ⟨.scalar, 0, 0, []⟩,
  ⟨.int .u32, 1, 4, [(.v (.int .u32 0))]⟩,
  ⟨.int .u8, 1, 1, [(.v (.int .u8 0))]⟩,
  ⟨.int .u8, 1, 1, [(.v (.int .u8 0))]⟩,
  ⟨.scalar, 0, 0, []⟩,
  ⟨.scalar, 1, 8, [.v (.pointer none)]⟩,
  ⟨.int .i32, 1, 4, [(.v (.int .i32 0))]⟩,
  ⟨.int .i32, 1, 4, [(.v (.int .i32 0))]⟩,
  ⟨.struct [0, 1, 2, 3, 4, 5, 6, 7, 8, 9, 10], 11, 48, [(.v (.int .u64 0)), (.v (.int .u64 0)), (.v (.int .u32 0)), (.v (.int .u8 0)), (.v (.int .u8 0)), (.v (.int .u8 0)), (.v (.int .u8 0)), .v .nilFunc, .v (.pointer none), (.v (.int .i32 0)), (.v (.int .i32 0))]⟩,
  ⟨.struct [0, 1, 2, 3, 4, 5, 6, 7, 8, 9, 10], 11, 48, [(.v (.int .u64 0)), (.v (.int .u64 0)), (.v (.int .u32 0)), (.v (.int .u8 0)), (.v (.int .u8 0)), (.v (.int .u8 0)), (.v (.int .u8 0)), .v .nilFunc, .v (.pointer none), (.v (.int .i32 0)), (.v (.int .i32 0))]⟩,
  ⟨.struct [0, 1, 2, 3], 4, 48, [.v (.string ⟨#[]⟩), .v (.string ⟨#[]⟩), (.v (.int .i64 0)), (.v (.int .i64 0))]⟩,
  ⟨.struct [0, 1, 2, 3], 4, 48, [.v (.string ⟨#[]⟩), .v (.string ⟨#[]⟩), (.v (.int .i64 0)), (.v (.int .i64 0))]⟩,
  ⟨.slice 25, 1, 24, [.nl]⟩,
  ⟨.slice 172, 1, 24, [.nl]⟩,
  ⟨.struct [0, 1, 2, 3, 4, 5, 6], 7, 136, [(.v (.int .i64 0)), .v (.string ⟨#[]⟩), .nl, .nl, .nl, .nl, .v (.string ⟨#[]⟩)]⟩,
  ⟨.struct [0, 1, 2, 3, 4, 5, 6], 7, 136, [(.v (.int .i64 0)), .v (.string ⟨#[]⟩), .nl, .nl, .nl, .nl, .v (.string ⟨#[]⟩)]⟩,
  ⟨.scalar, 0, 0, []⟩,
  ⟨.struct [0, 1], 11, 152, [.v (.string ⟨#[]⟩), (.v (.int .i64 0)), (.v (.int .i64 0)), .bl false, (.v (.int .i64 0)), (.v (.int .i64 0)), .v (.string ⟨#[]⟩), .v (.string ⟨#[]⟩), .v (.string ⟨#[]⟩), .nl, .nl]⟩,
  ⟨.struct [0, 1], 11, 152, [.v (.string ⟨#[]⟩), (.v (.int .i64 0)), (.v (.int .i64 0)), .bl false, (.v (.int .i64 0)), (.v (.int .i64 0)), .v (.string ⟨#[]⟩), .v (.string ⟨#[]⟩), .v (.string ⟨#[]⟩), .nl, .nl]⟩]
theorem tabA_ok : tabChk Proofs.Tryd.prog tabA tabA.length = true := by kernel_rfl
theorem mix_ok : Proofs.Tryd.prog.follows .mixedOrders = true := by kernel_rfl
namespace B
noncomputable abbrev main_main : Func := Proofs.Tryd.f0
noncomputable abbrev gosem_cut : Func := Proofs.Tryd.f1
noncomputable abbrev gosem_cut_init : Func := Proofs.Tryd.f2
noncomputable abbrev law15_EvaluateTyped : Func := Proofs.Tryd.f3
noncomputable abbrev law15_EvaluateCounts : Func := Proofs.Tryd.f4
noncomputable abbrev law15_EvaluateUnordered : Func := Proofs.Tryd.f5
noncomputable abbrev world_New : Func := Proofs.Tryd.f6
noncomputable abbrev law15_frames : Func := Proofs.Tryd.f7
noncomputable abbrev world_Tape_Store : Func := Proofs.Tryd.f8
noncomputable abbrev world_Schemas : Func := Proofs.Tryd.f9
noncomputable abbrev world_Tape_Expr : Func := Proofs.Tryd.f10
noncomputable abbrev world_Tape_Next : Func := Proofs.Tryd.f11
noncomputable abbrev world_Tape_AnyExpr : Func := Proofs.Tryd.f12
noncomputable abbrev ref14_Type : Func := Proofs.Tryd.f13
noncomputable abbrev evaluate_Value : Func := Proofs.Tryd.f14
noncomputable abbrev law15_known : Func := Proofs.Tryd.f15
noncomputable abbrev world_Col : Func := Proofs.Tryd.f16
noncomputable abbrev world_Schema : Func := Proofs.Tryd.f17
noncomputable abbrev evaluate_Rows : Func := Proofs.Tryd.f18
noncomputable abbrev ref1_Number : Func := Proofs.Tryd.f19
noncomputable abbrev ref1_Truth : Func := Proofs.Tryd.f20
noncomputable abbrev world_Tape_Query : Func := Proofs.Tryd.f21
noncomputable abbrev ref5_SameBag : Func := Proofs.Tryd.f22
noncomputable abbrev ref17_Frames : Func := Proofs.Tryd.f23
noncomputable abbrev world_Tape_Row : Func := Proofs.Tryd.f24
noncomputable abbrev world_Tape_TableOf : Func := Proofs.Tryd.f25
noncomputable abbrev world_Tape_column : Func := Proofs.Tryd.f26
noncomputable abbrev world_Tape_Bool : Func := Proofs.Tryd.f27
noncomputable abbrev world_Lit : Func := Proofs.Tryd.f28
noncomputable abbrev world_Num : Func := Proofs.Tryd.f29
noncomputable abbrev world_Tape_Small : Func := Proofs.Tryd.f30
noncomputable abbrev world_Tape_Typed : Func := Proofs.Tryd.f31
noncomputable abbrev world_Tape_query : Func := Proofs.Tryd.f32
noncomputable abbrev world_Bin : Func := Proofs.Tryd.f33
noncomputable abbrev world_Tape_condition : Func := Proofs.Tryd.f34
noncomputable abbrev world_Mod : Func := Proofs.Tryd.f35
noncomputable abbrev world_Tape_Name : Func := Proofs.Tryd.f36
noncomputable abbrev world_Tape_Value : Func := Proofs.Tryd.f37
noncomputable abbrev ref11_Shape : Func := Proofs.Tryd.f38
noncomputable abbrev ref14_Resolve : Func := Proofs.Tryd.f39
noncomputable abbrev ref14_typeOfQuery : Func := Proofs.Tryd.f40
noncomputable abbrev ref14_result : Func := Proofs.Tryd.f41
noncomputable abbrev scope_Formed : Func := Proofs.Tryd.f42
noncomputable abbrev scope_Resolve : Func := Proofs.Tryd.f43
noncomputable abbrev evaluate_aggregate : Func := Proofs.Tryd.f44
noncomputable abbrev evaluate_operation : Func := Proofs.Tryd.f45
noncomputable abbrev evaluate_selected : Func := Proofs.Tryd.f46
noncomputable abbrev evaluate_Rows_c1 : Func := Proofs.Tryd.f47
noncomputable abbrev slices_Clone_Value : Func := Proofs.Tryd.f48
noncomputable abbrev world_Inside : Func := Proofs.Tryd.f49
noncomputable abbrev ref5_Sort : Func := Proofs.Tryd.f50
noncomputable abbrev ref1_CompareRows : Func := Proofs.Tryd.f51
noncomputable abbrev ref5_Copy : Func := Proofs.Tryd.f52
noncomputable abbrev world_Tape_Number : Func := Proofs.Tryd.f53
noncomputable abbrev world_Tape_Word : Func := Proofs.Tryd.f54
noncomputable abbrev ref14_Source : Func := Proofs.Tryd.f55
noncomputable abbrev ref14_Inside : Func := Proofs.Tryd.f56
noncomputable abbrev ref14_Condition : Func := Proofs.Tryd.f57
noncomputable abbrev ref14_fits : Func := Proofs.Tryd.f58
noncomputable abbrev schema_Find : Func := Proofs.Tryd.f59
noncomputable abbrev evaluate_aggregate_c1 : Func := Proofs.Tryd.f60
noncomputable abbrev evaluate_isNull : Func := Proofs.Tryd.f61
noncomputable abbrev value_Truth : Func := Proofs.Tryd.f62
noncomputable abbrev value_Number : Func := Proofs.Tryd.f63
noncomputable abbrev evaluate_sum : Func := Proofs.Tryd.f64
noncomputable abbrev slices_MinFunc_Value : Func := Proofs.Tryd.f65
noncomputable abbrev value_Compare : Func := Proofs.Tryd.f66
noncomputable abbrev slices_MaxFunc_Value : Func := Proofs.Tryd.f67
noncomputable abbrev evaluate_truth : Func := Proofs.Tryd.f68
noncomputable abbrev logic_Not : Func := Proofs.Tryd.f69
noncomputable abbrev evaluate_between : Func := Proofs.Tryd.f70
noncomputable abbrev evaluate_arithmetic : Func := Proofs.Tryd.f71
noncomputable abbrev logic_And : Func := Proofs.Tryd.f72
noncomputable abbrev logic_Or : Func := Proofs.Tryd.f73
noncomputable abbrev evaluate_comparison : Func := Proofs.Tryd.f74
noncomputable abbrev evaluate_find : Func := Proofs.Tryd.f75
noncomputable abbrev evaluate_inside : Func := Proofs.Tryd.f76
noncomputable abbrev evaluate_True : Func := Proofs.Tryd.f77
noncomputable abbrev ref1_Compare : Func := Proofs.Tryd.f78
noncomputable abbrev slices_IndexFunc_Column : Func := Proofs.Tryd.f79
noncomputable abbrev schema_Find_c1 : Func := Proofs.Tryd.f80
noncomputable abbrev arith_Sum : Func := Proofs.Tryd.f81
noncomputable abbrev cmp_Or_int : Func := Proofs.Tryd.f82
noncomputable abbrev cmp_Compare_int : Func := Proofs.Tryd.f83
noncomputable abbrev cmp_Compare_int64 : Func := Proofs.Tryd.f84
noncomputable abbrev cmp_Compare_string : Func := Proofs.Tryd.f85
noncomputable abbrev logic_Valid : Func := Proofs.Tryd.f86
noncomputable abbrev arith_Add : Func := Proofs.Tryd.f87
noncomputable abbrev arith_Subtract : Func := Proofs.Tryd.f88
noncomputable abbrev arith_Multiply : Func := Proofs.Tryd.f89
noncomputable abbrev arith_Divide : Func := Proofs.Tryd.f90
noncomputable abbrev arith_Modulo : Func := Proofs.Tryd.f91
noncomputable abbrev logic_and : Func := Proofs.Tryd.f92
noncomputable abbrev slices_IndexFunc_Table : Func := Proofs.Tryd.f93
noncomputable abbrev evaluate_find_c1 : Func := Proofs.Tryd.f94
noncomputable abbrev slices_Clone_Frame : Func := Proofs.Tryd.f95
noncomputable abbrev logic_IsTrue : Func := Proofs.Tryd.f96
noncomputable abbrev strings_Compare : Func := Proofs.Tryd.f97
noncomputable abbrev math_bits_Add64 : Func := Proofs.Tryd.f98
noncomputable abbrev cmp_isNaN_int : Func := Proofs.Tryd.f99
noncomputable abbrev cmp_isNaN_int64 : Func := Proofs.Tryd.f100
noncomputable abbrev cmp_isNaN_string : Func := Proofs.Tryd.f101
noncomputable abbrev value_Valid : Func := Proofs.Tryd.f102
noncomputable abbrev internal_bytealg_CompareString : Func := Proofs.Tryd.f103
noncomputable abbrev value_plain : Func := Proofs.Tryd.f104
noncomputable abbrev internal_bytealg_abigen_runtime_cmpstring : Func := Proofs.Tryd.f105
noncomputable abbrev runtime_boundsError_Error : Func := Proofs.Tryd.f106
noncomputable abbrev runtime_boundsError_RuntimeError : Func := Proofs.Tryd.f107
noncomputable abbrev runtime_errorString_Error : Func := Proofs.Tryd.f108
noncomputable abbrev runtime_errorString_RuntimeError : Func := Proofs.Tryd.f109
noncomputable abbrev runtime_plainError_Error : Func := Proofs.Tryd.f110
noncomputable abbrev runtime_plainError_RuntimeError : Func := Proofs.Tryd.f111
noncomputable abbrev runtime_errorAddressString_Error : Func := Proofs.Tryd.f112
noncomputable abbrev runtime_errorAddressString_RuntimeError : Func := Proofs.Tryd.f113
noncomputable abbrev runtime_TypeAssertionError_Error : Func := Proofs.Tryd.f114
noncomputable abbrev runtime_TypeAssertionError_RuntimeError : Func := Proofs.Tryd.f115
noncomputable abbrev runtime_PanicNilError_Error : Func := Proofs.Tryd.f116
noncomputable abbrev runtime_PanicNilError_RuntimeError : Func := Proofs.Tryd.f117
noncomputable abbrev internal_abi_Type_Align : Func := Proofs.Tryd.f118
noncomputable abbrev internal_runtime_maps_unhashableTypeError_Error : Func := Proofs.Tryd.f119
noncomputable abbrev internal_runtime_maps_unhashableTypeError_RuntimeError : Func := Proofs.Tryd.f120
noncomputable abbrev internal_abi_Kind_String : Func := Proofs.Tryd.f121
noncomputable abbrev gosem_cut_vars : Func := Proofs.Tryd.f126
end B
namespace At
theorem main_main : Proofs.Tryd.prog.funcs[S.main_main]? = some B.main_main := Proofs.Tryd.func0
theorem gosem_cut : Proofs.Tryd.prog.funcs[S.gosem_cut]? = some B.gosem_cut := Proofs.Tryd.func1
theorem gosem_cut_init : Proofs.Tryd.prog.funcs[S.gosem_cut_init]? = some B.gosem_cut_init := Proofs.Tryd.func2
theorem law15_EvaluateTyped : Proofs.Tryd.prog.funcs[S.law15_EvaluateTyped]? = some B.law15_EvaluateTyped := Proofs.Tryd.func3
theorem law15_EvaluateCounts : Proofs.Tryd.prog.funcs[S.law15_EvaluateCounts]? = some B.law15_EvaluateCounts := Proofs.Tryd.func4
theorem law15_EvaluateUnordered : Proofs.Tryd.prog.funcs[S.law15_EvaluateUnordered]? = some B.law15_EvaluateUnordered := Proofs.Tryd.func5
theorem world_New : Proofs.Tryd.prog.funcs[S.world_New]? = some B.world_New := Proofs.Tryd.func6
theorem law15_frames : Proofs.Tryd.prog.funcs[S.law15_frames]? = some B.law15_frames := Proofs.Tryd.func7
theorem world_Tape_Store : Proofs.Tryd.prog.funcs[S.world_Tape_Store]? = some B.world_Tape_Store := Proofs.Tryd.func8
theorem world_Schemas : Proofs.Tryd.prog.funcs[S.world_Schemas]? = some B.world_Schemas := Proofs.Tryd.func9
theorem world_Tape_Expr : Proofs.Tryd.prog.funcs[S.world_Tape_Expr]? = some B.world_Tape_Expr := Proofs.Tryd.func10
theorem world_Tape_Next : Proofs.Tryd.prog.funcs[S.world_Tape_Next]? = some B.world_Tape_Next := Proofs.Tryd.func11
theorem world_Tape_AnyExpr : Proofs.Tryd.prog.funcs[S.world_Tape_AnyExpr]? = some B.world_Tape_AnyExpr := Proofs.Tryd.func12
theorem ref14_Type : Proofs.Tryd.prog.funcs[S.ref14_Type]? = some B.ref14_Type := Proofs.Tryd.func13
theorem evaluate_Value : Proofs.Tryd.prog.funcs[S.evaluate_Value]? = some B.evaluate_Value := Proofs.Tryd.func14
theorem law15_known : Proofs.Tryd.prog.funcs[S.law15_known]? = some B.law15_known := Proofs.Tryd.func15
theorem world_Col : Proofs.Tryd.prog.funcs[S.world_Col]? = some B.world_Col := Proofs.Tryd.func16
theorem world_Schema : Proofs.Tryd.prog.funcs[S.world_Schema]? = some B.world_Schema := Proofs.Tryd.func17
theorem evaluate_Rows : Proofs.Tryd.prog.funcs[S.evaluate_Rows]? = some B.evaluate_Rows := Proofs.Tryd.func18
theorem ref1_Number : Proofs.Tryd.prog.funcs[S.ref1_Number]? = some B.ref1_Number := Proofs.Tryd.func19
theorem ref1_Truth : Proofs.Tryd.prog.funcs[S.ref1_Truth]? = some B.ref1_Truth := Proofs.Tryd.func20
theorem world_Tape_Query : Proofs.Tryd.prog.funcs[S.world_Tape_Query]? = some B.world_Tape_Query := Proofs.Tryd.func21
theorem ref5_SameBag : Proofs.Tryd.prog.funcs[S.ref5_SameBag]? = some B.ref5_SameBag := Proofs.Tryd.func22
theorem ref17_Frames : Proofs.Tryd.prog.funcs[S.ref17_Frames]? = some B.ref17_Frames := Proofs.Tryd.func23
theorem world_Tape_Row : Proofs.Tryd.prog.funcs[S.world_Tape_Row]? = some B.world_Tape_Row := Proofs.Tryd.func24
theorem world_Tape_TableOf : Proofs.Tryd.prog.funcs[S.world_Tape_TableOf]? = some B.world_Tape_TableOf := Proofs.Tryd.func25
theorem world_Tape_column : Proofs.Tryd.prog.funcs[S.world_Tape_column]? = some B.world_Tape_column := Proofs.Tryd.func26
theorem world_Tape_Bool : Proofs.Tryd.prog.funcs[S.world_Tape_Bool]? = some B.world_Tape_Bool := Proofs.Tryd.func27
theorem world_Lit : Proofs.Tryd.prog.funcs[S.world_Lit]? = some B.world_Lit := Proofs.Tryd.func28
theorem world_Num : Proofs.Tryd.prog.funcs[S.world_Num]? = some B.world_Num := Proofs.Tryd.func29
theorem world_Tape_Small : Proofs.Tryd.prog.funcs[S.world_Tape_Small]? = some B.world_Tape_Small := Proofs.Tryd.func30
theorem world_Tape_Typed : Proofs.Tryd.prog.funcs[S.world_Tape_Typed]? = some B.world_Tape_Typed := Proofs.Tryd.func31
theorem world_Tape_query : Proofs.Tryd.prog.funcs[S.world_Tape_query]? = some B.world_Tape_query := Proofs.Tryd.func32
theorem world_Bin : Proofs.Tryd.prog.funcs[S.world_Bin]? = some B.world_Bin := Proofs.Tryd.func33
theorem world_Tape_condition : Proofs.Tryd.prog.funcs[S.world_Tape_condition]? = some B.world_Tape_condition := Proofs.Tryd.func34
theorem world_Mod : Proofs.Tryd.prog.funcs[S.world_Mod]? = some B.world_Mod := Proofs.Tryd.func35
theorem world_Tape_Name : Proofs.Tryd.prog.funcs[S.world_Tape_Name]? = some B.world_Tape_Name := Proofs.Tryd.func36
theorem world_Tape_Value : Proofs.Tryd.prog.funcs[S.world_Tape_Value]? = some B.world_Tape_Value := Proofs.Tryd.func37
theorem ref11_Shape : Proofs.Tryd.prog.funcs[S.ref11_Shape]? = some B.ref11_Shape := Proofs.Tryd.func38
theorem ref14_Resolve : Proofs.Tryd.prog.funcs[S.ref14_Resolve]? = some B.ref14_Resolve := Proofs.Tryd.func39
theorem ref14_typeOfQuery : Proofs.Tryd.prog.funcs[S.ref14_typeOfQuery]? = some B.ref14_typeOfQuery := Proofs.Tryd.func40
theorem ref14_result : Proofs.Tryd.prog.funcs[S.ref14_result]? = some B.ref14_result := Proofs.Tryd.func41
theorem scope_Formed : Proofs.Tryd.prog.funcs[S.scope_Formed]? = some B.scope_Formed := Proofs.Tryd.func42
theorem scope_Resolve : Proofs.Tryd.prog.funcs[S.scope_Resolve]? = some B.scope_Resolve := Proofs.Tryd.func43
theorem evaluate_aggregate : Proofs.Tryd.prog.funcs[S.evaluate_aggregate]? = some B.evaluate_aggregate := Proofs.Tryd.func44
theorem evaluate_operation : Proofs.Tryd.prog.funcs[S.evaluate_operation]? = some B.evaluate_operation := Proofs.Tryd.func45
theorem evaluate_selected : Proofs.Tryd.prog.funcs[S.evaluate_selected]? = some B.evaluate_selected := Proofs.Tryd.func46
theorem evaluate_Rows_c1 : Proofs.Tryd.prog.funcs[S.evaluate_Rows_c1]? = some B.evaluate_Rows_c1 := Proofs.Tryd.func47
theorem slices_Clone_Value : Proofs.Tryd.prog.funcs[S.slices_Clone_Value]? = some B.slices_Clone_Value := Proofs.Tryd.func48
theorem world_Inside : Proofs.Tryd.prog.funcs[S.world_Inside]? = some B.world_Inside := Proofs.Tryd.func49
theorem ref5_Sort : Proofs.Tryd.prog.funcs[S.ref5_Sort]? = some B.ref5_Sort := Proofs.Tryd.func50
theorem ref1_CompareRows : Proofs.Tryd.prog.funcs[S.ref1_CompareRows]? = some B.ref1_CompareRows := Proofs.Tryd.func51
theorem ref5_Copy : Proofs.Tryd.prog.funcs[S.ref5_Copy]? = some B.ref5_Copy := Proofs.Tryd.func52
theorem world_Tape_Number : Proofs.Tryd.prog.funcs[S.world_Tape_Number]? = some B.world_Tape_Number := Proofs.Tryd.func53
theorem world_Tape_Word : Proofs.Tryd.prog.funcs[S.world_Tape_Word]? = some B.world_Tape_Word := Proofs.Tryd.func54
theorem ref14_Source : Proofs.Tryd.prog.funcs[S.ref14_Source]? = some B.ref14_Source := Proofs.Tryd.func55
theorem ref14_Inside : Proofs.Tryd.prog.funcs[S.ref14_Inside]? = some B.ref14_Inside := Proofs.Tryd.func56
theorem ref14_Condition : Proofs.Tryd.prog.funcs[S.ref14_Condition]? = some B.ref14_Condition := Proofs.Tryd.func57
theorem ref14_fits : Proofs.Tryd.prog.funcs[S.ref14_fits]? = some B.ref14_fits := Proofs.Tryd.func58
theorem schema_Find : Proofs.Tryd.prog.funcs[S.schema_Find]? = some B.schema_Find := Proofs.Tryd.func59
theorem evaluate_aggregate_c1 : Proofs.Tryd.prog.funcs[S.evaluate_aggregate_c1]? = some B.evaluate_aggregate_c1 := Proofs.Tryd.func60
theorem evaluate_isNull : Proofs.Tryd.prog.funcs[S.evaluate_isNull]? = some B.evaluate_isNull := Proofs.Tryd.func61
theorem value_Truth : Proofs.Tryd.prog.funcs[S.value_Truth]? = some B.value_Truth := Proofs.Tryd.func62
theorem value_Number : Proofs.Tryd.prog.funcs[S.value_Number]? = some B.value_Number := Proofs.Tryd.func63
theorem evaluate_sum : Proofs.Tryd.prog.funcs[S.evaluate_sum]? = some B.evaluate_sum := Proofs.Tryd.func64
theorem slices_MinFunc_Value : Proofs.Tryd.prog.funcs[S.slices_MinFunc_Value]? = some B.slices_MinFunc_Value := Proofs.Tryd.func65
theorem value_Compare : Proofs.Tryd.prog.funcs[S.value_Compare]? = some B.value_Compare := Proofs.Tryd.func66
theorem slices_MaxFunc_Value : Proofs.Tryd.prog.funcs[S.slices_MaxFunc_Value]? = some B.slices_MaxFunc_Value := Proofs.Tryd.func67
theorem evaluate_truth : Proofs.Tryd.prog.funcs[S.evaluate_truth]? = some B.evaluate_truth := Proofs.Tryd.func68
theorem logic_Not : Proofs.Tryd.prog.funcs[S.logic_Not]? = some B.logic_Not := Proofs.Tryd.func69
theorem evaluate_between : Proofs.Tryd.prog.funcs[S.evaluate_between]? = some B.evaluate_between := Proofs.Tryd.func70
theorem evaluate_arithmetic : Proofs.Tryd.prog.funcs[S.evaluate_arithmetic]? = some B.evaluate_arithmetic := Proofs.Tryd.func71
theorem logic_And : Proofs.Tryd.prog.funcs[S.logic_And]? = some B.logic_And := Proofs.Tryd.func72
theorem logic_Or : Proofs.Tryd.prog.funcs[S.logic_Or]? = some B.logic_Or := Proofs.Tryd.func73
theorem evaluate_comparison : Proofs.Tryd.prog.funcs[S.evaluate_comparison]? = some B.evaluate_comparison := Proofs.Tryd.func74
theorem evaluate_find : Proofs.Tryd.prog.funcs[S.evaluate_find]? = some B.evaluate_find := Proofs.Tryd.func75
theorem evaluate_inside : Proofs.Tryd.prog.funcs[S.evaluate_inside]? = some B.evaluate_inside := Proofs.Tryd.func76
theorem evaluate_True : Proofs.Tryd.prog.funcs[S.evaluate_True]? = some B.evaluate_True := Proofs.Tryd.func77
theorem ref1_Compare : Proofs.Tryd.prog.funcs[S.ref1_Compare]? = some B.ref1_Compare := Proofs.Tryd.func78
theorem slices_IndexFunc_Column : Proofs.Tryd.prog.funcs[S.slices_IndexFunc_Column]? = some B.slices_IndexFunc_Column := Proofs.Tryd.func79
theorem schema_Find_c1 : Proofs.Tryd.prog.funcs[S.schema_Find_c1]? = some B.schema_Find_c1 := Proofs.Tryd.func80
theorem arith_Sum : Proofs.Tryd.prog.funcs[S.arith_Sum]? = some B.arith_Sum := Proofs.Tryd.func81
theorem cmp_Or_int : Proofs.Tryd.prog.funcs[S.cmp_Or_int]? = some B.cmp_Or_int := Proofs.Tryd.func82
theorem cmp_Compare_int : Proofs.Tryd.prog.funcs[S.cmp_Compare_int]? = some B.cmp_Compare_int := Proofs.Tryd.func83
theorem cmp_Compare_int64 : Proofs.Tryd.prog.funcs[S.cmp_Compare_int64]? = some B.cmp_Compare_int64 := Proofs.Tryd.func84
theorem cmp_Compare_string : Proofs.Tryd.prog.funcs[S.cmp_Compare_string]? = some B.cmp_Compare_string := Proofs.Tryd.func85
theorem logic_Valid : Proofs.Tryd.prog.funcs[S.logic_Valid]? = some B.logic_Valid := Proofs.Tryd.func86
theorem arith_Add : Proofs.Tryd.prog.funcs[S.arith_Add]? = some B.arith_Add := Proofs.Tryd.func87
theorem arith_Subtract : Proofs.Tryd.prog.funcs[S.arith_Subtract]? = some B.arith_Subtract := Proofs.Tryd.func88
theorem arith_Multiply : Proofs.Tryd.prog.funcs[S.arith_Multiply]? = some B.arith_Multiply := Proofs.Tryd.func89
theorem arith_Divide : Proofs.Tryd.prog.funcs[S.arith_Divide]? = some B.arith_Divide := Proofs.Tryd.func90
theorem arith_Modulo : Proofs.Tryd.prog.funcs[S.arith_Modulo]? = some B.arith_Modulo := Proofs.Tryd.func91
theorem logic_and : Proofs.Tryd.prog.funcs[S.logic_and]? = some B.logic_and := Proofs.Tryd.func92
theorem slices_IndexFunc_Table : Proofs.Tryd.prog.funcs[S.slices_IndexFunc_Table]? = some B.slices_IndexFunc_Table := Proofs.Tryd.func93
theorem evaluate_find_c1 : Proofs.Tryd.prog.funcs[S.evaluate_find_c1]? = some B.evaluate_find_c1 := Proofs.Tryd.func94
theorem slices_Clone_Frame : Proofs.Tryd.prog.funcs[S.slices_Clone_Frame]? = some B.slices_Clone_Frame := Proofs.Tryd.func95
theorem logic_IsTrue : Proofs.Tryd.prog.funcs[S.logic_IsTrue]? = some B.logic_IsTrue := Proofs.Tryd.func96
theorem strings_Compare : Proofs.Tryd.prog.funcs[S.strings_Compare]? = some B.strings_Compare := Proofs.Tryd.func97
theorem math_bits_Add64 : Proofs.Tryd.prog.funcs[S.math_bits_Add64]? = some B.math_bits_Add64 := Proofs.Tryd.func98
theorem cmp_isNaN_int : Proofs.Tryd.prog.funcs[S.cmp_isNaN_int]? = some B.cmp_isNaN_int := Proofs.Tryd.func99
theorem cmp_isNaN_int64 : Proofs.Tryd.prog.funcs[S.cmp_isNaN_int64]? = some B.cmp_isNaN_int64 := Proofs.Tryd.func100
theorem cmp_isNaN_string : Proofs.Tryd.prog.funcs[S.cmp_isNaN_string]? = some B.cmp_isNaN_string := Proofs.Tryd.func101
theorem value_Valid : Proofs.Tryd.prog.funcs[S.value_Valid]? = some B.value_Valid := Proofs.Tryd.func102
theorem internal_bytealg_CompareString : Proofs.Tryd.prog.funcs[S.internal_bytealg_CompareString]? = some B.internal_bytealg_CompareString := Proofs.Tryd.func103
theorem value_plain : Proofs.Tryd.prog.funcs[S.value_plain]? = some B.value_plain := Proofs.Tryd.func104
theorem internal_bytealg_abigen_runtime_cmpstring : Proofs.Tryd.prog.funcs[S.internal_bytealg_abigen_runtime_cmpstring]? = some B.internal_bytealg_abigen_runtime_cmpstring := Proofs.Tryd.func105
theorem runtime_boundsError_Error : Proofs.Tryd.prog.funcs[S.runtime_boundsError_Error]? = some B.runtime_boundsError_Error := Proofs.Tryd.func106
theorem runtime_boundsError_RuntimeError : Proofs.Tryd.prog.funcs[S.runtime_boundsError_RuntimeError]? = some B.runtime_boundsError_RuntimeError := Proofs.Tryd.func107
theorem runtime_errorString_Error : Proofs.Tryd.prog.funcs[S.runtime_errorString_Error]? = some B.runtime_errorString_Error := Proofs.Tryd.func108
theorem runtime_errorString_RuntimeError : Proofs.Tryd.prog.funcs[S.runtime_errorString_RuntimeError]? = some B.runtime_errorString_RuntimeError := Proofs.Tryd.func109
theorem runtime_plainError_Error : Proofs.Tryd.prog.funcs[S.runtime_plainError_Error]? = some B.runtime_plainError_Error := Proofs.Tryd.func110
theorem runtime_plainError_RuntimeError : Proofs.Tryd.prog.funcs[S.runtime_plainError_RuntimeError]? = some B.runtime_plainError_RuntimeError := Proofs.Tryd.func111
theorem runtime_errorAddressString_Error : Proofs.Tryd.prog.funcs[S.runtime_errorAddressString_Error]? = some B.runtime_errorAddressString_Error := Proofs.Tryd.func112
theorem runtime_errorAddressString_RuntimeError : Proofs.Tryd.prog.funcs[S.runtime_errorAddressString_RuntimeError]? = some B.runtime_errorAddressString_RuntimeError := Proofs.Tryd.func113
theorem runtime_TypeAssertionError_Error : Proofs.Tryd.prog.funcs[S.runtime_TypeAssertionError_Error]? = some B.runtime_TypeAssertionError_Error := Proofs.Tryd.func114
theorem runtime_TypeAssertionError_RuntimeError : Proofs.Tryd.prog.funcs[S.runtime_TypeAssertionError_RuntimeError]? = some B.runtime_TypeAssertionError_RuntimeError := Proofs.Tryd.func115
theorem runtime_PanicNilError_Error : Proofs.Tryd.prog.funcs[S.runtime_PanicNilError_Error]? = some B.runtime_PanicNilError_Error := Proofs.Tryd.func116
theorem runtime_PanicNilError_RuntimeError : Proofs.Tryd.prog.funcs[S.runtime_PanicNilError_RuntimeError]? = some B.runtime_PanicNilError_RuntimeError := Proofs.Tryd.func117
theorem internal_abi_Type_Align : Proofs.Tryd.prog.funcs[S.internal_abi_Type_Align]? = some B.internal_abi_Type_Align := Proofs.Tryd.func118
theorem internal_runtime_maps_unhashableTypeError_Error : Proofs.Tryd.prog.funcs[S.internal_runtime_maps_unhashableTypeError_Error]? = some B.internal_runtime_maps_unhashableTypeError_Error := Proofs.Tryd.func119
theorem internal_runtime_maps_unhashableTypeError_RuntimeError : Proofs.Tryd.prog.funcs[S.internal_runtime_maps_unhashableTypeError_RuntimeError]? = some B.internal_runtime_maps_unhashableTypeError_RuntimeError := Proofs.Tryd.func120
theorem internal_abi_Kind_String : Proofs.Tryd.prog.funcs[S.internal_abi_Kind_String]? = some B.internal_abi_Kind_String := Proofs.Tryd.func121
theorem gosem_cut_vars : Proofs.Tryd.prog.funcs[S.gosem_cut_vars]? = some B.gosem_cut_vars := Proofs.Tryd.func126
end At
end Go.AM

namespace Go.AM

abbrev Str := ByteArray
def ofStr (l : List UInt8) : Str := ⟨l.toArray⟩

abbrev iv (n : Int) : AV := .v (.int .i64 n)
abbrev bv (b : Bool) : AV := .v (.bool b)
abbrev sv (s : Str) : AV := .v (.string s)

def wordsL : List Str := [ofStr [], ofStr [97], ofStr [98], ofStr [105, 116, 39, 115], ofStr [90, 32, 122], ofStr [126]]
def namesL : List Str := [ofStr [105, 100], ofStr [110], ofStr [109], ofStr [98], ofStr [115], ofStr [120], ofStr [97, 49, 95], ofStr [97, 98, 99, 100, 101, 102, 103, 104, 105, 106, 107, 108]]
def globs (g : Nat) : Option (List AV) :=
  match Nat.beq g S.g_world_words with
  | true => some (wordsL.map sv)
  | false => none

noncomputable def E0 : Env0 := ⟨Proofs.Tryd.prog, tabOf tabA, globs⟩
theorem E0ok : TabOK E0 := tabOK_of tabA_ok
theorem mix0 : E0.P.follows .mixedOrders = true := mix_ok

/-- api.Value -/
structure V where
  kind : Int
  int : Int
  text : Str
def V.cells (v : V) : List AV := [iv v.kind, iv v.int, sv v.text]
abbrev V.av (v : V) : AV := .agg v.cells
def V.null : V := ⟨0, 0, ⟨#[]⟩⟩

mutual
/-- api.Expr -/
inductive X where
  | mk (kind op : Int) (not : Bool) (val : V) (table name : Str) (args : List X) (sub : List Qy)
/-- api.Query -/
inductive Qy where
  | mk (star : Bool) (items : List X) (frm : Str) (wh : List X)
end
def X.kind : X → Int | .mk k _ _ _ _ _ _ _ => k
def X.op : X → Int | .mk _ o _ _ _ _ _ _ => o
def X.not : X → Bool | .mk _ _ n _ _ _ _ _ => n
def X.val : X → V | .mk _ _ _ v _ _ _ _ => v
def X.table : X → Str | .mk _ _ _ _ t _ _ _ => t
def X.name : X → Str | .mk _ _ _ _ _ m _ _ => m
def X.args : X → List X | .mk _ _ _ _ _ _ xs _ => xs
def X.sub : X → List Qy | .mk _ _ _ _ _ _ _ qs => qs
def Qy.star : Qy → Bool | .mk s _ _ _ => s
def Qy.items : Qy → List X | .mk _ i _ _ => i
def Qy.frm : Qy → Str | .mk _ _ f _ => f
def Qy.wh : Qy → List X | .mk _ _ _ w => w
@[simp] theorem X.kind_mk (k o : Int) (n : Bool) (v : V) (t m : Str) (xs : List X) (qs : List Qy) : (X.mk k o n v t m xs qs).kind = k := rfl
@[simp] theorem X.op_mk (k o : Int) (n : Bool) (v : V) (t m : Str) (xs : List X) (qs : List Qy) : (X.mk k o n v t m xs qs).op = o := rfl
@[simp] theorem X.not_mk (k o : Int) (n : Bool) (v : V) (t m : Str) (xs : List X) (qs : List Qy) : (X.mk k o n v t m xs qs).not = n := rfl
@[simp] theorem X.val_mk (k o : Int) (n : Bool) (v : V) (t m : Str) (xs : List X) (qs : List Qy) : (X.mk k o n v t m xs qs).val = v := rfl
@[simp] theorem X.table_mk (k o : Int) (n : Bool) (v : V) (t m : Str) (xs : List X) (qs : List Qy) : (X.mk k o n v t m xs qs).table = t := rfl
@[simp] theorem X.name_mk (k o : Int) (n : Bool) (v : V) (t m : Str) (xs : List X) (qs : List Qy) : (X.mk k o n v t m xs qs).name = m := rfl
@[simp] theorem X.args_mk (k o : Int) (n : Bool) (v : V) (t m : Str) (xs : List X) (qs : List Qy) : (X.mk k o n v t m xs qs).args = xs := rfl
@[simp] theorem X.sub_mk (k o : Int) (n : Bool) (v : V) (t m : Str) (xs : List X) (qs : List Qy) : (X.mk k o n v t m xs qs).sub = qs := rfl
@[simp] theorem Qy.star_mk (s : Bool) (i : List X) (f : Str) (w : List X) : (Qy.mk s i f w).star = s := rfl
@[simp] theorem Qy.items_mk (s : Bool) (i : List X) (f : Str) (w : List X) : (Qy.mk s i f w).items = i := rfl
@[simp] theorem Qy.frm_mk (s : Bool) (i : List X) (f : Str) (w : List X) : (Qy.mk s i f w).frm = f := rfl
@[simp] theorem Qy.wh_mk (s : Bool) (i : List X) (f : Str) (w : List X) : (Qy.mk s i f w).wh = w := rfl
mutual
/-- The cells of what stands in slices. -/
def X.raw : X → List AV
  | .mk k o n v t m xs qs => [iv k, iv o, bv n, iv v.kind, iv v.int, sv v.text, sv t, sv m, .sl (cellsX xs), .sl (cellsQ qs)]
def Qy.raw : Qy → List AV
  | .mk s is f w => [bv s, .sl (cellsX is), sv f, .sl (cellsX w)]
def cellsX : List X → List (List AV)
  | [] => []
  | x :: r => X.raw x :: cellsX r
def cellsQ : List Qy → List (List AV)
  | [] => []
  | x :: r => Qy.raw x :: cellsQ r
end
theorem X.eta (x : X) : X.mk x.kind x.op x.not x.val x.table x.name x.args x.sub = x := by cases x; rfl
theorem Qy.eta (x : Qy) : Qy.mk x.star x.items x.frm x.wh = x := by cases x; rfl
def X.cells (x : X) : List AV := [iv x.kind, iv x.op, bv x.not, iv x.val.kind, iv x.val.int, sv x.val.text, sv x.table, sv x.name, .sl (cellsX x.args), .sl (cellsQ x.sub)]
def Qy.cells (x : Qy) : List AV := [bv x.star, .sl (cellsX x.items), sv x.frm, .sl (cellsX x.wh)]
theorem X.raw_eq (x : X) : x.raw = x.cells := by cases x; simp [X.raw, X.cells, X.kind, X.op, X.not, X.val, X.table, X.name, X.args, X.sub]
theorem Qy.raw_eq (x : Qy) : x.raw = x.cells := by cases x; simp [Qy.raw, Qy.cells, Qy.star, Qy.items, Qy.frm, Qy.wh]
theorem cellsX_map : ∀ l : List X, cellsX l = l.map X.cells
  | [] => by simp [cellsX]
  | x :: r => by simp [cellsX, cellsX_map r, X.raw_eq]
theorem cellsQ_map : ∀ l : List Qy, cellsQ l = l.map Qy.cells
  | [] => by simp [cellsQ]
  | x :: r => by simp [cellsQ, cellsQ_map r, Qy.raw_eq]
@[simp] theorem cellsX_nil : cellsX [] = [] := cellsX_map []
@[simp] theorem cellsX_cons (x : X) (r : List X) : cellsX (x :: r) = x.cells :: cellsX r := by simp [cellsX_map]
@[simp] theorem cellsX_app (a b : List X) : cellsX (a ++ b) = cellsX a ++ cellsX b := by simp [cellsX_map]
@[simp] theorem cellsX_length (a : List X) : (cellsX a).length = a.length := by simp [cellsX_map]
@[simp] theorem cellsQ_nil : cellsQ [] = [] := cellsQ_map []
@[simp] theorem cellsQ_cons (x : Qy) (r : List Qy) : cellsQ (x :: r) = x.cells :: cellsQ r := by simp [cellsQ_map]
@[simp] theorem cellsQ_length (a : List Qy) : (cellsQ a).length = a.length := by simp [cellsQ_map]
@[simp] theorem X.cells_length (x : X) : x.cells.length = 10 := rfl
@[simp] theorem Qy.cells_length (x : Qy) : x.cells.length = 4 := rfl
abbrev X.av (x : X) : AV := .agg x.cells
abbrev Qy.av (x : Qy) : AV := .agg x.cells

/-- api.Column -/
structure Col where
  name : Str
  type : Int
  notNull : Bool
  key : Bool
def Col.cells (c : Col) : List AV := [sv c.name, iv c.type, bv c.notNull, bv c.key]
/-- api.Schema -/
structure Sch where
  name : Str
  cols : List Col
def Sch.cells (s : Sch) : List AV := [sv s.name, .sl (s.cols.map Col.cells)]
abbrev Sch.av (s : Sch) : AV := .agg s.cells
/-- api.Row -/
structure Rw where
  id : Int
  vals : List V
def Rw.cells (r : Rw) : List AV := [iv r.id, .sl (r.vals.map V.cells)]
/-- api.Table -/
structure Tb where
  sch : Sch
  next : Int
  rows : List Rw
def Tb.cells (t : Tb) : List AV := [sv t.sch.name, .sl (t.sch.cols.map Col.cells), iv t.next, .sl (t.rows.map Rw.cells)]
abbrev Tb.av (t : Tb) : AV := .agg t.cells
/-- api.Frame -/
structure Fr where
  name : Str
  strict : Bool
  cols : List Col
  vals : List V
def Fr.cells (f : Fr) : List AV := [sv f.name, bv f.strict, .sl (f.cols.map Col.cells), .sl (f.vals.map V.cells)]

abbrev vsl (l : List V) : AV := .sl (l.map V.cells)
abbrev fsl (l : List Fr) : AV := .sl (l.map Fr.cells)
abbrev tsl (l : List Tb) : AV := .sl (l.map Tb.cells)
abbrev xsl (l : List X) : AV := .sl (cellsX l)

/-- A pure contract: called with these data, it hands back just that. -/
abbrev Pure (f : FuncId) (args : List AV) (r : AV) : Prop := ACallsTo E0 f args [] r []

theorem pure_of {f : FuncId} {fn : Func} {c : Code} {args : List AV} {r : AV} (hf : E0.P.funcs[f]? = some fn) (hb : fn.body = some c) (hname : (fn.name == "runtime.NumGoroutine") = false) (hn : Nat.ble args.length fn.ntmps = true)
    (n : Nat) (os : List Orc) {q : List Prop} (hfin : fin (mk E0) fn 0 n ⟨fn.ntmps, [.code c], argTS 0 args, []⟩ os = some (q, r, [])) (hq : allP q) : Pure f args r :=
  acalls_fin E0ok mix0 hf hb hname hn n os hfin hq ⟨rfl, rfl⟩

@[simp] theorem V.cells_length (x : V) : x.cells.length = 3 := rfl
@[simp] theorem Col.cells_length (x : Col) : x.cells.length = 4 := rfl
@[simp] theorem Sch.cells_length (x : Sch) : x.cells.length = 2 := rfl
@[simp] theorem Rw.cells_length (x : Rw) : x.cells.length = 2 := rfl
@[simp] theorem Tb.cells_length (x : Tb) : x.cells.length = 4 := rfl
@[simp] theorem Fr.cells_length (x : Fr) : x.cells.length = 4 := rfl

theorem elAt_X {l : List X} {i : Nat} {x : X} (h : l[i]? = some x) : ElAt (cellsX l) (i : Int) x.cells 10 :=
  ⟨by omega, by simp [cellsX_map, h], rfl⟩
theorem elAt_Q {l : List Qy} {i : Nat} {x : Qy} (h : l[i]? = some x) : ElAt (cellsQ l) (i : Int) x.cells 4 :=
  ⟨by omega, by simp [cellsQ_map, h], rfl⟩

theorem elAt_map {α : Type} (f : α → List AV) {l : List α} {i : Nat} {x : α} (h : l[i]? = some x) {n : Nat} (hn : (f x).length = n) : ElAt (l.map f) (i : Int) (f x) n :=
  ⟨by omega, by simp [h], hn⟩

theorem ownEl_X {l : List X} {n i : Nat} {x : X} (hn : n = l.length) (h : l[i]? = some x) : OwnEl (cellsX l) n i x.cells :=
  ⟨by simp [hn], by simp [cellsX_map, h]⟩
theorem ownEl_map {α : Type} (f : α → List AV) {l : List α} {n i : Nat} {x : α} (hn : n = l.length) (h : l[i]? = some x) : OwnEl (l.map f) n i (f x) :=
  ⟨by simp [hn], by simp [h]⟩

theorem wrap_nat (i : Nat) (h : i < 9223372036854775807) : IntKind.i64.wrap ((i : Int) + 1) = ((i + 1 : Nat) : Int) := by
  rw [IntKind.wrap_i64]; omega

theorem not_flip {c b : Bool} (h : (!c) = b) : c = !b := by cases c <;> cases b <;> simp_all
/-- one less, as a number -/
def pm1 : Nat → Int
  | 0 => -1
  | k + 1 => (k : Int)
theorem pm1_eq (k : Nat) : pm1 k = (k : Int) - 1 := by cases k <;> simp [pm1]
theorem wrap_pm1 (k : Nat) (h : k < 9223372036854775806) : IntKind.i64.wrap ((k : Int) - 1) = pm1 k := by
  rw [pm1_eq, IntKind.wrap_i64]; omega
theorem drop_at {α : Type} {l : List α} {i : Nat} {x : α} (h : l[i]? = some x) : l.drop i = x :: l.drop (i + 1) := by
  obtain ⟨h1, h2⟩ := List.getElem?_eq_some_iff.mp h
  rw [List.drop_eq_getElem_cons h1, h2]

theorem at_lt {α : Type} {l : List α} {i : Nat} {x : α} (h : l[i]? = some x) : i < l.length := (List.getElem?_eq_some_iff.mp h).1

theorem ex_at {α : Type} {l : List α} {i : Nat} (h : i < l.length) : ∃ x, l[i]? = some x := ⟨l[i], by simp [h]⟩

/-- world.Tape: a tape of at most 500 numbers -/
structure Tp where
  l : List Int
  pos : Nat
  ok : l.length ≤ 500
def Tp.cells (t : Tp) : List AV := [.sl (t.l.map fun n => [iv n]), iv t.pos]
/-- world.Place -/
structure Pl where
  frs : List Fr
  tbs : List Sch
def Pl.cells (p : Pl) : List AV := [.sl (p.frs.map Fr.cells), .sl (p.tbs.map Sch.cells)]
abbrev Pl.av (p : Pl) : AV := .agg p.cells

abbrev ssl (l : List Str) : AV := .sl (l.map fun s => [sv s])
/-- api.Set -/
structure Se where
  col : Str
  ex : X
def Se.cells (s : Se) : List AV := sv s.col :: s.ex.cells
/-- api.Action -/
structure Ac where
  kind : Int
  table : Str
  rows : List (List X)
  query : List Qy
  sets : List Se
  wh : List X
  text : Str
def Ac.cells (a : Ac) : List AV := [iv a.kind, sv a.table, .sl (a.rows.map fun r => [.sl (cellsX r)]), .sl (cellsQ a.query), .sl (a.sets.map Se.cells), .sl (cellsX a.wh), sv a.text]
abbrev Ac.av (a : Ac) : AV := .agg a.cells
/-- api.Rank -/
structure Rk where
  table : Str
  col : Str
  low : Int
  high : Int
def Rk.cells (r : Rk) : List AV := [sv r.table, sv r.col, iv r.low, iv r.high]
/-- api.Trigger -/
structure Tg where
  name : Str
  table : Str
  before : Bool
  event : Int
  of : List Str
  each : Bool
  prec : List Str
  foll : List Str
  rank : List Rk
  when_ : List X
  acts : List Ac
def Tg.cells (t : Tg) : List AV := [sv t.name, sv t.table, bv t.before, iv t.event, ssl t.of, bv t.each, ssl t.prec, ssl t.foll, .sl (t.rank.map Rk.cells), .sl (cellsX t.when_), .sl (t.acts.map Ac.cells)]
abbrev Tg.av (t : Tg) : AV := .agg t.cells
@[simp] theorem Se.cells_length (x : Se) : x.cells.length = 11 := rfl
@[simp] theorem Ac.cells_length (x : Ac) : x.cells.length = 7 := rfl
@[simp] theorem Rk.cells_length (x : Rk) : x.cells.length = 4 := rfl
@[simp] theorem Tg.cells_length (x : Tg) : x.cells.length = 11 := rfl

theorem seq_Value : StructEq E0.P Ty.Value [.int .i64, .int .i64, .str] :=
  seq_of E0ok (fs := E0.P.fieldsOf Ty.Value) (by kernel_rfl) (by kernel_rfl) (by kernel_rfl) (by kernel_rfl)

end Go.AM

namespace Go.AM

/-- The whole run of a function. -/
noncomputable def runF (fn : Func) (args : List AV) (h : Heap) (os : List Orc) : Option (List Prop × AV × Heap) :=
  match fn.body, (fn.name == "runtime.NumGoroutine"), Nat.ble args.length fn.ntmps with
  | some c, false, true => fin (mk E0) fn h.length 3000 ⟨fn.ntmps, [.code c], argTS 0 args, h⟩ os
  | _, _, _ => none
noncomputable def uptoF (fn : Func) (args : List AV) (h : Heap) (live : List Nat) (m : Nat) (os : List Orc) : Option (List Prop × Cfg) :=
  match fn.body, (fn.name == "runtime.NumGoroutine"), Nat.ble args.length fn.ntmps, Nat.ble h.length m with
  | some c, false, true, true => some (upto (mk E0) live m 3000 ⟨fn.ntmps, [.code c], argTS 0 args, h⟩ os)
  | _, _, _, _ => none
noncomputable def uptoC (h0 : Heap) (live : List Nat) (m : Nat) (c : Cfg) (os : List Orc) : Option (List Prop × Cfg) :=
  match Nat.ble h0.length m with
  | true => some (upto (mk E0) live m 3000 c os)
  | false => none

theorem wk {f : FuncId} {fn : Func} {args : List AV} {h H : Heap} {r : AV} (hf : E0.P.funcs[f]? = some fn) (l : List St) (hfin : runF fn args h (orcs l) = some (props l, r, H)) : ACallsTo E0 f args h r H := by
  unfold runF at hfin
  split at hfin
  · rename_i c hb hn ha
    exact acalls_fin E0ok mix0 hf hb hn ha 3000 (orcs l) hfin (allP_props l) ⟨rfl, rfl⟩
  · cases hfin
theorem wkc {f : FuncId} {fn : Func} {args : List AV} {h : Heap} {R : AV → Heap → Prop} {c' : Cfg} (hf : E0.P.funcs[f]? = some fn) (l : List St) (live : List Nat) (m : Nat) (hu : uptoF fn args h live m (orcs l) = some (props l, c'))
    (hg : Good E0 fn h c' (Shut h.length R)) : ACalls E0 f args h R := by
  unfold uptoF at hu
  split at hu
  · rename_i c hb hn ha hm
    exact fromCall E0ok mix0 hf hb hn ha 3000 l live m hm (Option.some.inj hu) hg
  · cases hu
theorem wkl {fn : Func} {R : AV → Heap → Prop} {h0 : Heap} {c c' : Cfg} (l : List St) (live : List Nat) (m : Nat) (hu : uptoC h0 live m c (orcs l) = some (props l, c')) (hg : Good E0 fn h0 c' R) : Good E0 fn h0 c R := by
  unfold uptoC at hu
  split at hu
  · rename_i hm
    exact toLoop E0ok mix0 3000 l live m hm (Option.some.inj hu) hg
  · cases hu
theorem wkr {fn : Func} {h0 : Heap} {c : Cfg} {r : AV} {H : Heap} {m : Nat} (l : List St) (hfin : fin (mk E0) fn m 3000 c (orcs l) = some (props l, r, H)) : Good E0 fn h0 c (Shut m fun y h => y = r ∧ h = H) :=
  toRet E0ok mix0 3000 l hfin ⟨rfl, rfl⟩
theorem owed {p : Prop} (h : p := by first | assumption | (simp; done) | (simp; omega) | omega | rfl | (refine ⟨⟨?_⟩, ?_⟩ <;> first | (simp; done) | (simp; omega) | omega) | (refine ⟨⟨?_⟩, ?_, ?_⟩ <;> first | (simp; done) | (simp; omega) | omega) | (refine ⟨?_, ?_, ?_⟩ <;> first | (simp; done) | (simp; omega) | omega)) : p := h
/-- owed, found by itself -/
def sqx (p : Prop) (h : p := by first | assumption | (simp; done) | (simp; omega) | omega | rfl | (refine ⟨⟨?_⟩, ?_⟩ <;> first | (simp; done) | (simp; omega) | omega) | (refine ⟨⟨?_⟩, ?_, ?_⟩ <;> first | (simp; done) | (simp; omega) | omega) | (refine ⟨?_, ?_, ?_⟩ <;> first | (simp; done) | (simp; omega) | omega)) : St := sq h
def skx (p : Prop) {E : Env0} {f : FuncId} {args : List AV} {hl : Heap} {r : AV} {h' : Heap} (lend : List Nat) (h : ACallsTo E f args hl r h') (hp : p := by first | assumption | (simp; done) | (simp; omega) | omega | rfl | (refine ⟨⟨?_⟩, ?_⟩ <;> first | (simp; done) | (simp; omega) | omega) | (refine ⟨⟨?_⟩, ?_, ?_⟩ <;> first | (simp; done) | (simp; omega) | omega) | (refine ⟨?_, ?_, ?_⟩ <;> first | (simp; done) | (simp; omega) | omega)) : St := sk hp lend h
end Go.AM
