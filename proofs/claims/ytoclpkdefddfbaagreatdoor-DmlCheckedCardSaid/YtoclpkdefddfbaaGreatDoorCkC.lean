/-
  Contracts of the program's functions, part 2.
-/
import Derived.Test.YtoclpkdefddfbaaGreatDoorCkB
import Derived.Test.YtoclpkdefddfbaaGreatDoorProg
import Derived.KernelRfl
import Derived.Laws.StructEq
set_option linter.unusedSimpArgs false
set_option linter.unusedVariables false
namespace Go.AM
theorem kr {p : Prop} (h : p := by kernel_rfl) : p := h
namespace S
abbrev law16_DmlChecked:FuncId:=3
abbrev world_New:FuncId:=6
abbrev world_Tape_Store:FuncId:=7
abbrev world_Tape_Change:FuncId:=8
abbrev world_Home:FuncId:=9
abbrev dml_Check:FuncId:=10
abbrev law16_known:FuncId:=12
abbrev dml_Candidates:FuncId:=13
abbrev ref9_Find:FuncId:=14
abbrev ref7_Apply:FuncId:=15
abbrev ref7_Valid:FuncId:=16
abbrev world_Tape_Table:FuncId:=17
abbrev world_Schema:FuncId:=18
abbrev world_Tape_Expr:FuncId:=19
abbrev world_Num:FuncId:=20
abbrev world_Tape_Small:FuncId:=21
abbrev slices_Equal_Value:FuncId:=23
abbrev world_Schemas:FuncId:=24
abbrev world_Tape_TableOf:FuncId:=27
abbrev world_Inside:FuncId:=28
abbrev world_Tape_Next:FuncId:=29
abbrev world_Tape_Bool:FuncId:=30
abbrev world_Tape_copies:FuncId:=31
abbrev world_Lit:FuncId:=32
abbrev world_Tape_Typed:FuncId:=33
abbrev world_Bin:FuncId:=34
abbrev world_Col:FuncId:=35
abbrev dml_target:FuncId:=36
abbrev dml_checkInsert:FuncId:=37
abbrev dml_inside:FuncId:=38
abbrev schema_Find:FuncId:=39
abbrev dml_assign:FuncId:=40
abbrev scope_Condition:FuncId:=41
abbrev ref4_Find:FuncId:=46
abbrev ref1_Number:FuncId:=50
abbrev dml_inserted:FuncId:=51
abbrev slices_IndexFunc_Table:FuncId:=52
abbrev dml_Candidates_c1:FuncId:=53
abbrev evaluate_True:FuncId:=54
abbrev dml_assigned:FuncId:=55
abbrev slices_Clone_Value:FuncId:=56
abbrev ref5_Fits:FuncId:=57
abbrev ref6_Copy:FuncId:=58
abbrev ref7_has:FuncId:=59
abbrev ref7_find:FuncId:=60
abbrev ref5_Copy:FuncId:=61
abbrev ref6_Duplicate:FuncId:=62
abbrev ref6_Valid:FuncId:=63
abbrev ref6_Get:FuncId:=64
abbrev ref1_CompareRows:FuncId:=65
abbrev world_Tape_column:FuncId:=66
abbrev world_Tape_query:FuncId:=67
abbrev world_Tape_condition:FuncId:=68
abbrev world_Tape_Row:FuncId:=71
abbrev world_Mod:FuncId:=72
abbrev world_Tape_Number:FuncId:=73
abbrev world_Tape_Word:FuncId:=74
abbrev syntax_ValidAction:FuncId:=75
abbrev scope_Source:FuncId:=76
abbrev scope_Types:FuncId:=77
abbrev scope_Assignable:FuncId:=78
abbrev slices_Clone_Frame:FuncId:=79
abbrev slices_IndexFunc_Column:FuncId:=80
abbrev schema_Find_c1:FuncId:=81
abbrev scope_Type:FuncId:=82
abbrev scope_fits:FuncId:=83
abbrev evaluate_Value:FuncId:=91
abbrev evaluate_Rows:FuncId:=92
abbrev slices_ContainsFunc_Value:FuncId:=93
abbrev dml_inserted_c1:FuncId:=94
abbrev logic_Valid:FuncId:=95
abbrev logic_IsTrue:FuncId:=96
abbrev ref4_Fits:FuncId:=97
abbrev ref4_KeyColumn:FuncId:=98
abbrev ref4_Valid:FuncId:=99
abbrev ref1_Compare:FuncId:=100
abbrev schema_ValidName:FuncId:=112
abbrev syntax_validRows:FuncId:=113
abbrev syntax_ValidQuery:FuncId:=114
abbrev syntax_validSets:FuncId:=115
abbrev syntax_condition:FuncId:=116
abbrev scope_Source_c1:FuncId:=118
abbrev slices_Clone_Column:FuncId:=119
abbrev scope_inside:FuncId:=120
abbrev scope_Formed:FuncId:=121
abbrev scope_Resolve:FuncId:=122
abbrev scope_aggregate:FuncId:=123
abbrev scope_operation:FuncId:=124
abbrev ref4_ValidName:FuncId:=125
abbrev ref1_Valid:FuncId:=129
abbrev evaluate_aggregate:FuncId:=130
abbrev evaluate_operation:FuncId:=131
abbrev evaluate_selected:FuncId:=132
abbrev evaluate_Rows_c1:FuncId:=133
abbrev slices_IndexFunc_Value:FuncId:=134
abbrev value_Valid:FuncId:=135
abbrev value_Truth:FuncId:=136
abbrev strings_Compare:FuncId:=137
abbrev cmp_isNaN_int:FuncId:=143
abbrev slices_ContainsFunc_Expr:FuncId:=144
abbrev syntax_validRows_c1:FuncId:=145
abbrev syntax_validExprs:FuncId:=146
abbrev syntax_source:FuncId:=147
abbrev syntax_ValidExpr:FuncId:=148
abbrev syntax_names:FuncId:=149
abbrev scope_all:FuncId:=150
abbrev ref4_Letter:FuncId:=151
abbrev ref4_Digit:FuncId:=152
abbrev evaluate_aggregate_c1:FuncId:=155
abbrev evaluate_isNull:FuncId:=156
abbrev value_Number:FuncId:=157
abbrev evaluate_sum:FuncId:=158
abbrev slices_MinFunc_Value:FuncId:=159
abbrev value_Compare:FuncId:=160
abbrev slices_MaxFunc_Value:FuncId:=161
abbrev evaluate_truth:FuncId:=162
abbrev logic_Not:FuncId:=163
abbrev evaluate_between:FuncId:=164
abbrev evaluate_arithmetic:FuncId:=165
abbrev logic_And:FuncId:=166
abbrev logic_Or:FuncId:=167
abbrev evaluate_comparison:FuncId:=168
abbrev evaluate_find:FuncId:=169
abbrev evaluate_inside:FuncId:=170
abbrev value_plain:FuncId:=171
abbrev internal_bytealg_CompareString:FuncId:=172
abbrev slices_IndexFunc_Expr:FuncId:=174
abbrev slices_ContainsFunc_Expr_175:FuncId:=175
abbrev syntax_validExprs_c1:FuncId:=176
abbrev syntax_bare:FuncId:=177
abbrev syntax_column:FuncId:=178
abbrev syntax_inner:FuncId:=179
abbrev syntax_arguments:FuncId:=180
abbrev slices_Contains_string:FuncId:=181
abbrev slices_ContainsFunc_int:FuncId:=182
abbrev scope_all_c1:FuncId:=183
abbrev arith_Sum:FuncId:=186
abbrev cmp_Or_int:FuncId:=187
abbrev cmp_Compare_int:FuncId:=188
abbrev cmp_Compare_int64:FuncId:=189
abbrev cmp_Compare_string:FuncId:=190
abbrev arith_Add:FuncId:=191
abbrev arith_Subtract:FuncId:=192
abbrev arith_Multiply:FuncId:=193
abbrev arith_Divide:FuncId:=194
abbrev arith_Modulo:FuncId:=195
abbrev logic_and:FuncId:=196
abbrev evaluate_find_c1:FuncId:=197
abbrev internal_bytealg_abigen_runtime_cmpstring:FuncId:=198
abbrev slices_IndexFunc_Expr_199:FuncId:=199
abbrev slices_Index_string:FuncId:=200
abbrev slices_IndexFunc_int:FuncId:=201
abbrev math_bits_Add64:FuncId:=202
abbrev cmp_isNaN_int64:FuncId:=203
abbrev cmp_isNaN_string:FuncId:=204
abbrev g_world_words:Nat:=0
end S
namespace Ty
abbrev int64:TypeId:=2
abbrev int:TypeId:=3
abbrev bool:TypeId:=4
abbrev string:TypeId:=9
abbrev LExpr:TypeId:=30
abbrev Table:TypeId:=53
abbrev LValue:TypeId:=61
abbrev Frame:TypeId:=63
abbrev Value:TypeId:=65
abbrev Expr:TypeId:=67
abbrev Set:TypeId:=72
abbrev Pair:TypeId:=76
abbrev Row:TypeId:=82
abbrev Column:TypeId:=93
abbrev M_int_bool:TypeId:=126
abbrev M_Value_bool:TypeId:=155
end Ty
def tabA:List TI:=[
 ⟨.scalar,0,0,[]⟩,
 ⟨.scalar,0,0,[]⟩,
 ⟨.int .i64,1,8,[(.v (.int .i64 0))]⟩,
 ⟨.int .i64,1,8,[(.v (.int .i64 0))]⟩,
 ⟨.bool,1,1,[.bl false]⟩,
 ⟨.int .u8,1,1,[(.v (.int .u8 0))]⟩,
 ⟨.int .u8,1,1,[(.v (.int .u8 0))]⟩,
 ⟨.struct [0,1,2,3],4,24,[(.v (.int .i64 0)),(.v (.int .i64 0)),.bl false,(.v (.int .u8 0))]⟩,
 ⟨.struct [0,1,2,3],4,24,[(.v (.int .i64 0)),(.v (.int .i64 0)),.bl false,(.v (.int .u8 0))]⟩,
 ⟨.str,1,16,[.v (.string ⟨#[]⟩)]⟩,
 ⟨.str,1,16,[.v (.string ⟨#[]⟩)]⟩,
 ⟨.str,1,16,[.v (.string ⟨#[]⟩)]⟩,
 ⟨.int .u64,1,8,[(.v (.int .u64 0))]⟩,
 ⟨.struct [0,1],2,24,[.v (.string ⟨#[]⟩),(.v (.int .u64 0))]⟩,
 ⟨.struct [0,1],2,24,[.v (.string ⟨#[]⟩),(.v (.int .u64 0))]⟩,
 ⟨.scalar,1,8,[.v (.pointer none)]⟩,
 ⟨.scalar,1,8,[.v (.pointer none)]⟩,
 ⟨.scalar,1,8,[.v (.pointer none)]⟩,
 ⟨.struct [0],1,8,[.v (.pointer none)]⟩,
 ⟨.struct [0],1,8,[.v (.pointer none)]⟩,
 ⟨.scalar,1,16,[.v .nilIface]⟩,
 ⟨.int .i32,1,4,[(.v (.int .i32 0))]⟩,
 ⟨.slice 3,1,24,[.nl]⟩,
 ⟨.scalar,1,8,[.v (.pointer none)]⟩,
 ⟨.scalar,0,0,[]⟩,
 ⟨.slice 53,1,24,[.nl]⟩,
 ⟨.scalar,0,0,[]⟩,
 ⟨.slice 30,1,24,[.nl]⟩,
 ⟨.slice 90,1,24,[.nl]⟩,
 ⟨.slice 72,1,24,[.nl]⟩,
 ⟨.slice 67,1,24,[.nl]⟩,
 ⟨.struct [0,1,2,3,4,5,6],7,136,[(.v (.int .i64 0)),.v (.string ⟨#[]⟩),.nl,.nl,.nl,.nl,.v (.string ⟨#[]⟩)]⟩,
 ⟨.struct [0,1,2,3,4,5,6],7,136,[(.v (.int .i64 0)),.v (.string ⟨#[]⟩),.nl,.nl,.nl,.nl,.v (.string ⟨#[]⟩)]⟩,
 ⟨.scalar,0,0,[]⟩,
 ⟨.slice 63,1,24,[.nl]⟩,
 ⟨.slice 50,1,24,[.nl]⟩,
 ⟨.struct [0,1],2,48,[.nl,.nl]⟩,
 ⟨.struct [0,1],2,48,[.nl,.nl]⟩,
 ⟨.scalar,0,0,[]⟩,
 ⟨.int .i64,1,8,[(.v (.int .i64 0))]⟩,
 ⟨.scalar,0,0,[]⟩,
 ⟨.scalar,0,0,[]⟩,
 ⟨.slice 61,1,24,[.nl]⟩,
 ⟨.slice 76,1,24,[.nl]⟩,
 ⟨.struct [0,1,2],3,72,[.nl,.nl,.nl]⟩,
 ⟨.struct [0,1,2],3,72,[.nl,.nl,.nl]⟩,
 ⟨.scalar,0,0,[]⟩,
 ⟨.scalar,0,0,[]⟩,
 ⟨.slice 93,1,24,[.nl]⟩,
 ⟨.struct [0,1],2,40,[.v (.string ⟨#[]⟩),.nl]⟩,
 ⟨.struct [0,1],2,40,[.v (.string ⟨#[]⟩),.nl]⟩,
 ⟨.slice 82,1,24,[.nl]⟩,
 ⟨.struct [0,2,3],4,72,[.v (.string ⟨#[]⟩),.nl,(.v (.int .i64 0)),.nl]⟩,
 ⟨.struct [0,2,3],4,72,[.v (.string ⟨#[]⟩),.nl,(.v (.int .i64 0)),.nl]⟩,
 ⟨.scalar,0,0,[]⟩,
 ⟨.scalar,0,0,[]⟩,
 ⟨.scalar,0,0,[]⟩,
 ⟨.scalar,0,0,[]⟩,
 ⟨.scalar,0,0,[]⟩,
 ⟨.scalar,0,0,[]⟩,
 ⟨.scalar,0,0,[]⟩,
 ⟨.slice 65,1,24,[.nl]⟩,
 ⟨.struct [0,1,2,3],4,72,[.v (.string ⟨#[]⟩),.bl false,.nl,.nl]⟩,
 ⟨.struct [0,1,2,3],4,72,[.v (.string ⟨#[]⟩),.bl false,.nl,.nl]⟩,
 ⟨.struct [0,1,2],3,32,[(.v (.int .i64 0)),(.v (.int .i64 0)),.v (.string ⟨#[]⟩)]⟩,
 ⟨.struct [0,1,2],3,32,[(.v (.int .i64 0)),(.v (.int .i64 0)),.v (.string ⟨#[]⟩)]⟩,
 ⟨.struct [0,1,2,3,6,7,8,9],10,136,[(.v (.int .i64 0)),(.v (.int .i64 0)),.bl false,(.v (.int .i64 0)),(.v (.int .i64 0)),.v (.string ⟨#[]⟩),.v (.string ⟨#[]⟩),.v (.string ⟨#[]⟩),.nl,.nl]⟩,
 ⟨.struct [0,1,2,3,6,7,8,9],10,136,[(.v (.int .i64 0)),(.v (.int .i64 0)),.bl false,(.v (.int .i64 0)),(.v (.int .i64 0)),.v (.string ⟨#[]⟩),.v (.string ⟨#[]⟩),.v (.string ⟨#[]⟩),.nl,.nl]⟩,
 ⟨.scalar,0,0,[]⟩,
 ⟨.scalar,0,0,[]⟩,
 ⟨.scalar,0,0,[]⟩,
 ⟨.struct [0,1],11,152,[.v (.string ⟨#[]⟩),(.v (.int .i64 0)),(.v (.int .i64 0)),.bl false,(.v (.int .i64 0)),(.v (.int .i64 0)),.v (.string ⟨#[]⟩),.v (.string ⟨#[]⟩),.v (.string ⟨#[]⟩),.nl,.nl]⟩,
 ⟨.struct [0,1],11,152,[.v (.string ⟨#[]⟩),(.v (.int .i64 0)),(.v (.int .i64 0)),.bl false,(.v (.int .i64 0)),(.v (.int .i64 0)),.v (.string ⟨#[]⟩),.v (.string ⟨#[]⟩),.v (.string ⟨#[]⟩),.nl,.nl]⟩,
 ⟨.slice 32,1,24,[.nl]⟩,
 ⟨.scalar,0,0,[]⟩,
 ⟨.struct [0,1,2],3,56,[(.v (.int .i64 0)),.nl,.nl]⟩,
 ⟨.struct [0,1,2],3,56,[(.v (.int .i64 0)),.nl,.nl]⟩,
 ⟨.scalar,0,0,[]⟩,
 ⟨.scalar,0,0,[]⟩,
 ⟨.scalar,0,0,[]⟩,
 ⟨.scalar,0,0,[]⟩,
 ⟨.struct [0,1],2,32,[(.v (.int .i64 0)),.nl]⟩,
 ⟨.struct [0,1],2,32,[(.v (.int .i64 0)),.nl]⟩,
 ⟨.struct [0,1],2,32,[.nl,(.v (.int .i64 0))]⟩,
 ⟨.struct [0,1],2,32,[.nl,(.v (.int .i64 0))]⟩,
 ⟨.scalar,0,0,[]⟩,
 ⟨.scalar,0,0,[]⟩,
 ⟨.scalar,0,0,[]⟩,
 ⟨.scalar,0,0,[]⟩,
 ⟨.struct [0,1,2,3],4,72,[.bl false,.nl,.v (.string ⟨#[]⟩),.nl]⟩,
 ⟨.struct [0,1,2,3],4,72,[.bl false,.nl,.v (.string ⟨#[]⟩),.nl]⟩,
 ⟨.scalar,0,0,[]⟩,
 ⟨.struct [0,1,2,3],4,32,[.v (.string ⟨#[]⟩),(.v (.int .i64 0)),.bl false,.bl false]⟩,
 ⟨.struct [0,1,2,3],4,32,[.v (.string ⟨#[]⟩),(.v (.int .i64 0)),.bl false,.bl false]⟩,
 ⟨.scalar,0,0,[]⟩,
 ⟨.scalar,0,0,[]⟩,
 ⟨.scalar,0,0,[]⟩,
 ⟨.scalar,0,0,[]⟩,
 ⟨.scalar,0,0,[]⟩,
 ⟨.scalar,0,0,[]⟩,
 ⟨.scalar,0,0,[]⟩,
 ⟨.scalar,0,0,[]⟩,
 ⟨.scalar,0,0,[]⟩,
 ⟨.scalar,0,0,[]⟩,
 ⟨.scalar,0,0,[]⟩,
 ⟨.scalar,0,0,[]⟩,
 ⟨.scalar,0,0,[]⟩,
 ⟨.scalar,0,0,[]⟩,
 ⟨.scalar,0,0,[]⟩,
 ⟨.scalar,0,0,[]⟩,
 ⟨.scalar,0,0,[]⟩,
 ⟨.scalar,0,0,[]⟩,
 ⟨.scalar,0,0,[]⟩,
 ⟨.scalar,0,0,[]⟩,
 ⟨.scalar,0,0,[]⟩,
 ⟨.scalar,0,0,[]⟩,
 ⟨.scalar,0,0,[]⟩,
 ⟨.scalar,0,0,[]⟩,
 ⟨.scalar,0,0,[]⟩,
 ⟨.scalar,0,0,[]⟩,
 ⟨.scalar,0,0,[]⟩,
 ⟨.scalar,0,0,[]⟩,
 ⟨.scalar,0,0,[]⟩,
 ⟨.scalar,0,0,[]⟩,
 ⟨.scalar,0,0,[]⟩,
 ⟨.scalar,0,0,[]⟩,
 ⟨.map 3 4,1,8,[.v (.map none)]⟩,
 ⟨.scalar,0,0,[]⟩,
 ⟨.scalar,0,0,[]⟩,
 ⟨.slice 9,1,24,[.nl]⟩,
 ⟨.scalar,0,0,[]⟩,
 ⟨.scalar,0,0,[]⟩,
 ⟨.scalar,0,0,[]⟩,
 ⟨.scalar,0,0,[]⟩,
 ⟨.scalar,0,0,[]⟩,
 ⟨.int .u64,1,8,[(.v (.int .u64 0))]⟩,
 ⟨.scalar,0,0,[]⟩,
 ⟨.scalar,0,0,[]⟩,
 ⟨.scalar,0,0,[]⟩,
 ⟨.scalar,0,0,[]⟩,
 ⟨.scalar,0,0,[]⟩,
 ⟨.scalar,0,0,[]⟩,
 ⟨.scalar,0,0,[]⟩,
 ⟨.scalar,0,0,[]⟩,
 ⟨.scalar,0,0,[]⟩,
 ⟨.scalar,0,0,[]⟩,
 ⟨.scalar,0,0,[]⟩,
 ⟨.scalar,0,0,[]⟩,
 ⟨.scalar,0,0,[]⟩,
 ⟨.scalar,0,0,[]⟩,
 ⟨.scalar,0,0,[]⟩,
 ⟨.scalar,0,0,[]⟩,
 ⟨.scalar,0,0,[]⟩,
 ⟨.scalar,0,0,[]⟩,
 ⟨.scalar,0,0,[]⟩,
 ⟨.map 65 4,1,8,[.v (.map none)]⟩,
 ⟨.scalar,0,0,[]⟩,
 ⟨.scalar,0,0,[]⟩,
 ⟨.scalar,0,0,[]⟩,
 ⟨.int .i64,1,8,[(.v (.int .i64 0))]⟩,
 ⟨.scalar,0,0,[]⟩,
 ⟨.scalar,0,0,[]⟩,
 ⟨.scalar,0,0,[]⟩,
 ⟨.scalar,0,0,[]⟩,
 ⟨.scalar,0,0,[]⟩,
 ⟨.scalar,0,0,[]⟩,
 ⟨.scalar,0,0,[]⟩,
 ⟨.int .u32,1,4,[(.v (.int .u32 0))]⟩,
 ⟨.scalar,0,0,[]⟩,
 ⟨.int .u64,1,8,[(.v (.int .u64 0))]⟩,
 ⟨.array 6 9,6,96,[.v (.string ⟨#[]⟩),.v (.string ⟨#[]⟩),.v (.string ⟨#[]⟩),.v (.string ⟨#[]⟩),.v (.string ⟨#[]⟩),.v (.string ⟨#[]⟩)]⟩,
 ⟨.scalar,0,0,[]⟩,
 ⟨.scalar,0,0,[]⟩,
 ⟨.scalar,0,0,[]⟩,
 ⟨.scalar,0,0,[]⟩,
 ⟨.scalar,0,0,[]⟩,
 ⟨.scalar,0,0,[]⟩,
 ⟨.scalar,0,0,[]⟩,
 ⟨.scalar,0,0,[]⟩,
 ⟨.scalar,0,0,[]⟩,
 ⟨.scalar,0,0,[]⟩,
 ⟨.scalar,0,0,[]⟩,
 ⟨.scalar,0,0,[]⟩,
 ⟨.scalar,0,0,[]⟩,
 ⟨.scalar,0,0,[]⟩,
 ⟨.scalar,0,0,[]⟩,
 ⟨.int .u64,1,8,[(.v (.int .u64 0))]⟩,
 ⟨.scalar,0,0,[]⟩,
 ⟨.scalar,0,0,[]⟩,
 ⟨.scalar,0,0,[]⟩,
 ⟨.scalar,1,8,[.v (.pointer none)]⟩,
 ⟨.scalar,0,0,[]⟩,
 ⟨.slice 5,1,24,[.nl]⟩,
 ⟨.scalar,0,0,[]⟩,
 ⟨.scalar,0,0,[]⟩,
 ⟨.scalar,0,0,[]⟩,
 ⟨.scalar,0,0,[]⟩,
 ⟨.scalar,0,0,[]⟩,
 ⟨.scalar,0,0,[]⟩,
 ⟨.scalar,0,0,[]⟩,
 ⟨.scalar,0,0,[]⟩,
 ⟨.scalar,0,0,[]⟩,
 ⟨.scalar,0,0,[]⟩,
 ⟨.scalar,0,0,[]⟩,
 ⟨.scalar,0,0,[]⟩,
 ⟨.scalar,1,8,[.v (.pointer none)]⟩,
 ⟨.scalar,0,0,[]⟩,
 ⟨.scalar,0,0,[]⟩,
 ⟨.scalar,0,0,[]⟩,
 ⟨.scalar,0,0,[]⟩,
 ⟨.scalar,0,0,[]⟩,
 ⟨.scalar,0,0,[]⟩,
 ⟨.scalar,0,0,[]⟩,
 ⟨.slice 2,1,24,[.nl]⟩,
 ⟨.scalar,0,0,[]⟩,
 ⟨.scalar,0,0,[]⟩,
 ⟨.scalar,0,0,[]⟩,
 ⟨.scalar,0,0,[]⟩,
 ⟨.scalar,0,0,[]⟩,
 ⟨.scalar,0,0,[]⟩,
 ⟨.array 9 4,9,9,[.bl false,.bl false,.bl false,.bl false,.bl false,.bl false,.bl false,.bl false,.bl false]⟩,
 ⟨.scalar,0,0,[]⟩,
 ⟨.scalar,0,0,[]⟩,
 ⟨.scalar,0,0,[]⟩,
 ⟨.scalar,0,0,[]⟩,
 ⟨.scalar,0,0,[]⟩,
 ⟨.scalar,0,0,[]⟩,
 ⟨.struct [0,1,2,3],4,40,[.v (.pointer none),.v (.pointer none),.v (.pointer none),.v (.string ⟨#[]⟩)]⟩,
 ⟨.struct [0,1,2,3],4,40,[.v (.pointer none),.v (.pointer none),.v (.pointer none),.v (.string ⟨#[]⟩)]⟩,
 ⟨.scalar,0,0,[]⟩,
 ⟨.scalar,0,0,[]⟩,
 ⟨.scalar,0,0,[]⟩,
 ⟨.scalar,0,0,[]⟩,
 ⟨.int .u8,1,1,[(.v (.int .u8 0))]⟩,
 ⟨.int .u8,1,1,[(.v (.int .u8 0))]⟩,
 ⟨.scalar,0,0,[]⟩,
 ⟨.scalar,1,8,[.v (.pointer none)]⟩,
 ⟨.int .i32,1,4,[(.v (.int .i32 0))]⟩,
 ⟨.int .i32,1,4,[(.v (.int .i32 0))]⟩,
 ⟨.struct [0,1,2,3,4,5,6,7,8,9,10],11,48,[(.v (.int .u64 0)),(.v (.int .u64 0)),(.v (.int .u32 0)),(.v (.int .u8 0)),(.v (.int .u8 0)),(.v (.int .u8 0)),(.v (.int .u8 0)),.v .nilFunc,.v (.pointer none),(.v (.int .i32 0)),(.v (.int .i32 0))]⟩,
 ⟨.struct [0,1,2,3,4,5,6,7,8,9,10],11,48,[(.v (.int .u64 0)),(.v (.int .u64 0)),(.v (.int .u32 0)),(.v (.int .u8 0)),(.v (.int .u8 0)),(.v (.int .u8 0)),(.v (.int .u8 0)),.v .nilFunc,.v (.pointer none),(.v (.int .i32 0)),(.v (.int .i32 0))]⟩,
 ⟨.scalar,0,0,[]⟩]
theorem zu8:zj6 Proofs.Tryz.prog tabA tabA.length=true:=by kernel_rfl
theorem mix_ok:Proofs.Tryz.prog.follows .mixedOrders=true:=by kernel_rfl
namespace B
noncomputable abbrev law16_DmlChecked:Func:=Proofs.Tryz.f3
noncomputable abbrev world_New:Func:=Proofs.Tryz.f6
noncomputable abbrev world_Tape_Store:Func:=Proofs.Tryz.f7
noncomputable abbrev world_Tape_Change:Func:=Proofs.Tryz.f8
noncomputable abbrev world_Home:Func:=Proofs.Tryz.f9
noncomputable abbrev dml_Check:Func:=Proofs.Tryz.f10
noncomputable abbrev law16_known:Func:=Proofs.Tryz.f12
noncomputable abbrev dml_Candidates:Func:=Proofs.Tryz.f13
noncomputable abbrev ref9_Find:Func:=Proofs.Tryz.f14
noncomputable abbrev ref7_Apply:Func:=Proofs.Tryz.f15
noncomputable abbrev ref7_Valid:Func:=Proofs.Tryz.f16
noncomputable abbrev world_Tape_Table:Func:=Proofs.Tryz.f17
noncomputable abbrev world_Schema:Func:=Proofs.Tryz.f18
noncomputable abbrev world_Tape_Expr:Func:=Proofs.Tryz.f19
noncomputable abbrev world_Num:Func:=Proofs.Tryz.f20
noncomputable abbrev world_Tape_Small:Func:=Proofs.Tryz.f21
noncomputable abbrev slices_Equal_Value:Func:=Proofs.Tryz.f23
noncomputable abbrev world_Schemas:Func:=Proofs.Tryz.f24
noncomputable abbrev world_Tape_TableOf:Func:=Proofs.Tryz.f27
noncomputable abbrev world_Inside:Func:=Proofs.Tryz.f28
noncomputable abbrev world_Tape_Next:Func:=Proofs.Tryz.f29
noncomputable abbrev world_Tape_Bool:Func:=Proofs.Tryz.f30
noncomputable abbrev world_Tape_copies:Func:=Proofs.Tryz.f31
noncomputable abbrev world_Lit:Func:=Proofs.Tryz.f32
noncomputable abbrev world_Tape_Typed:Func:=Proofs.Tryz.f33
noncomputable abbrev world_Bin:Func:=Proofs.Tryz.f34
noncomputable abbrev world_Col:Func:=Proofs.Tryz.f35
noncomputable abbrev dml_target:Func:=Proofs.Tryz.f36
noncomputable abbrev dml_checkInsert:Func:=Proofs.Tryz.f37
noncomputable abbrev dml_inside:Func:=Proofs.Tryz.f38
noncomputable abbrev schema_Find:Func:=Proofs.Tryz.f39
noncomputable abbrev dml_assign:Func:=Proofs.Tryz.f40
noncomputable abbrev scope_Condition:Func:=Proofs.Tryz.f41
noncomputable abbrev ref4_Find:Func:=Proofs.Tryz.f46
noncomputable abbrev ref1_Number:Func:=Proofs.Tryz.f50
noncomputable abbrev dml_inserted:Func:=Proofs.Tryz.f51
noncomputable abbrev slices_IndexFunc_Table:Func:=Proofs.Tryz.f52
noncomputable abbrev dml_Candidates_c1:Func:=Proofs.Tryz.f53
noncomputable abbrev evaluate_True:Func:=Proofs.Tryz.f54
noncomputable abbrev dml_assigned:Func:=Proofs.Tryz.f55
noncomputable abbrev slices_Clone_Value:Func:=Proofs.Tryz.f56
noncomputable abbrev ref5_Fits:Func:=Proofs.Tryz.f57
noncomputable abbrev ref6_Copy:Func:=Proofs.Tryz.f58
noncomputable abbrev ref7_has:Func:=Proofs.Tryz.f59
noncomputable abbrev ref7_find:Func:=Proofs.Tryz.f60
noncomputable abbrev ref5_Copy:Func:=Proofs.Tryz.f61
noncomputable abbrev ref6_Duplicate:Func:=Proofs.Tryz.f62
noncomputable abbrev ref6_Valid:Func:=Proofs.Tryz.f63
noncomputable abbrev ref6_Get:Func:=Proofs.Tryz.f64
noncomputable abbrev ref1_CompareRows:Func:=Proofs.Tryz.f65
noncomputable abbrev world_Tape_column:Func:=Proofs.Tryz.f66
noncomputable abbrev world_Tape_query:Func:=Proofs.Tryz.f67
noncomputable abbrev world_Tape_condition:Func:=Proofs.Tryz.f68
noncomputable abbrev world_Tape_Row:Func:=Proofs.Tryz.f71
noncomputable abbrev world_Mod:Func:=Proofs.Tryz.f72
noncomputable abbrev world_Tape_Number:Func:=Proofs.Tryz.f73
noncomputable abbrev world_Tape_Word:Func:=Proofs.Tryz.f74
noncomputable abbrev syntax_ValidAction:Func:=Proofs.Tryz.f75
noncomputable abbrev scope_Source:Func:=Proofs.Tryz.f76
noncomputable abbrev scope_Types:Func:=Proofs.Tryz.f77
noncomputable abbrev scope_Assignable:Func:=Proofs.Tryz.f78
noncomputable abbrev slices_Clone_Frame:Func:=Proofs.Tryz.f79
noncomputable abbrev slices_IndexFunc_Column:Func:=Proofs.Tryz.f80
noncomputable abbrev schema_Find_c1:Func:=Proofs.Tryz.f81
noncomputable abbrev scope_Type:Func:=Proofs.Tryz.f82
noncomputable abbrev scope_fits:Func:=Proofs.Tryz.f83
noncomputable abbrev evaluate_Value:Func:=Proofs.Tryz.f91
noncomputable abbrev evaluate_Rows:Func:=Proofs.Tryz.f92
noncomputable abbrev slices_ContainsFunc_Value:Func:=Proofs.Tryz.f93
noncomputable abbrev dml_inserted_c1:Func:=Proofs.Tryz.f94
noncomputable abbrev logic_Valid:Func:=Proofs.Tryz.f95
noncomputable abbrev logic_IsTrue:Func:=Proofs.Tryz.f96
noncomputable abbrev ref4_Fits:Func:=Proofs.Tryz.f97
noncomputable abbrev ref4_KeyColumn:Func:=Proofs.Tryz.f98
noncomputable abbrev ref4_Valid:Func:=Proofs.Tryz.f99
noncomputable abbrev ref1_Compare:Func:=Proofs.Tryz.f100
noncomputable abbrev schema_ValidName:Func:=Proofs.Tryz.f112
noncomputable abbrev syntax_validRows:Func:=Proofs.Tryz.f113
noncomputable abbrev syntax_ValidQuery:Func:=Proofs.Tryz.f114
noncomputable abbrev syntax_validSets:Func:=Proofs.Tryz.f115
noncomputable abbrev syntax_condition:Func:=Proofs.Tryz.f116
noncomputable abbrev scope_Source_c1:Func:=Proofs.Tryz.f118
noncomputable abbrev slices_Clone_Column:Func:=Proofs.Tryz.f119
noncomputable abbrev scope_inside:Func:=Proofs.Tryz.f120
noncomputable abbrev scope_Formed:Func:=Proofs.Tryz.f121
noncomputable abbrev scope_Resolve:Func:=Proofs.Tryz.f122
noncomputable abbrev scope_aggregate:Func:=Proofs.Tryz.f123
noncomputable abbrev scope_operation:Func:=Proofs.Tryz.f124
noncomputable abbrev ref4_ValidName:Func:=Proofs.Tryz.f125
noncomputable abbrev ref1_Valid:Func:=Proofs.Tryz.f129
noncomputable abbrev evaluate_aggregate:Func:=Proofs.Tryz.f130
noncomputable abbrev evaluate_operation:Func:=Proofs.Tryz.f131
noncomputable abbrev evaluate_selected:Func:=Proofs.Tryz.f132
noncomputable abbrev evaluate_Rows_c1:Func:=Proofs.Tryz.f133
noncomputable abbrev slices_IndexFunc_Value:Func:=Proofs.Tryz.f134
noncomputable abbrev value_Valid:Func:=Proofs.Tryz.f135
noncomputable abbrev value_Truth:Func:=Proofs.Tryz.f136
noncomputable abbrev strings_Compare:Func:=Proofs.Tryz.f137
noncomputable abbrev cmp_isNaN_int:Func:=Proofs.Tryz.f143
noncomputable abbrev slices_ContainsFunc_Expr:Func:=Proofs.Tryz.f144
noncomputable abbrev syntax_validRows_c1:Func:=Proofs.Tryz.f145
noncomputable abbrev syntax_validExprs:Func:=Proofs.Tryz.f146
noncomputable abbrev syntax_source:Func:=Proofs.Tryz.f147
noncomputable abbrev syntax_ValidExpr:Func:=Proofs.Tryz.f148
noncomputable abbrev syntax_names:Func:=Proofs.Tryz.f149
noncomputable abbrev scope_all:Func:=Proofs.Tryz.f150
noncomputable abbrev ref4_Letter:Func:=Proofs.Tryz.f151
noncomputable abbrev ref4_Digit:Func:=Proofs.Tryz.f152
noncomputable abbrev evaluate_aggregate_c1:Func:=Proofs.Tryz.f155
noncomputable abbrev evaluate_isNull:Func:=Proofs.Tryz.f156
noncomputable abbrev value_Number:Func:=Proofs.Tryz.f157
noncomputable abbrev evaluate_sum:Func:=Proofs.Tryz.f158
noncomputable abbrev slices_MinFunc_Value:Func:=Proofs.Tryz.f159
noncomputable abbrev value_Compare:Func:=Proofs.Tryz.f160
noncomputable abbrev slices_MaxFunc_Value:Func:=Proofs.Tryz.f161
noncomputable abbrev evaluate_truth:Func:=Proofs.Tryz.f162
noncomputable abbrev logic_Not:Func:=Proofs.Tryz.f163
noncomputable abbrev evaluate_between:Func:=Proofs.Tryz.f164
noncomputable abbrev evaluate_arithmetic:Func:=Proofs.Tryz.f165
noncomputable abbrev logic_And:Func:=Proofs.Tryz.f166
noncomputable abbrev logic_Or:Func:=Proofs.Tryz.f167
noncomputable abbrev evaluate_comparison:Func:=Proofs.Tryz.f168
noncomputable abbrev evaluate_find:Func:=Proofs.Tryz.f169
noncomputable abbrev evaluate_inside:Func:=Proofs.Tryz.f170
noncomputable abbrev value_plain:Func:=Proofs.Tryz.f171
noncomputable abbrev internal_bytealg_CompareString:Func:=Proofs.Tryz.f172
noncomputable abbrev slices_IndexFunc_Expr:Func:=Proofs.Tryz.f174
noncomputable abbrev slices_ContainsFunc_Expr_175:Func:=Proofs.Tryz.f175
noncomputable abbrev syntax_validExprs_c1:Func:=Proofs.Tryz.f176
noncomputable abbrev syntax_bare:Func:=Proofs.Tryz.f177
noncomputable abbrev syntax_column:Func:=Proofs.Tryz.f178
noncomputable abbrev syntax_inner:Func:=Proofs.Tryz.f179
noncomputable abbrev syntax_arguments:Func:=Proofs.Tryz.f180
noncomputable abbrev slices_Contains_string:Func:=Proofs.Tryz.f181
noncomputable abbrev slices_ContainsFunc_int:Func:=Proofs.Tryz.f182
noncomputable abbrev scope_all_c1:Func:=Proofs.Tryz.f183
noncomputable abbrev arith_Sum:Func:=Proofs.Tryz.f186
noncomputable abbrev cmp_Or_int:Func:=Proofs.Tryz.f187
noncomputable abbrev cmp_Compare_int:Func:=Proofs.Tryz.f188
noncomputable abbrev cmp_Compare_int64:Func:=Proofs.Tryz.f189
noncomputable abbrev cmp_Compare_string:Func:=Proofs.Tryz.f190
noncomputable abbrev arith_Add:Func:=Proofs.Tryz.f191
noncomputable abbrev arith_Subtract:Func:=Proofs.Tryz.f192
noncomputable abbrev arith_Multiply:Func:=Proofs.Tryz.f193
noncomputable abbrev arith_Divide:Func:=Proofs.Tryz.f194
noncomputable abbrev arith_Modulo:Func:=Proofs.Tryz.f195
noncomputable abbrev logic_and:Func:=Proofs.Tryz.f196
noncomputable abbrev evaluate_find_c1:Func:=Proofs.Tryz.f197
noncomputable abbrev internal_bytealg_abigen_runtime_cmpstring:Func:=Proofs.Tryz.f198
noncomputable abbrev slices_IndexFunc_Expr_199:Func:=Proofs.Tryz.f199
noncomputable abbrev slices_Index_string:Func:=Proofs.Tryz.f200
noncomputable abbrev slices_IndexFunc_int:Func:=Proofs.Tryz.f201
noncomputable abbrev math_bits_Add64:Func:=Proofs.Tryz.f202
noncomputable abbrev cmp_isNaN_int64:Func:=Proofs.Tryz.f203
noncomputable abbrev cmp_isNaN_string:Func:=Proofs.Tryz.f204
end B
namespace At
theorem law16_DmlChecked:Proofs.Tryz.prog.funcs[S.law16_DmlChecked]?=some B.law16_DmlChecked:=Proofs.Tryz.func3
theorem world_New:Proofs.Tryz.prog.funcs[S.world_New]?=some B.world_New:=Proofs.Tryz.func6
theorem world_Tape_Store:Proofs.Tryz.prog.funcs[S.world_Tape_Store]?=some B.world_Tape_Store:=Proofs.Tryz.func7
theorem world_Tape_Change:Proofs.Tryz.prog.funcs[S.world_Tape_Change]?=some B.world_Tape_Change:=Proofs.Tryz.func8
theorem world_Home:Proofs.Tryz.prog.funcs[S.world_Home]?=some B.world_Home:=Proofs.Tryz.func9
theorem dml_Check:Proofs.Tryz.prog.funcs[S.dml_Check]?=some B.dml_Check:=Proofs.Tryz.func10
theorem law16_known:Proofs.Tryz.prog.funcs[S.law16_known]?=some B.law16_known:=Proofs.Tryz.func12
theorem dml_Candidates:Proofs.Tryz.prog.funcs[S.dml_Candidates]?=some B.dml_Candidates:=Proofs.Tryz.func13
theorem ref9_Find:Proofs.Tryz.prog.funcs[S.ref9_Find]?=some B.ref9_Find:=Proofs.Tryz.func14
theorem ref7_Apply:Proofs.Tryz.prog.funcs[S.ref7_Apply]?=some B.ref7_Apply:=Proofs.Tryz.func15
theorem ref7_Valid:Proofs.Tryz.prog.funcs[S.ref7_Valid]?=some B.ref7_Valid:=Proofs.Tryz.func16
theorem world_Tape_Table:Proofs.Tryz.prog.funcs[S.world_Tape_Table]?=some B.world_Tape_Table:=Proofs.Tryz.func17
theorem world_Schema:Proofs.Tryz.prog.funcs[S.world_Schema]?=some B.world_Schema:=Proofs.Tryz.func18
theorem world_Tape_Expr:Proofs.Tryz.prog.funcs[S.world_Tape_Expr]?=some B.world_Tape_Expr:=Proofs.Tryz.func19
theorem world_Num:Proofs.Tryz.prog.funcs[S.world_Num]?=some B.world_Num:=Proofs.Tryz.func20
theorem world_Tape_Small:Proofs.Tryz.prog.funcs[S.world_Tape_Small]?=some B.world_Tape_Small:=Proofs.Tryz.func21
theorem slices_Equal_Value:Proofs.Tryz.prog.funcs[S.slices_Equal_Value]?=some B.slices_Equal_Value:=Proofs.Tryz.func23
theorem world_Schemas:Proofs.Tryz.prog.funcs[S.world_Schemas]?=some B.world_Schemas:=Proofs.Tryz.func24
theorem world_Tape_TableOf:Proofs.Tryz.prog.funcs[S.world_Tape_TableOf]?=some B.world_Tape_TableOf:=Proofs.Tryz.func27
theorem world_Inside:Proofs.Tryz.prog.funcs[S.world_Inside]?=some B.world_Inside:=Proofs.Tryz.func28
theorem world_Tape_Next:Proofs.Tryz.prog.funcs[S.world_Tape_Next]?=some B.world_Tape_Next:=Proofs.Tryz.func29
theorem world_Tape_Bool:Proofs.Tryz.prog.funcs[S.world_Tape_Bool]?=some B.world_Tape_Bool:=Proofs.Tryz.func30
theorem world_Tape_copies:Proofs.Tryz.prog.funcs[S.world_Tape_copies]?=some B.world_Tape_copies:=Proofs.Tryz.func31
theorem world_Lit:Proofs.Tryz.prog.funcs[S.world_Lit]?=some B.world_Lit:=Proofs.Tryz.func32
theorem world_Tape_Typed:Proofs.Tryz.prog.funcs[S.world_Tape_Typed]?=some B.world_Tape_Typed:=Proofs.Tryz.func33
theorem world_Bin:Proofs.Tryz.prog.funcs[S.world_Bin]?=some B.world_Bin:=Proofs.Tryz.func34
theorem world_Col:Proofs.Tryz.prog.funcs[S.world_Col]?=some B.world_Col:=Proofs.Tryz.func35
theorem dml_target:Proofs.Tryz.prog.funcs[S.dml_target]?=some B.dml_target:=Proofs.Tryz.func36
theorem dml_checkInsert:Proofs.Tryz.prog.funcs[S.dml_checkInsert]?=some B.dml_checkInsert:=Proofs.Tryz.func37
theorem dml_inside:Proofs.Tryz.prog.funcs[S.dml_inside]?=some B.dml_inside:=Proofs.Tryz.func38
theorem schema_Find:Proofs.Tryz.prog.funcs[S.schema_Find]?=some B.schema_Find:=Proofs.Tryz.func39
theorem dml_assign:Proofs.Tryz.prog.funcs[S.dml_assign]?=some B.dml_assign:=Proofs.Tryz.func40
theorem scope_Condition:Proofs.Tryz.prog.funcs[S.scope_Condition]?=some B.scope_Condition:=Proofs.Tryz.func41
theorem ref4_Find:Proofs.Tryz.prog.funcs[S.ref4_Find]?=some B.ref4_Find:=Proofs.Tryz.func46
theorem ref1_Number:Proofs.Tryz.prog.funcs[S.ref1_Number]?=some B.ref1_Number:=Proofs.Tryz.func50
theorem dml_inserted:Proofs.Tryz.prog.funcs[S.dml_inserted]?=some B.dml_inserted:=Proofs.Tryz.func51
theorem slices_IndexFunc_Table:Proofs.Tryz.prog.funcs[S.slices_IndexFunc_Table]?=some B.slices_IndexFunc_Table:=Proofs.Tryz.func52
theorem dml_Candidates_c1:Proofs.Tryz.prog.funcs[S.dml_Candidates_c1]?=some B.dml_Candidates_c1:=Proofs.Tryz.func53
theorem evaluate_True:Proofs.Tryz.prog.funcs[S.evaluate_True]?=some B.evaluate_True:=Proofs.Tryz.func54
theorem dml_assigned:Proofs.Tryz.prog.funcs[S.dml_assigned]?=some B.dml_assigned:=Proofs.Tryz.func55
theorem slices_Clone_Value:Proofs.Tryz.prog.funcs[S.slices_Clone_Value]?=some B.slices_Clone_Value:=Proofs.Tryz.func56
theorem ref5_Fits:Proofs.Tryz.prog.funcs[S.ref5_Fits]?=some B.ref5_Fits:=Proofs.Tryz.func57
theorem ref6_Copy:Proofs.Tryz.prog.funcs[S.ref6_Copy]?=some B.ref6_Copy:=Proofs.Tryz.func58
theorem ref7_has:Proofs.Tryz.prog.funcs[S.ref7_has]?=some B.ref7_has:=Proofs.Tryz.func59
theorem ref7_find:Proofs.Tryz.prog.funcs[S.ref7_find]?=some B.ref7_find:=Proofs.Tryz.func60
theorem ref5_Copy:Proofs.Tryz.prog.funcs[S.ref5_Copy]?=some B.ref5_Copy:=Proofs.Tryz.func61
theorem ref6_Duplicate:Proofs.Tryz.prog.funcs[S.ref6_Duplicate]?=some B.ref6_Duplicate:=Proofs.Tryz.func62
theorem ref6_Valid:Proofs.Tryz.prog.funcs[S.ref6_Valid]?=some B.ref6_Valid:=Proofs.Tryz.func63
theorem ref6_Get:Proofs.Tryz.prog.funcs[S.ref6_Get]?=some B.ref6_Get:=Proofs.Tryz.func64
theorem ref1_CompareRows:Proofs.Tryz.prog.funcs[S.ref1_CompareRows]?=some B.ref1_CompareRows:=Proofs.Tryz.func65
theorem world_Tape_column:Proofs.Tryz.prog.funcs[S.world_Tape_column]?=some B.world_Tape_column:=Proofs.Tryz.func66
theorem world_Tape_query:Proofs.Tryz.prog.funcs[S.world_Tape_query]?=some B.world_Tape_query:=Proofs.Tryz.func67
theorem world_Tape_condition:Proofs.Tryz.prog.funcs[S.world_Tape_condition]?=some B.world_Tape_condition:=Proofs.Tryz.func68
theorem world_Tape_Row:Proofs.Tryz.prog.funcs[S.world_Tape_Row]?=some B.world_Tape_Row:=Proofs.Tryz.func71
theorem world_Mod:Proofs.Tryz.prog.funcs[S.world_Mod]?=some B.world_Mod:=Proofs.Tryz.func72
theorem world_Tape_Number:Proofs.Tryz.prog.funcs[S.world_Tape_Number]?=some B.world_Tape_Number:=Proofs.Tryz.func73
theorem world_Tape_Word:Proofs.Tryz.prog.funcs[S.world_Tape_Word]?=some B.world_Tape_Word:=Proofs.Tryz.func74
theorem syntax_ValidAction:Proofs.Tryz.prog.funcs[S.syntax_ValidAction]?=some B.syntax_ValidAction:=Proofs.Tryz.func75
theorem scope_Source:Proofs.Tryz.prog.funcs[S.scope_Source]?=some B.scope_Source:=Proofs.Tryz.func76
theorem scope_Types:Proofs.Tryz.prog.funcs[S.scope_Types]?=some B.scope_Types:=Proofs.Tryz.func77
theorem scope_Assignable:Proofs.Tryz.prog.funcs[S.scope_Assignable]?=some B.scope_Assignable:=Proofs.Tryz.func78
theorem slices_Clone_Frame:Proofs.Tryz.prog.funcs[S.slices_Clone_Frame]?=some B.slices_Clone_Frame:=Proofs.Tryz.func79
theorem slices_IndexFunc_Column:Proofs.Tryz.prog.funcs[S.slices_IndexFunc_Column]?=some B.slices_IndexFunc_Column:=Proofs.Tryz.func80
theorem schema_Find_c1:Proofs.Tryz.prog.funcs[S.schema_Find_c1]?=some B.schema_Find_c1:=Proofs.Tryz.func81
theorem scope_Type:Proofs.Tryz.prog.funcs[S.scope_Type]?=some B.scope_Type:=Proofs.Tryz.func82
theorem scope_fits:Proofs.Tryz.prog.funcs[S.scope_fits]?=some B.scope_fits:=Proofs.Tryz.func83
theorem evaluate_Value:Proofs.Tryz.prog.funcs[S.evaluate_Value]?=some B.evaluate_Value:=Proofs.Tryz.func91
theorem evaluate_Rows:Proofs.Tryz.prog.funcs[S.evaluate_Rows]?=some B.evaluate_Rows:=Proofs.Tryz.func92
theorem slices_ContainsFunc_Value:Proofs.Tryz.prog.funcs[S.slices_ContainsFunc_Value]?=some B.slices_ContainsFunc_Value:=Proofs.Tryz.func93
theorem dml_inserted_c1:Proofs.Tryz.prog.funcs[S.dml_inserted_c1]?=some B.dml_inserted_c1:=Proofs.Tryz.func94
theorem logic_Valid:Proofs.Tryz.prog.funcs[S.logic_Valid]?=some B.logic_Valid:=Proofs.Tryz.func95
theorem logic_IsTrue:Proofs.Tryz.prog.funcs[S.logic_IsTrue]?=some B.logic_IsTrue:=Proofs.Tryz.func96
theorem ref4_Fits:Proofs.Tryz.prog.funcs[S.ref4_Fits]?=some B.ref4_Fits:=Proofs.Tryz.func97
theorem ref4_KeyColumn:Proofs.Tryz.prog.funcs[S.ref4_KeyColumn]?=some B.ref4_KeyColumn:=Proofs.Tryz.func98
theorem ref4_Valid:Proofs.Tryz.prog.funcs[S.ref4_Valid]?=some B.ref4_Valid:=Proofs.Tryz.func99
theorem ref1_Compare:Proofs.Tryz.prog.funcs[S.ref1_Compare]?=some B.ref1_Compare:=Proofs.Tryz.func100
theorem schema_ValidName:Proofs.Tryz.prog.funcs[S.schema_ValidName]?=some B.schema_ValidName:=Proofs.Tryz.func112
theorem syntax_validRows:Proofs.Tryz.prog.funcs[S.syntax_validRows]?=some B.syntax_validRows:=Proofs.Tryz.func113
theorem syntax_ValidQuery:Proofs.Tryz.prog.funcs[S.syntax_ValidQuery]?=some B.syntax_ValidQuery:=Proofs.Tryz.func114
theorem syntax_validSets:Proofs.Tryz.prog.funcs[S.syntax_validSets]?=some B.syntax_validSets:=Proofs.Tryz.func115
theorem syntax_condition:Proofs.Tryz.prog.funcs[S.syntax_condition]?=some B.syntax_condition:=Proofs.Tryz.func116
theorem scope_Source_c1:Proofs.Tryz.prog.funcs[S.scope_Source_c1]?=some B.scope_Source_c1:=Proofs.Tryz.func118
theorem slices_Clone_Column:Proofs.Tryz.prog.funcs[S.slices_Clone_Column]?=some B.slices_Clone_Column:=Proofs.Tryz.func119
theorem scope_inside:Proofs.Tryz.prog.funcs[S.scope_inside]?=some B.scope_inside:=Proofs.Tryz.func120
theorem scope_Formed:Proofs.Tryz.prog.funcs[S.scope_Formed]?=some B.scope_Formed:=Proofs.Tryz.func121
theorem scope_Resolve:Proofs.Tryz.prog.funcs[S.scope_Resolve]?=some B.scope_Resolve:=Proofs.Tryz.func122
theorem scope_aggregate:Proofs.Tryz.prog.funcs[S.scope_aggregate]?=some B.scope_aggregate:=Proofs.Tryz.func123
theorem scope_operation:Proofs.Tryz.prog.funcs[S.scope_operation]?=some B.scope_operation:=Proofs.Tryz.func124
theorem ref4_ValidName:Proofs.Tryz.prog.funcs[S.ref4_ValidName]?=some B.ref4_ValidName:=Proofs.Tryz.func125
theorem ref1_Valid:Proofs.Tryz.prog.funcs[S.ref1_Valid]?=some B.ref1_Valid:=Proofs.Tryz.func129
theorem evaluate_aggregate:Proofs.Tryz.prog.funcs[S.evaluate_aggregate]?=some B.evaluate_aggregate:=Proofs.Tryz.func130
theorem evaluate_operation:Proofs.Tryz.prog.funcs[S.evaluate_operation]?=some B.evaluate_operation:=Proofs.Tryz.func131
theorem evaluate_selected:Proofs.Tryz.prog.funcs[S.evaluate_selected]?=some B.evaluate_selected:=Proofs.Tryz.func132
theorem evaluate_Rows_c1:Proofs.Tryz.prog.funcs[S.evaluate_Rows_c1]?=some B.evaluate_Rows_c1:=Proofs.Tryz.func133
theorem slices_IndexFunc_Value:Proofs.Tryz.prog.funcs[S.slices_IndexFunc_Value]?=some B.slices_IndexFunc_Value:=Proofs.Tryz.func134
theorem value_Valid:Proofs.Tryz.prog.funcs[S.value_Valid]?=some B.value_Valid:=Proofs.Tryz.func135
theorem value_Truth:Proofs.Tryz.prog.funcs[S.value_Truth]?=some B.value_Truth:=Proofs.Tryz.func136
theorem strings_Compare:Proofs.Tryz.prog.funcs[S.strings_Compare]?=some B.strings_Compare:=Proofs.Tryz.func137
theorem cmp_isNaN_int:Proofs.Tryz.prog.funcs[S.cmp_isNaN_int]?=some B.cmp_isNaN_int:=Proofs.Tryz.func143
theorem slices_ContainsFunc_Expr:Proofs.Tryz.prog.funcs[S.slices_ContainsFunc_Expr]?=some B.slices_ContainsFunc_Expr:=Proofs.Tryz.func144
theorem syntax_validRows_c1:Proofs.Tryz.prog.funcs[S.syntax_validRows_c1]?=some B.syntax_validRows_c1:=Proofs.Tryz.func145
theorem syntax_validExprs:Proofs.Tryz.prog.funcs[S.syntax_validExprs]?=some B.syntax_validExprs:=Proofs.Tryz.func146
theorem syntax_source:Proofs.Tryz.prog.funcs[S.syntax_source]?=some B.syntax_source:=Proofs.Tryz.func147
theorem syntax_ValidExpr:Proofs.Tryz.prog.funcs[S.syntax_ValidExpr]?=some B.syntax_ValidExpr:=Proofs.Tryz.func148
theorem syntax_names:Proofs.Tryz.prog.funcs[S.syntax_names]?=some B.syntax_names:=Proofs.Tryz.func149
theorem scope_all:Proofs.Tryz.prog.funcs[S.scope_all]?=some B.scope_all:=Proofs.Tryz.func150
theorem ref4_Letter:Proofs.Tryz.prog.funcs[S.ref4_Letter]?=some B.ref4_Letter:=Proofs.Tryz.func151
theorem ref4_Digit:Proofs.Tryz.prog.funcs[S.ref4_Digit]?=some B.ref4_Digit:=Proofs.Tryz.func152
theorem evaluate_aggregate_c1:Proofs.Tryz.prog.funcs[S.evaluate_aggregate_c1]?=some B.evaluate_aggregate_c1:=Proofs.Tryz.func155
theorem evaluate_isNull:Proofs.Tryz.prog.funcs[S.evaluate_isNull]?=some B.evaluate_isNull:=Proofs.Tryz.func156
theorem value_Number:Proofs.Tryz.prog.funcs[S.value_Number]?=some B.value_Number:=Proofs.Tryz.func157
theorem evaluate_sum:Proofs.Tryz.prog.funcs[S.evaluate_sum]?=some B.evaluate_sum:=Proofs.Tryz.func158
theorem slices_MinFunc_Value:Proofs.Tryz.prog.funcs[S.slices_MinFunc_Value]?=some B.slices_MinFunc_Value:=Proofs.Tryz.func159
theorem value_Compare:Proofs.Tryz.prog.funcs[S.value_Compare]?=some B.value_Compare:=Proofs.Tryz.func160
theorem slices_MaxFunc_Value:Proofs.Tryz.prog.funcs[S.slices_MaxFunc_Value]?=some B.slices_MaxFunc_Value:=Proofs.Tryz.func161
theorem evaluate_truth:Proofs.Tryz.prog.funcs[S.evaluate_truth]?=some B.evaluate_truth:=Proofs.Tryz.func162
theorem logic_Not:Proofs.Tryz.prog.funcs[S.logic_Not]?=some B.logic_Not:=Proofs.Tryz.func163
theorem evaluate_between:Proofs.Tryz.prog.funcs[S.evaluate_between]?=some B.evaluate_between:=Proofs.Tryz.func164
theorem evaluate_arithmetic:Proofs.Tryz.prog.funcs[S.evaluate_arithmetic]?=some B.evaluate_arithmetic:=Proofs.Tryz.func165
theorem logic_And:Proofs.Tryz.prog.funcs[S.logic_And]?=some B.logic_And:=Proofs.Tryz.func166
theorem logic_Or:Proofs.Tryz.prog.funcs[S.logic_Or]?=some B.logic_Or:=Proofs.Tryz.func167
theorem evaluate_comparison:Proofs.Tryz.prog.funcs[S.evaluate_comparison]?=some B.evaluate_comparison:=Proofs.Tryz.func168
theorem evaluate_find:Proofs.Tryz.prog.funcs[S.evaluate_find]?=some B.evaluate_find:=Proofs.Tryz.func169
theorem evaluate_inside:Proofs.Tryz.prog.funcs[S.evaluate_inside]?=some B.evaluate_inside:=Proofs.Tryz.func170
theorem value_plain:Proofs.Tryz.prog.funcs[S.value_plain]?=some B.value_plain:=Proofs.Tryz.func171
theorem internal_bytealg_CompareString:Proofs.Tryz.prog.funcs[S.internal_bytealg_CompareString]?=some B.internal_bytealg_CompareString:=Proofs.Tryz.func172
theorem slices_IndexFunc_Expr:Proofs.Tryz.prog.funcs[S.slices_IndexFunc_Expr]?=some B.slices_IndexFunc_Expr:=Proofs.Tryz.func174
theorem slices_ContainsFunc_Expr_175:Proofs.Tryz.prog.funcs[S.slices_ContainsFunc_Expr_175]?=some B.slices_ContainsFunc_Expr_175:=Proofs.Tryz.func175
theorem syntax_validExprs_c1:Proofs.Tryz.prog.funcs[S.syntax_validExprs_c1]?=some B.syntax_validExprs_c1:=Proofs.Tryz.func176
theorem syntax_bare:Proofs.Tryz.prog.funcs[S.syntax_bare]?=some B.syntax_bare:=Proofs.Tryz.func177
theorem syntax_column:Proofs.Tryz.prog.funcs[S.syntax_column]?=some B.syntax_column:=Proofs.Tryz.func178
theorem syntax_inner:Proofs.Tryz.prog.funcs[S.syntax_inner]?=some B.syntax_inner:=Proofs.Tryz.func179
theorem syntax_arguments:Proofs.Tryz.prog.funcs[S.syntax_arguments]?=some B.syntax_arguments:=Proofs.Tryz.func180
theorem slices_Contains_string:Proofs.Tryz.prog.funcs[S.slices_Contains_string]?=some B.slices_Contains_string:=Proofs.Tryz.func181
theorem slices_ContainsFunc_int:Proofs.Tryz.prog.funcs[S.slices_ContainsFunc_int]?=some B.slices_ContainsFunc_int:=Proofs.Tryz.func182
theorem scope_all_c1:Proofs.Tryz.prog.funcs[S.scope_all_c1]?=some B.scope_all_c1:=Proofs.Tryz.func183
theorem arith_Sum:Proofs.Tryz.prog.funcs[S.arith_Sum]?=some B.arith_Sum:=Proofs.Tryz.func186
theorem cmp_Or_int:Proofs.Tryz.prog.funcs[S.cmp_Or_int]?=some B.cmp_Or_int:=Proofs.Tryz.func187
theorem cmp_Compare_int:Proofs.Tryz.prog.funcs[S.cmp_Compare_int]?=some B.cmp_Compare_int:=Proofs.Tryz.func188
theorem cmp_Compare_int64:Proofs.Tryz.prog.funcs[S.cmp_Compare_int64]?=some B.cmp_Compare_int64:=Proofs.Tryz.func189
theorem cmp_Compare_string:Proofs.Tryz.prog.funcs[S.cmp_Compare_string]?=some B.cmp_Compare_string:=Proofs.Tryz.func190
theorem arith_Add:Proofs.Tryz.prog.funcs[S.arith_Add]?=some B.arith_Add:=Proofs.Tryz.func191
theorem arith_Subtract:Proofs.Tryz.prog.funcs[S.arith_Subtract]?=some B.arith_Subtract:=Proofs.Tryz.func192
theorem arith_Multiply:Proofs.Tryz.prog.funcs[S.arith_Multiply]?=some B.arith_Multiply:=Proofs.Tryz.func193
theorem arith_Divide:Proofs.Tryz.prog.funcs[S.arith_Divide]?=some B.arith_Divide:=Proofs.Tryz.func194
theorem arith_Modulo:Proofs.Tryz.prog.funcs[S.arith_Modulo]?=some B.arith_Modulo:=Proofs.Tryz.func195
theorem logic_and:Proofs.Tryz.prog.funcs[S.logic_and]?=some B.logic_and:=Proofs.Tryz.func196
theorem evaluate_find_c1:Proofs.Tryz.prog.funcs[S.evaluate_find_c1]?=some B.evaluate_find_c1:=Proofs.Tryz.func197
theorem internal_bytealg_abigen_runtime_cmpstring:Proofs.Tryz.prog.funcs[S.internal_bytealg_abigen_runtime_cmpstring]?=some B.internal_bytealg_abigen_runtime_cmpstring:=Proofs.Tryz.func198
theorem slices_IndexFunc_Expr_199:Proofs.Tryz.prog.funcs[S.slices_IndexFunc_Expr_199]?=some B.slices_IndexFunc_Expr_199:=Proofs.Tryz.func199
theorem slices_Index_string:Proofs.Tryz.prog.funcs[S.slices_Index_string]?=some B.slices_Index_string:=Proofs.Tryz.func200
theorem slices_IndexFunc_int:Proofs.Tryz.prog.funcs[S.slices_IndexFunc_int]?=some B.slices_IndexFunc_int:=Proofs.Tryz.func201
theorem math_bits_Add64:Proofs.Tryz.prog.funcs[S.math_bits_Add64]?=some B.math_bits_Add64:=Proofs.Tryz.func202
theorem cmp_isNaN_int64:Proofs.Tryz.prog.funcs[S.cmp_isNaN_int64]?=some B.cmp_isNaN_int64:=Proofs.Tryz.func203
theorem cmp_isNaN_string:Proofs.Tryz.prog.funcs[S.cmp_isNaN_string]?=some B.cmp_isNaN_string:=Proofs.Tryz.func204
end At
end Go.AM
namespace Go.AM
theorem Rel.nilRow {E:Env0} {h:Heap} {β:List Con} {S:Addr→Prop} {w:World} (r:Rel E h β S w) (e:TypeId) (a:Option Addr) :
  Ext h β S w (h++[Blk.row e [] false]) (β++[.nil a]) S w∧Rel E (h++[Blk.row e [] false]) (β++[.nil a]) S w :=
 r.newRow e [] false (.nil a) ⟨rfl,rfl,rfl,Nat.le_refl _,fun _ _=>rfl⟩ (fun g hg=>by cases hg) rfl
theorem ziT {T:TypeId→TI} {h:Heap} {β:List Con} {S:Addr→Prop} {w:World} {v:Value} (hv:RelV T h β w S .nl v):∃ a,v=.slice a 0 0:=by
 cases hv with
 | d _ _ hd=>cases hd
 | nl a=>exact ⟨a,rfl⟩
theorem Rel.ownNil {E:Env0} {h:Heap} {β:List Con} {S:Addr→Prop} {w:World} (r:Rel E h β S w) (e:TypeId) (a:Option Addr) :
  RelV E.T (h++[Blk.row e [] false]) (β++[.nil a]) w S (.own h.length 0) (.slice a 0 0) :=
 .own _ _ _ e [] false (getElem?_append_new _ _) (Nat.le_refl _) (fun _=>by rw [← r.len,getElem?_append_new];rfl) rfl
theorem zuN {E:Env0} {fn:Func} {h0:Heap} {c:Cfg} {R:AV→Heap→Prop} (t:Nat) (e:TypeId) (hc:look c.ts t=.nl)
  (hg:Good E fn h0 ⟨c.n,c.todo,(t,.own c.h.length 0)::c.ts,c.h++[Blk.row e [] false]⟩ R):Good E fn h0 c R:=by
 intro β0 S0 w0 β S w tmps hb0 hn x0 r rt
 have ht:=rt t
 rw [hc] at ht
 obtain ⟨a,ha⟩:=ziT ht
 obtain ⟨x1,r1⟩:=r.nilRow e a
 refine hg β0 S0 w0 _ S w tmps hb0 hn (x0.trans x1) r1 fun t'=>?_
 simp only [look]
 cases hb:Nat.beq t t' with
 | true =>
  have:=Nat.eq_of_beq_eq_true hb
  subst this
  simp only
  rw [ha]
  exact r.ownNil e a
 | false=>exact (rt t').ext x1
theorem zhJ {E:Env0} {fn:Func} {h0 H:Heap} {c:Cfg} {R:AV→Heap→Prop} (e:TypeId) (hg:Good E fn h0 c fun r h=>r=.nl∧h=H)
  (hR:R (.own H.length 0) (H++[Blk.row e [] false])):Good E fn h0 c R:=by
 intro β0 S0 w0 β S w tmps hb0 hn x0 r rt
 refine zc2 (zn4 fun en w' hp=>?_) _ _ _ _ (hg β0 S0 w0 β S w tmps hb0 hn x0 r rt)
 obtain ⟨y,h',β',S',v,he,⟨rfl,rfl⟩,r',x',hv⟩:=hp
 obtain ⟨a,rfl⟩:=ziT hv
 obtain ⟨x1,r1⟩:=r'.nilRow e a
 exact ⟨_,_,_,S',_,he,hR,r1,x'.trans x1,r'.ownNil e a⟩
theorem zge {h:Heap} {β:List Con} {S:Addr→Prop} {w:World} {b:Nat} {cs:List AV} (hb:h[b]?=some (.box cs)) (cs':List AV):Ext h β S w (h.set b (.box cs')) β S w :=
 { Ext.refl h β S w with
  box:=fun b' cs1 h1=>by
   by_cases hbb:b=b'
   ·subst hbb
    exact ⟨cs',by rw [List.getElem?_set_self (List.getElem?_eq_some_iff.1 hb).1]⟩
   ·exact ⟨cs1,by rw [List.getElem?_set_ne hbb];exact h1⟩
  row:=fun b' e xs sh h1=>by
   have hbb:b≠b':=fun e=>by subst e;rw [hb] at h1;cases h1
   exact ⟨xs,sh,by rw [List.getElem?_set_ne hbb];exact h1,Nat.le_refl _,fun _=>rfl⟩
  mp:=fun b' es h1=>by
   have hbb:b≠b':=fun e=>by subst e;rw [hb] at h1;cases h1
   exact ⟨es,by rw [List.getElem?_set_ne hbb];exact h1⟩ }
theorem Rel.setBox {E:Env0} {h:Heap} {β:List Con} {S:Addr→Prop} {w:World} (r:Rel E h β S w) {b:Nat} {cs:List AV} (hb:h[b]?=some (.box cs)) (cs':List AV)
  (hc:∀ (g:Nat) (vs:List Value) (t:TypeId),β[b]?=some (.box g)→w.heap[g]?=some (.cells vs.toArray t (0,0))→cs.length=vs.length→(∀ (i:Nat) (x:AV) (y:Value),cs[i]?=some x→vs[i]?=some y→RelV E.T h β w S x y∧y.oneCell'=true) →
   cs'.length=vs.length∧∀ (i:Nat) (x:AV) (y:Value),cs'[i]?=some x→vs[i]?=some y→RelV E.T h β w S x y∧y.oneCell'=true):Rel E (h.set b (.box cs')) β S w:=by
 have x:=zge (β:=β) (S:=S) (w:=w) hb cs'
 have ne:∀ {b':Nat} {e:TypeId} {xs:List (List AV)} {sh:Bool},(h.set b (.box cs'))[b']?=some (.row e xs sh)→b≠b'∧h[b']?=some (.row e xs sh):=by
  intro b' e xs sh h1
  by_cases hbb:b=b'
  ·subst hbb
   rw [List.getElem?_set_self (List.getElem?_eq_some_iff.1 hb).1] at h1
   cases h1
  ·rw [List.getElem?_set_ne hbb] at h1
   exact ⟨hbb,h1⟩
 have nem:∀ {b':Nat} {es:List (AV × AV)},(h.set b (.box cs'))[b']?=some (.mp es)→h[b']?=some (.mp es):=by
  intro b' es h1
  by_cases hbb:b=b'
  ·subst hbb
   rw [List.getElem?_set_self (List.getElem?_eq_some_iff.1 hb).1] at h1
   cases h1
  ·rw [List.getElem?_set_ne hbb] at h1
   exact h1
 refine { r with len:=by simpa using r.len,box:=?_,row:=fun b' e xs sh h1=>r.row b' e xs sh (ne h1).2,mp:=fun b' es h1=>r.mp b' es (nem h1),free:=?_ }
 ·intro b' cs1 h1
  by_cases hbb:b=b'
  ·subst hbb
   rw [List.getElem?_set_self (List.getElem?_eq_some_iff.1 hb).1] at h1
   cases h1
   obtain ⟨g,vs,t,h2,h3,h4,h5⟩:=r.box b cs hb
   obtain ⟨h6,h7⟩:=hc g vs t h2 h3 h4 h5
   exact ⟨g,vs,t,h2,h3,h6,fun i y z hy hz=>⟨(h7 i y z hy hz).1.ext x,(h7 i y z hy hz).2⟩⟩
  ·rw [List.getElem?_set_ne hbb] at h1
   obtain ⟨g,vs,t,h2,h3,h4,h5⟩:=r.box b' cs1 h1
   exact ⟨g,vs,t,h2,h3,h4,fun i y z hy hz=>⟨(h5 i y z hy hz).1.ext x,(h5 i y z hy hz).2⟩⟩
 ·intro b' k g a h1 h2 h3 h4
  obtain ⟨e,xs,h5,h6⟩:=r.free b' k g a h1 h2 h3 h4
  have hbb:b≠b':=fun e=>by subst e;rw [hb] at h5;cases h5
  exact ⟨e,xs,by rw [List.getElem?_set_ne hbb];exact h5,h6⟩
theorem zqF {E:Env0} {fn:Func} {h0:Heap} {c:Cfg} {R:AV→Heap→Prop} (b i:Nat) (e:TypeId) {cs:List AV} (hb:c.h[b]?=some (.box cs)) (hi:cs[i]?=some .nl)
  (hg:Good E fn h0 ⟨c.n,c.todo,c.ts,(c.h++[Blk.row e [] false]).set b (.box (cs.set i (.own c.h.length 0)))⟩ R):Good E fn h0 c R:=by
 intro β0 S0 w0 β S w tmps hb0 hn x0 r rt
 obtain ⟨g,vs,t,h2,h3,h4,h5⟩:=r.box b cs hb
 have hil:i < vs.length:=by rw [← h4];exact (List.getElem?_eq_some_iff.1 hi).1
 have hv:=h5 i .nl vs[i] hi (by simp [hil])
 obtain ⟨a,ha⟩:=ziT hv.1
 obtain ⟨x1,r1⟩:=r.nilRow e a
 have hb1:(c.h++[Blk.row e [] false])[b]?=some (.box cs):=by rw [List.getElem?_append_left (List.getElem?_eq_some_iff.1 hb).1];exact hb
 have x2:=zge (β:=β++[.nil a]) (S:=S) (w:=w) hb1 (cs.set i (.own c.h.length 0))
 have r2:=r1.setBox hb1 (cs.set i (.own c.h.length 0)) (fun g' vs' t' e2 e3 e4 e5=>by
  refine ⟨by simpa using e4,fun j x y hx hy=>?_⟩
  by_cases hij:i=j
  ·subst hij
   rw [List.getElem?_set_self (List.getElem?_eq_some_iff.1 hi).1] at hx
   cases hx
   have:=e5 i .nl y hi hy
   refine ⟨?_,this.2⟩
   have hg:(β++[Con.nil a])[b]?=some (.box g):=x1.con b g h2
   rw [hg] at e2
   cases e2
   rw [h3] at e3
   have hvs:vs=vs':=by
    have e6:vs.toArray=vs'.toArray:=by injection e3 with e3;injection e3
    simpa using congrArg Array.toList e6
   subst hvs
   have:y=vs[i]:=by
    rw [List.getElem?_eq_getElem hil] at hy
    cases hy
    rfl
   rw [this,ha]
   exact r.ownNil e a
  ·rw [List.getElem?_set_ne hij] at hx
   exact e5 j x y hx hy)
 exact hg β0 S0 w0 _ S w tmps hb0 hn ((x0.trans x1).trans x2) r2 fun t'=>((rt t').ext x1).ext x2
theorem zfm {E:Env0} {fn:Func} {h0:Heap} {c c':Cfg} {R:AV→Heap→Prop} (t:Nat) (e:TypeId) (live:List Nat) (m:Nat) (hc:look c.ts t=.nl) (hm:Nat.ble h0.length m=true)
  (he:cut live m ⟨c.n,c.todo,(t,.own c.h.length 0)::c.ts,c.h++[Blk.row e [] false]⟩=c') (hg:Good E fn h0 c' R):Good E fn h0 c R :=
 zuN t e hc (zdu live m (Nat.le_of_ble_eq_true hm) (he ▸ hg))
theorem ze5 {E:Env0} {fn:Func} {h0:Heap} {c c':Cfg} {R:AV→Heap→Prop} (b i:Nat) (e:TypeId) (live:List Nat) (m:Nat) {cs:List AV} (hb:c.h[b]?=some (.box cs)) (hi:cs[i]?=some .nl) (hm:Nat.ble h0.length m=true)
  (he:cut live m ⟨c.n,c.todo,c.ts,(c.h++[Blk.row e [] false]).set b (.box (cs.set i (.own c.h.length 0)))⟩=c') (hg:Good E fn h0 c' R):Good E fn h0 c R :=
 zqF b i e hb hi (zdu live m (Nat.le_of_ble_eq_true hm) (he ▸ hg))
theorem zrB {E:Env0} {fn:Func} {h0:Heap} {c c':Cfg} {R:AV→Heap→Prop} (t:Nat) (b:Bool) (live:List Nat) (m:Nat) (hc:look c.ts t=.bl b) (hm:Nat.ble h0.length m=true)
  (he:cut live m ⟨c.n,c.todo,(t,.v (.bool b))::c.ts,c.h⟩=c') (hg:Good E fn h0 c' R):Good E fn h0 c R:=by
 have hg':=zdu live m (Nat.le_of_ble_eq_true hm) (he ▸ hg)
 intro β0 S0 w0 β S w tmps hb0 hn x0 r rt
 refine hg' β0 S0 w0 β S w tmps hb0 hn x0 r fun t'=>?_
 simp only [look]
 cases hb:Nat.beq t t' with
 | true =>
  have:=Nat.eq_of_beq_eq_true hb
  subst this
  have ht:=rt t
  rw [hc] at ht
  rw [ht.bl_inv]
  exact zcq _
 | false=>exact rt t'
theorem zqb {E:Env0} {fn:Func} {h0:Heap} {c c':Cfg} {R:AV→Heap→Prop} (t:Nat) {v:AV} {q:Prop} (live:List Nat) (m:Nat) (hc:look c.ts t=v) (hq:frzO c.h v=q) (ho:q) (hm:Nat.ble h0.length m=true)
  (he:cut live m ⟨c.n,c.todo,(t,frz c.h v)::c.ts,share c.h (frzM v)⟩=c') (hg:Good E fn h0 c' R):Good E fn h0 c R:=by
 have hg':=zdu live m (Nat.le_of_ble_eq_true hm) (he ▸ hg)
 intro β0 S0 w0 β S w tmps hb0 hn x0 r rt
 have hv:=rt t
 rw [hc] at hv
 obtain ⟨S',⟨x1,r1⟩,d1⟩:=zpo E v c.h β S w _ r hv (by rw [hq];exact ho)
 refine hg' β0 S0 w0 β S' w tmps hb0 hn (x0.trans x1) r1 fun t'=>?_
 simp only [look]
 cases hb:Nat.beq t t' with
 | true =>
  have:=Nat.eq_of_beq_eq_true hb
  subst this
  exact .d _ _ d1
 | false=>exact (rt t').ext x1
theorem zsX {E:Env0} {fn:Func} {h0:Heap} {c c':Cfg} {R:AV→Heap→Prop} (t b n:Nat) (live:List Nat) (m:Nat) (hc:look c.ts t=.own b n) (hm:Nat.ble h0.length m=true)
  (he:cut live m ⟨c.n,c.todo,(t,.os b n 0 n)::c.ts,c.h⟩=c') (hg:Good E fn h0 c' R):Good E fn h0 c R:=by
 have hg':=zdu live m (Nat.le_of_ble_eq_true hm) (he ▸ hg)
 intro β0 S0 w0 β S w tmps hb0 hn x0 r rt
 refine hg' β0 S0 w0 β S w tmps hb0 hn x0 r fun t'=>?_
 simp only [look]
 cases hb:Nat.beq t t' with
 | true =>
  have:=Nat.eq_of_beq_eq_true hb
  subst this
  have ht:=rt t
  rw [hc] at ht
  exact r.own_os ht
 | false=>exact rt t'
theorem znW {E:Env0} {fn:Func} {h0:Heap} {c c':Cfg} {R:AV→Heap→Prop} (b i:Nat) (x:Bool) (live:List Nat) (m:Nat) {cs:List AV} (hb:c.h[b]?=some (.box cs)) (hi:cs[i]?=some (.bl x)) (hm:Nat.ble h0.length m=true)
  (he:cut live m ⟨c.n,c.todo,c.ts,c.h.set b (.box (cs.set i (.v (.bool x))))⟩=c') (hg:Good E fn h0 c' R):Good E fn h0 c R:=by
 have hg':=zdu live m (Nat.le_of_ble_eq_true hm) (he ▸ hg)
 intro β0 S0 w0 β S w tmps hb0 hn x0 r rt
 have x2:=zge (β:=β) (S:=S) (w:=w) hb (cs.set i (.v (.bool x)))
 have r2:=r.setBox hb (cs.set i (.v (.bool x))) (fun g' vs' t' e2 e3 e4 e5=>by
  refine ⟨by simpa using e4,fun j x' y hx hy=>?_⟩
  by_cases hij:i=j
  ·subst hij
   rw [List.getElem?_set_self (List.getElem?_eq_some_iff.1 hi).1] at hx
   cases hx
   have:=e5 i (.bl x) y hi hy
   refine ⟨?_,this.2⟩
   rw [this.1.bl_inv]
   exact zcq _
  ·rw [List.getElem?_set_ne hij] at hx
   exact e5 j x' y hx hy)
 exact hg' β0 S0 w0 β S w tmps hb0 hn (x0.trans x2) r2 fun t'=>(rt t').ext x2
theorem zat {E:Env0} {fn:Func} {h0:Heap} {n:Nat} {todo:List It} {ts ts':TS} {h h':Heap} {R:AV→Heap→Prop} (e1:ts=ts') (e2:h=h') (hg:Good E fn h0 ⟨n,todo,ts',h'⟩ R):Good E fn h0 ⟨n,todo,ts,h⟩ R:=by
 subst e1;subst e2;exact hg
end Go.AM
namespace Go.AM
structure St where
 o:List Orc
 p:List Prop
 h:allP p
def orcs:List St→List Orc
 | []=>[]
 | s::r=>s.o++orcs r
def zbI:List St→List Prop
 | []=>[]
 | s::r=>s.p++zbI r
theorem zpk:∀ {a b:List Prop},allP a→allP b→allP (a++b)
 | [],_,_,hb=>hb
 | [_],[],ha,_=>ha
 | [_],_::_,ha,hb=>⟨ha,hb⟩
 | _::q::r,_,ha,hb=>⟨ha.1,zpk (a:=q::r) ha.2 hb⟩
theorem zbp:∀ l:List St,allP (zbI l)
 | []=>trivial
 | s::r=>zpk s.h (zbp r)
def sb {c b:Bool} (h:c=b):St:=⟨[.b b],[c=b],h⟩
def si {e n:Int} (h:e=n):St:=⟨[.i n],[e=n],h⟩
def se {xs:List (List AV)} {i:Int} {c:List AV} {n:Nat} (h:ElAt xs i c n):St:=⟨[.el c],[ElAt xs i c n],h⟩
def sa {cs:List AV} {i:Int} {n:Nat} {c:List AV} {k:Nat} (h:ArrAt cs i n c k):St:=⟨[.el c],[ArrAt cs i n c k],h⟩
def sy {s:ByteArray} {i n:Int} (h:ByteAt s i n):St:=⟨[.i n],[ByteAt s i n],h⟩
def sc {E:Env0} {f:FuncId} {args:List AV} {r:AV} {h':Heap} (h:zac E f args [] r h'):St:=⟨[.call [] r h'],[zac E f args [] r h'],h⟩
def sl {E:Env0} {f:FuncId} {args:List AV} {hl:Heap} {r:AV} {h':Heap} (lend:List Nat) (h:zac E f args hl r h'):St:=⟨[.call lend r h'],[zac E f args hl r h'],h⟩
def sk {E:Env0} {f:FuncId} {args:List AV} {hl:Heap} {r:AV} {h':Heap} {p:Prop} (hp:p) (lend:List Nat) (h:zac E f args hl r h'):St:=⟨[.call lend r h'],[p∧zac E f args hl r h'],⟨hp,h⟩⟩
theorem conv {E:Env0} {f:FuncId} {args args':List AV} {hl hl':Heap} {r:AV} {h':Heap} (h:zac E f args' hl' r h') (e1:args=args') (e2:hl=hl'):zac E f args hl r h':=by
 subst e1;subst e2;exact h
def sq {p:Prop} (h:p):St:=⟨[],[p],h⟩
def sx (o:Orc) {p:Prop} (h:p):St:=⟨[o],[p],h⟩
def sg {c b:Bool} (h:c=b):St:=⟨[.b b],[c=b∧True],⟨h,trivial⟩⟩
def so {c b:Bool} (h:c=b) (s:St):St:=⟨.b b::s.o,[c=b∧allP s.p],⟨h,s.h⟩⟩
def zsD:List (Nat × List St)→List (Nat × List Orc)
 | []=>[]
 | (i,l)::r=>(i,orcs l)::zsD r
def zn9:List (Nat × List St)→List St
 | []=>[]
 | (_,l)::r=>l++zn9 r
def sd (l:List (Nat × List St)):St:=⟨[.draw (zsD l)],[allP (zbI (zn9 l))],zbp _⟩
def zsw (p:Prop) (ts:TS) (h:Heap):Nat→Prop
 | 0=>True
 | n+1=>(p∧ts=ts∧h=h)∧zsw p ts h n
theorem zpO {p:Prop} (hp:p) (ts:TS) (h:Heap):∀ n,zsw p ts h n
 | 0=>trivial
 | n+1=>⟨⟨hp,rfl,rfl⟩,zpO hp ts h n⟩
def sdm (l:List (Nat × List St)) (n:Nat) (ts:TS) (h:Heap):St:=⟨[.draw (zsD l)],[allP (zbI (zn9 l))∧zsw (allP (zbI (zn9 l))) ts h (n+1)],⟨zbp _,zpO (zbp _) ts h _⟩⟩
theorem walk {E : Env0} (ht : zaL E) (hmix : E.P.follows .mixedOrders = true) {f : FuncId} {fn : Func} {c : Code} {args : List AV} {r y : AV} (hf : E.P.funcs[f]? = some fn) (hb : fn.body = some c) (hname : (fn.name == "runtime.NumGoroutine") = false)
  (hn:Nat.ble args.length fn.ntmps=true) (n:Nat) (l:List St) (hfin:fin (mk E) fn 0 n ⟨fn.ntmps,[.code c],zb4 0 args,[]⟩ (orcs l)=some (zbI l,y,[])) (hr:y=r):zac E f args [] r [] :=
 zgb ht hmix hf hb hname hn n (orcs l) hfin (zbp l) ⟨hr,rfl⟩
theorem walkH {E : Env0} (ht : zaL E) (hmix : E.P.follows .mixedOrders = true) {f : FuncId} {fn : Func} {c : Code} {args : List AV} {h : Heap} {r y : AV} {H H' : Heap} (hf : E.P.funcs[f]? = some fn) (hb : fn.body = some c) (hname : (fn.name == "runtime.NumGoroutine") = false)
  (hn:Nat.ble args.length fn.ntmps=true) (n:Nat) (l:List St) (hfin:fin (mk E) fn h.length n ⟨fn.ntmps,[.code c],zb4 0 args,h⟩ (orcs l)=some (zbI l,y,H)) (hr:y=r∧H=H'):zac E f args h r H' :=
 zgb ht hmix hf hb hname hn n (orcs l) hfin (zbp l) hr
def upto (E:Env) (live:List Nat) (m n:Nat) (c:Cfg) (os:List Orc):List Prop × Cfg:=match run E n c os with
 | (q,c',_)=>(q,cut live m c')
theorem zd5 {E:Env0} (ht:zaL E) (hmix:E.P.follows .mixedOrders=true) {fn:Func} {R:AV→Heap→Prop} {h0:Heap} {c c':Cfg} (n:Nat) (l:List St) (live:List Nat) (m:Nat) (hm:Nat.ble h0.length m=true)
  (hu:upto (mk E) live m n c (orcs l)=(zbI l,c')) (hg:Good E fn h0 c' R):Good E fn h0 c R:=by
 unfold upto at hu
 have h1:(run (mk E) n c (orcs l)).1=zbI l:=by
  have:=congrArg Prod.fst hu
  exact this
 have h2:cut live m (run (mk E) n c (orcs l)).2.1=c':=congrArg Prod.snd hu
 exact zkq ht hmix n (orcs l) live m hm h1 h2 (zbp l) hg
theorem zd9 {E:Env0} (ht:zaL E) (hmix:E.P.follows .mixedOrders=true) {fn:Func} {R:AV→Heap→Prop} {h0:Heap} {c:Cfg} {y:AV} {H:Heap} {m:Nat} (n:Nat) (l:List St)
  (hfin:fin (mk E) fn m n c (orcs l)=some (zbI l,y,H)) (hR:R y H):Good E fn h0 c (Shut m R) :=
 ziX ht hmix n (orcs l) hfin (zbp l) hR
theorem zik {E:Env0} (ht:zaL E) (hmix:E.P.follows .mixedOrders=true) {fn:Func} {R:AV→Heap→Prop} {h0:Heap} {c:Cfg} {y:AV} {H:Heap} (n:Nat) (l:List St)
  (hfin:finK (mk E) fn n c (orcs l)=some (zbI l,y,H)) (hR:R y H):Good E fn h0 c R :=
 znE ht hmix n (orcs l) hfin (zbp l) hR
theorem ze7 {E:Env0} (ht:zaL E) (hmix:E.P.follows .mixedOrders=true) {f:FuncId} {fn:Func} {c:Code} {args:List AV} {h:Heap} {R:AV→Heap→Prop} (hf:E.P.funcs[f]?=some fn) (hb:fn.body=some c)
  (hname : (fn.name == "runtime.NumGoroutine") = false) (hn : Nat.ble args.length fn.ntmps = true) (n : Nat) (l : List St) (live : List Nat) (m : Nat) {c' : Cfg} (hm : Nat.ble h.length m = true)
  (hu:upto (mk E) live m n ⟨fn.ntmps,[.code c],zb4 0 args,h⟩ (orcs l)=(zbI l,c')) (hg:Good E fn h c' (Shut h.length R)):zb7 E f args h R :=
 zd0 (zbO hf hb hname (Nat.le_of_ble_eq_true hn) (zd5 ht hmix n l live m hm hu hg))
end Go.AM
namespace Go.AM
open Go.RowKit
theorem zre {x:Value} {k:IntKind} (h:shp x=.int k):∃ a,x=.int k a:=by
 cases x <;> simp [shp] at h
 rename_i k' n;subst h;exact ⟨n,rfl⟩
def zkB (t:TI):Shp→Bool
 | .int _=>match t.kind with|.int _=>Nat.beq t.size 1&&!t.isAgg|_=>false
 | .str=>match t.kind with|.str=>Nat.beq t.size 1&&!t.isAgg|_=>false
 | .bool=>match t.kind with|.bool=>Nat.beq t.size 1&&!t.isAgg|_=>false
 | .other=>false
def flat (T:TypeId→TI):Nat→List Field→List Shp→Bool
 | _,[],[]=>true
 | i, f :: fs, s :: ss => (f.name != "_") && Nat.beq f.offset i && zkB (T f.type) s && flat T (i + 1) fs ss
 | _,_,_=>false
theorem eqCell {E:Env0} (ht:zaL E) {t:TypeId} {x y:Value} {r:Bool} (d:Nat) (hs:zkB (E.T t) (shp x)=true) (he:zc4 x y=some r) (w:World):(Op.equalIn (d+1) t x y).run E.P w=.ok r w:=by
 cases x <;> simp [shp,zkB] at hs
 case bool a =>
  split at hs
  ·rename_i hk
   obtain ⟨i,dd,z,tok⟩:=ht.at_ (t:=t) (by intro h;rw [h] at hk;cases hk)
   cases y <;> simp [zc4] at he
   subst he
   have:=tok.bool_ hk
   subst this
   exact run_equalIn_bool' w d t _ _ tok.und
  ·cases hs
 case int k a =>
  split at hs
  ·rename_i k' hk
   obtain ⟨i,dd,z,tok⟩:=ht.at_ (t:=t) (by intro h;rw [h] at hk;cases hk)
   cases y <;> simp [zc4] at he
   obtain ⟨rfl,rfl⟩:=he
   have:=tok.int_ hk
   subst this
   exact run_equalIn_int w d t _ _ _ _ tok.und
  ·cases hs
 case string a =>
  split at hs
  ·rename_i hk
   obtain ⟨i,dd,z,tok⟩:=ht.at_ (t:=t) (by intro h;rw [h] at hk;cases hk)
   cases y <;> simp [zc4] at he
   subst he
   have:=tok.str_ hk
   subst this
   rw [run_equalIn_string w d t _ _ tok.und,beq_toListBytes]
  ·cases hs
theorem zms {t:TI} {s:Shp} (h:zkB t s=true):t.size=1∧t.isAgg=false∧t≠⟨.scalar,0,0,[]⟩:=by
 unfold zkB at h
 split at h <;> try cases h
 all_goals
  split at h
  ·rename_i hk
   simp only [Bool.and_eq_true,Bool.not_eq_true'] at h
   exact ⟨Nat.eq_of_beq_eq_true h.1,h.2,by intro h';rw [h'] at hk;cases hk⟩
  ·cases h
theorem zlb {E:Env0} (ht:zaL E) (d:Nat) (w:World):∀ (fs:List Field) (px py xs ys:List Value) (r:Bool),px.length=py.length→flat E.T px.length fs (xs.map shp)=true→zbi xs ys=some r →
  (Op.eqFields (d+1) (px++xs).toArray (py++ys).toArray fs).run E.P w=.ok r w
 | [],px,py,xs,ys,r,hp,hf,he=>by
  cases xs with
  | cons x xs=>simp [flat] at hf
  | nil =>
   cases ys <;> simp [zbi] at he
   subst he
   rfl
 | f::fs,px,py,[],ys,r,hp,hf,he=>by simp [flat] at hf
 | f::fs,px,py,x::xs,[],r,hp,hf,he=>by simp [zbi] at he
 | f::fs,px,py,x::xs,y::ys,r,hp,hf,he=>by
  simp only [List.map_cons,flat,Bool.and_eq_true,bne_iff_ne] at hf
  obtain ⟨⟨⟨hn,ho⟩,hs⟩,hrest⟩:=hf
  have ho:=Nat.eq_of_beq_eq_true ho
  simp only [zbi] at he
  split at he
  ·rename_i a b h1 h2
   simp only [Option.some.injEq] at he
   subst he
   obtain ⟨hsz,hagg,hne⟩:=zms hs
   obtain ⟨i,dd,z,tok⟩:=ht.at_ hne
   have p1:=zgE tok w (px++x::xs) f.offset (by rw [hsz,ho];simp)
   have p2:=zgE tok w (py++y::ys) f.offset (by rw [hsz,ho,hp];simp)
   rw [hsz,ho] at p1
   rw [hsz,ho,hp] at p2
   simp only [List.drop_left,List.take_succ_cons,List.take_zero,zeE,hagg] at p1 p2
   have p3:=eqCell ht d hs h1 w
   have ih:=zlb ht d w fs (px++[x]) (py++[y]) xs ys b (by simp [hp]) (by simpa using hrest) h2
   simp only [List.append_assoc,List.singleton_append] at ih
   simp only [Op.eqFields,ne_eq,hn,not_false_eq_true,if_true,Sem.run_bind,ho]
   rw [p1,Result.andThen_ok,hp,p2,Result.andThen_ok]
   simp only [List.headD_cons]
   rw [p3,Result.andThen_ok]
   cases a
   ·rfl
   ·simpa using ih
  ·cases he
theorem seq_of {E:Env0} (ht:zaL E) {t:TypeId} {fs:Array Field} {ss:List Shp} (hu:E.P.underlying t=some (.struct fs)) (hp:E.P.stoodInHeld t=false) (hg:E.P.eqGuardType E.P.depth t=false) (hf:flat E.T 0 fs.toList ss=true) :
  StructEq E.P t ss:=by
 refine ⟨hg,fun w xs ys r hs he=>?_⟩
 have hfo:E.P.fieldsOf t=fs:=by simp [Program.fieldsOf,hu]
 have h1:=run_equalIn_struct (P:=E.P) w 9999 t xs.toArray ys.toArray (by rw [hfo];exact hu) hp
 rw [hfo] at h1
 have h2:=zlb ht 9998 w fs.toList [] [] xs ys r rfl (by rw [hs];exact hf) he
 simp only [List.nil_append] at h2
 unfold Op.equal Op.maxDepth
 rw [h1]
 exact h2
end Go.AM
namespace Go.AM
abbrev Str:=ByteArray
def zeD (l:List UInt8):Str:=⟨l.toArray⟩
abbrev iv (n:Int):AV:=.v (.int .i64 n)
abbrev bv (b:Bool):AV:=.v (.bool b)
abbrev sv (s:Str):AV:=.v (.string s)
def zdS:List Str:=[zeD [],zeD [97],zeD [98],zeD [105,116,39,115],zeD [90,32,122],zeD [126]]
def globs (g:Nat):Option (List AV) :=
 match Nat.beq g S.g_world_words with
 | true=>some (zdS.map sv)
 | false=>none
noncomputable def E0:Env0:=⟨Proofs.Tryz.prog,ziI tabA,globs⟩
theorem E0ok:zaL E0:=zuE zu8
theorem mix0:E0.P.follows .mixedOrders=true:=mix_ok
structure V where
 kind:Int
 int:Int
 text:Str
def V.cells (v:V):List AV:=[iv v.kind,iv v.int,sv v.text]
abbrev V.av (v:V):AV:=.agg v.cells
def V.null:V:=⟨0,0,⟨#[]⟩⟩
mutual
inductive X where
 | mk (kind op:Int) (not:Bool) (val:V) (table name:Str) (args:List X) (sub:List Qy)
inductive Qy where
 | mk (star:Bool) (items:List X) (frm:Str) (wh:List X)
end
def X.kind:X→Int|.mk k _ _ _ _ _ _ _=>k
def X.op:X→Int|.mk _ o _ _ _ _ _ _=>o
def X.not:X→Bool|.mk _ _ n _ _ _ _ _=>n
def X.val:X→V|.mk _ _ _ v _ _ _ _=>v
def X.table:X→Str|.mk _ _ _ _ t _ _ _=>t
def X.name:X→Str|.mk _ _ _ _ _ m _ _=>m
def X.args:X→List X|.mk _ _ _ _ _ _ xs _=>xs
def X.sub:X→List Qy|.mk _ _ _ _ _ _ _ qs=>qs
def Qy.star:Qy→Bool|.mk s _ _ _=>s
def Qy.items:Qy→List X|.mk _ i _ _=>i
def Qy.frm:Qy→Str|.mk _ _ f _=>f
def Qy.wh:Qy→List X|.mk _ _ _ w=>w
@[simp] theorem X.kind_mk (k o:Int) (n:Bool) (v:V) (t m:Str) (xs:List X) (qs:List Qy):(X.mk k o n v t m xs qs).kind=k:=rfl
@[simp] theorem X.op_mk (k o:Int) (n:Bool) (v:V) (t m:Str) (xs:List X) (qs:List Qy):(X.mk k o n v t m xs qs).op=o:=rfl
@[simp] theorem X.not_mk (k o:Int) (n:Bool) (v:V) (t m:Str) (xs:List X) (qs:List Qy):(X.mk k o n v t m xs qs).not=n:=rfl
@[simp] theorem X.val_mk (k o:Int) (n:Bool) (v:V) (t m:Str) (xs:List X) (qs:List Qy):(X.mk k o n v t m xs qs).val=v:=rfl
@[simp] theorem X.table_mk (k o:Int) (n:Bool) (v:V) (t m:Str) (xs:List X) (qs:List Qy):(X.mk k o n v t m xs qs).table=t:=rfl
@[simp] theorem X.name_mk (k o:Int) (n:Bool) (v:V) (t m:Str) (xs:List X) (qs:List Qy):(X.mk k o n v t m xs qs).name=m:=rfl
@[simp] theorem X.args_mk (k o:Int) (n:Bool) (v:V) (t m:Str) (xs:List X) (qs:List Qy):(X.mk k o n v t m xs qs).args=xs:=rfl
@[simp] theorem X.sub_mk (k o:Int) (n:Bool) (v:V) (t m:Str) (xs:List X) (qs:List Qy):(X.mk k o n v t m xs qs).sub=qs:=rfl
@[simp] theorem Qy.star_mk (s:Bool) (i:List X) (f:Str) (w:List X):(Qy.mk s i f w).star=s:=rfl
@[simp] theorem Qy.items_mk (s:Bool) (i:List X) (f:Str) (w:List X):(Qy.mk s i f w).items=i:=rfl
@[simp] theorem Qy.frm_mk (s:Bool) (i:List X) (f:Str) (w:List X):(Qy.mk s i f w).frm=f:=rfl
@[simp] theorem Qy.wh_mk (s:Bool) (i:List X) (f:Str) (w:List X):(Qy.mk s i f w).wh=w:=rfl
mutual
def X.raw:X→List AV
 | .mk k o n v t m xs qs=>[iv k,iv o,bv n,iv v.kind,iv v.int,sv v.text,sv t,sv m,.sl (zab xs),.sl (zaf qs)]
def Qy.raw:Qy→List AV
 | .mk s is f w=>[bv s,.sl (zab is),sv f,.sl (zab w)]
def zab:List X→List (List AV)
 | []=>[]
 | x::r=>X.raw x::zab r
def zaf:List Qy→List (List AV)
 | []=>[]
 | x::r=>Qy.raw x::zaf r
end
def X.cells (x:X):List AV:=[iv x.kind,iv x.op,bv x.not,iv x.val.kind,iv x.val.int,sv x.val.text,sv x.table,sv x.name,.sl (zab x.args),.sl (zaf x.sub)]
def Qy.cells (x:Qy):List AV:=[bv x.star,.sl (zab x.items),sv x.frm,.sl (zab x.wh)]
theorem X.raw_eq (x:X):x.raw=x.cells:=by cases x;simp [X.raw,X.cells,X.kind,X.op,X.not,X.val,X.table,X.name,X.args,X.sub]
theorem Qy.raw_eq (x:Qy):x.raw=x.cells:=by cases x;simp [Qy.raw,Qy.cells,Qy.star,Qy.items,Qy.frm,Qy.wh]
theorem zbq:∀ l:List X,zab l=l.map X.cells
 | []=>by simp [zab]
 | x::r=>by simp [zab,zbq r,X.raw_eq]
theorem zdN:∀ l:List Qy,zaf l=l.map Qy.cells
 | []=>by simp [zaf]
 | x::r=>by simp [zaf,zdN r,Qy.raw_eq]
@[simp] theorem zaU:zab []=[]:=zbq []
@[simp] theorem zaO (x:X) (r:List X):zab (x::r)=x.cells::zab r:=by simp [zbq]
@[simp] theorem za7 (a b:List X):zab (a++b)=zab a++zab b:=by simp [zbq]
@[simp] theorem zbs (a:List X):(zab a).length=a.length:=by simp [zbq]
@[simp] theorem za0:zaf []=[]:=zdN []
@[simp] theorem zaS (x:Qy) (r:List Qy):zaf (x::r)=x.cells::zaf r:=by simp [zdN]
@[simp] theorem zed (a:List Qy):(zaf a).length=a.length:=by simp [zdN]
@[simp] theorem X.cells_length (x:X):x.cells.length=10:=rfl
@[simp] theorem Qy.cells_length (x:Qy):x.cells.length=4:=rfl
abbrev X.av (x:X):AV:=.agg x.cells
abbrev Qy.av (x:Qy):AV:=.agg x.cells
structure Col where
 name:Str
 type:Int
 notNull:Bool
 key:Bool
def Col.cells (c:Col):List AV:=[sv c.name,iv c.type,bv c.notNull,bv c.key]
structure Sch where
 name:Str
 cols:List Col
def Sch.cells (s:Sch):List AV:=[sv s.name,.sl (s.cols.map Col.cells)]
abbrev Sch.av (s:Sch):AV:=.agg s.cells
structure Rw where
 id:Int
 vals:List V
def Rw.cells (r:Rw):List AV:=[iv r.id,.sl (r.vals.map V.cells)]
structure Tb where
 sch:Sch
 next:Int
 rows:List Rw
def Tb.cells (t:Tb):List AV:=[sv t.sch.name,.sl (t.sch.cols.map Col.cells),iv t.next,.sl (t.rows.map Rw.cells)]
abbrev Tb.av (t:Tb):AV:=.agg t.cells
structure Fr where
 name:Str
 strict:Bool
 cols:List Col
 vals:List V
def Fr.cells (f:Fr):List AV:=[sv f.name,bv f.strict,.sl (f.cols.map Col.cells),.sl (f.vals.map V.cells)]
abbrev vsl (l:List V):AV:=.sl (l.map V.cells)
abbrev fsl (l:List Fr):AV:=.sl (l.map Fr.cells)
abbrev tsl (l:List Tb):AV:=.sl (l.map Tb.cells)
abbrev xsl (l:List X):AV:=.sl (zab l)
abbrev Pure (f:FuncId) (args:List AV) (r:AV):Prop:=zac E0 f args [] r []
theorem zb9 {f : FuncId} {fn : Func} {c : Code} {args : List AV} {r : AV} (hf : E0.P.funcs[f]? = some fn) (hb : fn.body = some c) (hname : (fn.name == "runtime.NumGoroutine") = false) (hn : Nat.ble args.length fn.ntmps = true)
  (n:Nat) (os:List Orc) {q:List Prop} (hfin:fin (mk E0) fn 0 n ⟨fn.ntmps,[.code c],zb4 0 args,[]⟩ os=some (q,r,[])) (hq:allP q):Pure f args r :=
 zgb E0ok mix0 hf hb hname hn n os hfin hq ⟨rfl,rfl⟩
@[simp] theorem V.cells_length (x:V):x.cells.length=3:=rfl
@[simp] theorem Col.cells_length (x:Col):x.cells.length=4:=rfl
@[simp] theorem Sch.cells_length (x:Sch):x.cells.length=2:=rfl
@[simp] theorem Rw.cells_length (x:Rw):x.cells.length=2:=rfl
@[simp] theorem Tb.cells_length (x:Tb):x.cells.length=4:=rfl
@[simp] theorem Fr.cells_length (x:Fr):x.cells.length=4:=rfl
theorem zbv {l:List X} {i:Nat} {x:X} (h:l[i]?=some x):ElAt (zab l) (i:Int) x.cells 10 :=
 ⟨by omega,by simp [zbq,h],rfl⟩
theorem zaR {l:List Qy} {i:Nat} {x:Qy} (h:l[i]?=some x):ElAt (zaf l) (i:Int) x.cells 4 :=
 ⟨by omega,by simp [zdN,h],rfl⟩
theorem zah {α:Type} (f:α→List AV) {l:List α} {i:Nat} {x:α} (h:l[i]?=some x) {n:Nat} (hn:(f x).length=n):ElAt (l.map f) (i:Int) (f x) n :=
 ⟨by omega,by simp [h],hn⟩
theorem zv3 {l:List X} {n i:Nat} {x:X} (hn:n=l.length) (h:l[i]?=some x):OwnEl (zab l) n i x.cells :=
 ⟨by simp [hn],by simp [zbq,h]⟩
theorem znA {α:Type} (f:α→List AV) {l:List α} {n i:Nat} {x:α} (hn:n=l.length) (h:l[i]?=some x):OwnEl (l.map f) n i (f x) :=
 ⟨by simp [hn],by simp [h]⟩
theorem zao (i:Nat) (h:i < 9223372036854775807):IntKind.i64.wrap ((i:Int)+1)=((i+1:Nat):Int):=by
 rw [IntKind.wrap_i64];omega
theorem zcm {t:Int} {n:Nat} (h1:t=(n:Int)) (h2:n≤9223372036854775807):IntKind.i64.wrap t=(n:Int):=by
 rw [h1,IntKind.wrap_i64];omega
def pm1:Nat→Int
 | 0=>-1
 | k+1=>(k:Int)
theorem pm1_eq (k:Nat):pm1 k=(k:Int) - 1:=by cases k <;> simp [pm1]
theorem zo3 (k:Nat) (h:k < 9223372036854775806):IntKind.i64.wrap ((k:Int) - 1)=pm1 k:=by
 rw [pm1_eq,IntKind.wrap_i64];omega
theorem zaN {α:Type} {l:List α} {i:Nat} {x:α} (h:l[i]?=some x):l.drop i=x::l.drop (i+1):=by
 obtain ⟨h1,h2⟩:=List.getElem?_eq_some_iff.mp h
 rw [List.drop_eq_getElem_cons h1,h2]
theorem zcj {α:Type} {l:List α} {i:Nat} {x:α} (h:l[i]?=some x):i < l.length:=(List.getElem?_eq_some_iff.mp h).1
theorem zay {α:Type} {l:List α} {i:Nat} (h:i < l.length):∃ x,l[i]?=some x:=⟨l[i],by simp [h]⟩
structure Tp where
 l:List Int
 pos:Nat
 ok:l.length≤500
def Tp.cells (t:Tp):List AV:=[.sl (t.l.map fun n=>[iv n]),iv t.pos]
structure Pl where
 frs:List Fr
 tbs:List Sch
def Pl.cells (p:Pl):List AV:=[.sl (p.frs.map Fr.cells),.sl (p.tbs.map Sch.cells)]
abbrev Pl.av (p:Pl):AV:=.agg p.cells
abbrev ssl (l:List Str):AV:=.sl (l.map fun s=>[sv s])
structure Se where
 col:Str
 ex:X
def Se.cells (s:Se):List AV:=sv s.col::s.ex.cells
structure Ac where
 kind:Int
 table:Str
 rows:List (List X)
 query:List Qy
 sets:List Se
 wh:List X
 text:Str
def Ac.cells (a:Ac):List AV:=[iv a.kind,sv a.table,.sl (a.rows.map fun r=>[.sl (zab r)]),.sl (zaf a.query),.sl (a.sets.map Se.cells),.sl (zab a.wh),sv a.text]
abbrev Ac.av (a:Ac):AV:=.agg a.cells
structure Rk where
 table:Str
 col:Str
 low:Int
 high:Int
def Rk.cells (r:Rk):List AV:=[sv r.table,sv r.col,iv r.low,iv r.high]
structure Tg where
 name:Str
 table:Str
 before:Bool
 event:Int
 of:List Str
 each:Bool
 prec:List Str
 foll:List Str
 rank:List Rk
 when_:List X
 acts:List Ac
def Tg.cells (t:Tg):List AV:=[sv t.name,sv t.table,bv t.before,iv t.event,ssl t.of,bv t.each,ssl t.prec,ssl t.foll,.sl (t.rank.map Rk.cells),.sl (zab t.when_),.sl (t.acts.map Ac.cells)]
abbrev Tg.av (t:Tg):AV:=.agg t.cells
@[simp] theorem Se.cells_length (x:Se):x.cells.length=11:=rfl
@[simp] theorem Ac.cells_length (x:Ac):x.cells.length=7:=rfl
@[simp] theorem Rk.cells_length (x:Rk):x.cells.length=4:=rfl
@[simp] theorem Tg.cells_length (x:Tg):x.cells.length=11:=rfl
theorem zbG:StructEq E0.P Ty.Value [.int .i64,.int .i64,.str] :=
 seq_of E0ok (fs:=E0.P.fieldsOf Ty.Value) kr kr kr kr
end Go.AM
namespace Go.AM
noncomputable def runF (fn:Func) (args:List AV) (h:Heap) (os:List Orc):Option (List Prop × AV × Heap) :=
 match fn.body, (fn.name == "runtime.NumGoroutine"), Nat.ble args.length fn.ntmps with
 | some c,false,true=>fin (mk E0) fn h.length 3000 ⟨fn.ntmps,[.code c],zb4 0 args,h⟩ os
 | _,_,_=>none
noncomputable def zoi (fn:Func) (args:List AV) (h:Heap) (live:List Nat) (m:Nat) (os:List Orc):Option (List Prop × Cfg) :=
 match fn.body, (fn.name == "runtime.NumGoroutine"), Nat.ble args.length fn.ntmps, Nat.ble h.length m with
 | some c,false,true,true=>some (upto (mk E0) live m 3000 ⟨fn.ntmps,[.code c],zb4 0 args,h⟩ os)
 | _,_,_,_=>none
noncomputable def ziV (h0:Heap) (live:List Nat) (m:Nat) (c:Cfg) (os:List Orc):Option (List Prop × Cfg) :=
 match Nat.ble h0.length m with
 | true=>some (upto (mk E0) live m 3000 c os)
 | false=>none
theorem wk {f:FuncId} {fn:Func} {args:List AV} {h H:Heap} {r:AV} (hf:E0.P.funcs[f]?=some fn) (l:List St) (hfin:runF fn args h (orcs l)=some (zbI l,r,H)):zac E0 f args h r H:=by
 unfold runF at hfin
 split at hfin
 ·rename_i c hb hn ha
  exact zgb E0ok mix0 hf hb hn ha 3000 (orcs l) hfin (zbp l) ⟨rfl,rfl⟩
 ·cases hfin
theorem wkc {f:FuncId} {fn:Func} {args:List AV} {h:Heap} {R:AV→Heap→Prop} {c':Cfg} (hf:E0.P.funcs[f]?=some fn) (l:List St) (live:List Nat) (m:Nat) (hu:zoi fn args h live m (orcs l)=some (zbI l,c'))
  (hg:Good E0 fn h c' (Shut h.length R)):zb7 E0 f args h R:=by
 unfold zoi at hu
 split at hu
 ·rename_i c hb hn ha hm
  exact ze7 E0ok mix0 hf hb hn ha 3000 l live m hm (Option.some.inj hu) hg
 ·cases hu
theorem wkl {fn:Func} {R:AV→Heap→Prop} {h0:Heap} {c c':Cfg} (l:List St) (live:List Nat) (m:Nat) (hu:ziV h0 live m c (orcs l)=some (zbI l,c')) (hg:Good E0 fn h0 c' R):Good E0 fn h0 c R:=by
 unfold ziV at hu
 split at hu
 ·rename_i hm
  exact zd5 E0ok mix0 3000 l live m hm (Option.some.inj hu) hg
 ·cases hu
theorem wkr {fn:Func} {h0:Heap} {c:Cfg} {r:AV} {H:Heap} {m:Nat} (l:List St) (hfin:fin (mk E0) fn m 3000 c (orcs l)=some (zbI l,r,H)):Good E0 fn h0 c (Shut m fun y h=>y=r∧h=H) :=
 zd9 E0ok mix0 3000 l hfin ⟨rfl,rfl⟩
noncomputable def runFK (fn:Func) (args:List AV) (h:Heap) (os:List Orc):Option (List Prop × AV × Heap) :=
 match fn.body, (fn.name == "runtime.NumGoroutine"), Nat.ble args.length fn.ntmps with
 | some c,false,true=>finK (mk E0) fn 3000 ⟨fn.ntmps,[.code c],zb4 0 args,h⟩ os
 | _,_,_=>none
theorem wkK {f:FuncId} {fn:Func} {args:List AV} {h H:Heap} {r:AV} (hf:E0.P.funcs[f]?=some fn) (l:List St) (hfin:runFK fn args h (orcs l)=some (zbI l,r,H)):zac E0 f args h r H:=by
 unfold runFK at hfin
 split at hfin
 ·rename_i c hb hn ha
  exact zqP E0ok mix0 hf hb hn ha 3000 (orcs l) hfin (zbp l) ⟨rfl,rfl⟩
 ·cases hfin
theorem wkS {f:FuncId} {fn:Func} {args:List AV} {h H H':Heap} {r y:AV} (hf:E0.P.funcs[f]?=some fn) (l:List St) (hfin:runF fn args h (orcs l)=some (zbI l,y,H)) (e:y=r∧H=H'):zac E0 f args h r H':=by
 obtain ⟨rfl,rfl⟩:=e
 exact wk hf l hfin
theorem wkrS {fn:Func} {h0:Heap} {c:Cfg} {r y:AV} {H H':Heap} {m:Nat} (l:List St) (hfin:fin (mk E0) fn m 3000 c (orcs l)=some (zbI l,y,H)) (e:y=r∧H=H'):Good E0 fn h0 c (Shut m fun y h=>y=r∧h=H'):=by
 obtain ⟨rfl,rfl⟩:=e
 exact wkr l hfin
theorem owed {p:Prop} (h:p:=by first|assumption|(simp;done)|(simp;omega)|omega|rfl|(refine ⟨⟨?_⟩,?_⟩ <;> first|(simp;done)|(simp;omega)|omega)|(refine ⟨⟨?_⟩,?_,?_⟩ <;> first|(simp;done)|(simp;omega)|omega)|(refine ⟨?_,?_,?_⟩ <;> first|(simp;done)|(simp;omega)|omega)|(refine ⟨?_,⟨?_⟩,?_,?_⟩ <;> first|(simp;done)|(simp;omega)|omega)|(constructor <;> first|(simp;done)|(simp;omega)|omega|(simp at *;omega))):p:=h
def sqx (p:Prop) (h:p:=by first|assumption|(simp;done)|(simp;omega)|omega|rfl|(refine ⟨⟨?_⟩,?_⟩ <;> first|(simp;done)|(simp;omega)|omega)|(refine ⟨⟨?_⟩,?_,?_⟩ <;> first|(simp;done)|(simp;omega)|omega)|(refine ⟨?_,?_,?_⟩ <;> first|(simp;done)|(simp;omega)|omega)|(refine ⟨?_,⟨?_⟩,?_,?_⟩ <;> first|(simp;done)|(simp;omega)|omega)|(constructor <;> first|(simp;done)|(simp;omega)|omega|(simp at *;omega))):St:=sq h
def skx (p:Prop) {E:Env0} {f:FuncId} {args:List AV} {hl:Heap} {r:AV} {h':Heap} (lend:List Nat) (h:zac E f args hl r h') (hp:p:=by first|assumption|(simp;done)|(simp;omega)|omega|rfl|(refine ⟨⟨?_⟩,?_⟩ <;> first|(simp;done)|(simp;omega)|omega)|(refine ⟨⟨?_⟩,?_,?_⟩ <;> first|(simp;done)|(simp;omega)|omega)|(refine ⟨?_,?_,?_⟩ <;> first|(simp;done)|(simp;omega)|omega)|(refine ⟨?_,⟨?_⟩,?_,?_⟩ <;> first|(simp;done)|(simp;omega)|omega)|(constructor <;> first|(simp;done)|(simp;omega)|omega|(simp at *;omega))):St:=sk hp lend h
end Go.AM
namespace Go.AM
set_option maxRecDepth 100000
def cmpI (a b:Int):Int:=if a < b then -1 else if b < a then 1 else 0
def ltS (a b:Str):Bool:=Op.bytesLess a.toList b.toList
def eqS (a b:Str):Bool:=a.toList==b.toList
def cmpS (a b:Str):Int:=if ltS a b then -1 else if !(ltS a b || eqS a b) then 1 else 0
theorem zct (n:Int):Pure S.cmp_isNaN_int [iv n] (bv (n != n)) :=
 zb9 At.cmp_isNaN_int rfl kr kr 100 [] (q:=[]) kr trivial
theorem zca (n:Int):Pure S.cmp_isNaN_int64 [iv n] (bv (n != n)) :=
 zb9 At.cmp_isNaN_int64 rfl kr kr 100 [] (q:=[]) kr trivial
theorem zbY (n:Str):Pure S.cmp_isNaN_string [sv n] (bv (!(n.toList==n.toList))) :=
 zb9 At.cmp_isNaN_string rfl kr kr 100 [] (q:=[]) kr trivial
theorem zkU (a b:Int):Pure S.cmp_Compare_int [iv a,iv b] (iv (cmpI a b)):=by
 unfold cmpI
 by_cases h1:a < b
 ·rw [if_pos h1]
  exact zb9 At.cmp_Compare_int rfl kr kr 200 [.call [] (bv (a != a)) [],.call [] (bv (b != b)) [],.b false,.b false,.b true]
   (q:=[Pure S.cmp_isNaN_int [iv a] (bv (a != a)),Pure S.cmp_isNaN_int [iv b] (bv (b != b)),(a != a)=false,(b != b)=false,decide (a < b)=true]) kr
   ⟨zct a,zct b,by simp,by simp,by simpa [allP] using h1⟩
 ·rw [if_neg h1]
  by_cases h2:b < a
  ·rw [if_pos h2]
   exact zb9 At.cmp_Compare_int rfl kr kr 200 [.call [] (bv (a != a)) [],.call [] (bv (b != b)) [],.b false,.b false,.b false,.b true]
    (q:=[Pure S.cmp_isNaN_int [iv a] (bv (a != a)),Pure S.cmp_isNaN_int [iv b] (bv (b != b)),(a != a)=false,(b != b)=false,decide (a < b)=false,decide (b < a)=true]) kr
    ⟨zct a,zct b,by simp,by simp,by simpa using h1,by simpa [allP] using h2⟩
  ·rw [if_neg h2]
   exact zb9 At.cmp_Compare_int rfl kr kr 200 [.call [] (bv (a != a)) [],.call [] (bv (b != b)) [],.b false,.b false,.b false,.b false]
    (q:=[Pure S.cmp_isNaN_int [iv a] (bv (a != a)),Pure S.cmp_isNaN_int [iv b] (bv (b != b)),(a != a)=false,(b != b)=false,decide (a < b)=false,decide (b < a)=false]) kr
    ⟨zct a,zct b,by simp,by simp,by simpa using h1,by simpa [allP] using h2⟩
theorem zbF (b:Bool):Pure S.value_Truth [bv b] (V.av ⟨2,if b then 1 else 0,⟨#[]⟩⟩):=by
 cases b
 ·exact zb9 At.value_Truth rfl kr kr 100 [.b false] (q:=[false=false]) kr rfl
 ·exact zb9 At.value_Truth rfl kr kr 100 [.b true] (q:=[true=true]) kr rfl
theorem zbb (n:Int):Pure S.value_Number [iv n] (V.av ⟨1,n,⟨#[]⟩⟩) :=
 zb9 At.value_Number rfl kr kr 100 [] (q:=[]) kr trivial
theorem zae (v:V):Pure S.evaluate_isNull [v.av] (bv (v.kind==0)) :=
 zb9 At.evaluate_isNull rfl kr kr 100 [] (q:=[]) kr trivial
end Go.AM
namespace Go.AM
set_option maxRecDepth 100000
theorem zjn (a b:Int):Pure S.cmp_Compare_int64 [iv a,iv b] (iv (cmpI a b)):=by
 unfold cmpI
 by_cases h1:a < b
 ·rw [if_pos h1]
  exact zb9 At.cmp_Compare_int64 rfl kr kr 1500 ([.call [] (bv (a != a)) [],.call [] (bv (b != b)) [],.b false,.b false,.b true]) (q:=[zac E0 S.cmp_isNaN_int64 [AV.v (Value.int IntKind.i64 a)] [] (AV.v (Value.bool (a != a))) [],zac E0 S.cmp_isNaN_int64 [AV.v (Value.int IntKind.i64 b)] [] (AV.v (Value.bool (b != b))) [],(a != a)=false,(b != b)=false,decide (a < b)=true]) kr ⟨zca a,zca b,by simp,by simp,by simpa [allP] using h1⟩
 ·rw [if_neg h1]
  by_cases h2:b < a
  ·rw [if_pos h2]
   exact zb9 At.cmp_Compare_int64 rfl kr kr 1500 ([.call [] (bv (a != a)) [],.call [] (bv (b != b)) [],.b false,.b false,.b false,.b true]) (q:=[zac E0 S.cmp_isNaN_int64 [AV.v (Value.int IntKind.i64 a)] [] (AV.v (Value.bool (a != a))) [],zac E0 S.cmp_isNaN_int64 [AV.v (Value.int IntKind.i64 b)] [] (AV.v (Value.bool (b != b))) [],(a != a)=false,(b != b)=false,decide (a < b)=false,decide (b < a)=true]) kr ⟨zca a,zca b,by simp,by simp,by simpa using h1,by simpa [allP] using h2⟩
  ·rw [if_neg h2]
   exact zb9 At.cmp_Compare_int64 rfl kr kr 1500 ([.call [] (bv (a != a)) [],.call [] (bv (b != b)) [],.b false,.b false,.b false,.b false]) (q:=[zac E0 S.cmp_isNaN_int64 [AV.v (Value.int IntKind.i64 a)] [] (AV.v (Value.bool (a != a))) [],zac E0 S.cmp_isNaN_int64 [AV.v (Value.int IntKind.i64 b)] [] (AV.v (Value.bool (b != b))) [],(a != a)=false,(b != b)=false,decide (a < b)=false,decide (b < a)=false]) kr ⟨zca a,zca b,by simp,by simp,by simpa using h1,by simpa [allP] using h2⟩
theorem ziK (a b:Str):Pure S.cmp_Compare_string [sv a,sv b] (iv (cmpS a b)):=by
 unfold cmpS ltS eqS
 cases h1:Op.bytesLess a.toList b.toList
 ·rw [if_neg (by simp)]
  cases h2:(!(Op.bytesLess a.toList b.toList || a.toList==b.toList))
  ·rw [h1] at h2
   rw [h2,if_neg (by simp)]
   exact zb9 At.cmp_Compare_string rfl kr kr 1500 ([.call [] (bv (!(a.toList==a.toList))) [],.call [] (bv (!(b.toList==b.toList))) [],.b false,.b false,.b false,.b false]) (q:=[zac E0 S.cmp_isNaN_string [AV.v (Value.string a)] [] (AV.v (Value.bool !ByteArray.toList a==ByteArray.toList a)) [],zac E0 S.cmp_isNaN_string [AV.v (Value.string b)] [] (AV.v (Value.bool !ByteArray.toList b==ByteArray.toList b)) [],(!ByteArray.toList a==ByteArray.toList a)=false,(!ByteArray.toList b==ByteArray.toList b)=false,Op.bytesLess (ByteArray.toList a) (ByteArray.toList b)=false,(!(Op.bytesLess (ByteArray.toList a) (ByteArray.toList b) || ByteArray.toList a==ByteArray.toList b))=false]) kr ⟨zbY a,zbY b,by simp,by simp,h1,by simp only [allP];rw [h1];exact h2⟩
  ·rw [h1] at h2
   rw [h2,if_pos rfl]
   exact zb9 At.cmp_Compare_string rfl kr kr 1500 ([.call [] (bv (!(a.toList==a.toList))) [],.call [] (bv (!(b.toList==b.toList))) [],.b false,.b false,.b false,.b true]) (q:=[zac E0 S.cmp_isNaN_string [AV.v (Value.string a)] [] (AV.v (Value.bool !ByteArray.toList a==ByteArray.toList a)) [],zac E0 S.cmp_isNaN_string [AV.v (Value.string b)] [] (AV.v (Value.bool !ByteArray.toList b==ByteArray.toList b)) [],(!ByteArray.toList a==ByteArray.toList a)=false,(!ByteArray.toList b==ByteArray.toList b)=false,Op.bytesLess (ByteArray.toList a) (ByteArray.toList b)=false,(!(Op.bytesLess (ByteArray.toList a) (ByteArray.toList b) || ByteArray.toList a==ByteArray.toList b))=true]) kr ⟨zbY a,zbY b,by simp,by simp,h1,by simp only [allP];rw [h1];exact h2⟩
 ·rw [if_pos rfl]
  exact zb9 At.cmp_Compare_string rfl kr kr 1500 ([.call [] (bv (!(a.toList==a.toList))) [],.call [] (bv (!(b.toList==b.toList))) [],.b false,.b false,.b true]) (q:=[zac E0 S.cmp_isNaN_string [AV.v (Value.string a)] [] (AV.v (Value.bool !ByteArray.toList a==ByteArray.toList a)) [],zac E0 S.cmp_isNaN_string [AV.v (Value.string b)] [] (AV.v (Value.bool !ByteArray.toList b==ByteArray.toList b)) [],(!ByteArray.toList a==ByteArray.toList a)=false,(!ByteArray.toList b==ByteArray.toList b)=false,Op.bytesLess (ByteArray.toList a) (ByteArray.toList b)=true]) kr ⟨zbY a,zbY b,by simp,by simp,h1⟩
def orI:List Int→Int
 | []=>0
 | x::r=>if x=0 then orI r else x
abbrev isl (l:List Int):AV:=.sl (l.map fun n=>[iv n])
noncomputable def L_Or (l:List Int) (i:Nat):Cfg:=zar B.cmp_Or_int 0 [(3,iv 0),(6,.sl (l.map fun n=>[iv n])),(7,iv ((l.map fun n=>[iv n]).length:Nat)),(8,iv (i:Nat))] []
theorem ztZ (l:List Int) (hl:l.length < 9223372036854775807):∀ (k i:Nat),i+k=l.length→Good E0 B.cmp_Or_int [] (L_Or l i) (Shut 0 fun r h=>r=iv (orI (l.drop i))∧h=[]):=by
 intro k
 induction k with
 | zero =>
  intro i hi
  refine zaa ?_
  refine ziX E0ok mix0 1500 ([.b false]) (q:=[decide ((i:Int) < (↑(List.map (fun n=>[iv n]) l).length:Int))=false]) (y:=iv 0) (H:=[]) kr ?_ ⟨?_,rfl⟩
  ·simp [allP];omega
  ·rw [List.drop_of_length_le (by omega)];rfl
 | succ k ih =>
  intro i hi
  obtain ⟨x,hx⟩:=zay (l:=l) (i:=i) (by omega)
  have hlt:=zcj hx
  refine zaa ?_
  rw [zaN hx,orI]
  by_cases h0:x=0
  ·rw [if_pos h0]
   exact zkq E0ok mix0 1500 ([.b true,.el [iv x],.b false,.i ((i+1:Nat):Int)]) [3,6,7,8] 0 (q:=[decide ((i:Int) < (↑(List.map (fun n=>[iv n]) l).length:Int))=true,ElAt (List.map (fun n=>[iv n]) l) (i:Int) [AV.v (Value.int IntKind.i64 x)] (1:Nat),(x != (0:Int))=false,IntKind.i64.wrap ((i:Int)+(1:Int))=(↑(i+(1:Nat)):Int)]) kr kr kr ⟨by simp;omega,zah (fun n=>[iv n]) hx rfl,by simp [h0],zao i (by omega)⟩ (ih (i+1) (by omega))
  ·rw [if_neg h0]
   exact ziX E0ok mix0 1500 ([.b true,.el [iv x],.b true]) (q:=[decide ((i:Int) < (↑(List.map (fun n=>[iv n]) l).length:Int))=true,ElAt (List.map (fun n=>[iv n]) l) (i:Int) [AV.v (Value.int IntKind.i64 x)] (1:Nat),(x != (0:Int))=true]) (y:=iv x) (H:=[]) kr ⟨by simp;omega,zah (fun n=>[iv n]) hx rfl,by simpa [allP] using h0⟩ ⟨rfl,rfl⟩
theorem zou (l:List Int) (hl:l.length < 9223372036854775807):Pure S.cmp_Or_int [.sl (l.map fun n=>[iv n])] (iv (orI l)) :=
 zs9 E0ok mix0 At.cmp_Or_int rfl kr kr 1500 ([]) [3,6,7,8] 0 (q:=[]) kr kr kr trivial (ztZ l hl l.length 0 (by omega))
end Go.AM
namespace Go.AM
set_option maxRecDepth 100000
def cmpV (a b:V):Int:=orI [cmpI a.kind b.kind,cmpI a.int b.int,cmpS a.text b.text]
theorem zcN (a b:V):Pure S.value_Compare [a.av,b.av] (iv (cmpV a b)) :=
 walk E0ok mix0 At.value_Compare rfl kr kr 1500 [sd [(4,[sc (zkU a.kind b.kind)]),(9,[sc (zjn a.int b.int)]),(14,[sc (ziK a.text b.text)]),(16,[sc (zou [cmpI a.kind b.kind,cmpI a.int b.int,cmpS a.text b.text] (by simp))])]] kr rfl
end Go.AM
namespace Go.AM
set_option maxRecDepth 100000
def okB (c:Nat):Bool:=!(decide ((c:Int) < 32))&&!(decide ((126:Int) < c))
def zgt (l:List UInt8):Bool:=match l with
 | []=>true
 | c::r=>okB c.toNat&&zgt r
def zdB (s:Str):Bool:=zgt s.data.toList&&decide ((s.size:Int)≤64)
noncomputable def zmW (s:Str) (i:Nat):Cfg:=zar B.value_plain 0 [(0,sv s),(5,iv (s.size:Nat)),(6,iv (i:Nat))] []
theorem zo4 (s:Str) (hl:s.size < 9223372036854775807):∀ (k i:Nat),i+k=s.size→Good E0 B.value_plain [] (zmW s i) (Shut 0 fun r h=>r=bv (zgt (s.data.toList.drop i)&&decide ((s.size:Int)≤64))∧h=[]):=by
 intro k
 induction k with
 | zero =>
  intro i hi
  refine zaa ?_
  have h0:decide ((i:Int) < (s.size:Int))=false:=by simp;omega
  have e0:s.data.toList.drop i=[]:=List.drop_of_length_le (by simp [← hi])
  rw [e0]
  exact zd9 E0ok mix0 3000 (y:=AV.v (Value.bool (decide ((↑(ByteArray.size s):Int)≤(64:Int))))) [sb h0] kr ⟨rfl,rfl⟩
 | succ k ih =>
  intro i hi
  have ih:=ih (i+1) (by omega)
  have hlt:i < s.size:=by omega
  have h0:decide ((i:Int) < (s.size:Int))=true:=by simp;omega
  have hb:ByteAt s (i:Int) ((s[i].toNat:Nat):Int):=⟨by omega,by simp [hlt]⟩
  have hw:=zao i (by omega)
  have e0:s.data.toList.drop i=s[i]::s.data.toList.drop (i+1):=by
   rw [List.drop_eq_getElem_cons (by simpa using hlt)];rfl
  rw [e0]
  generalize s[i]=c at hb
  simp only [zgt,okB]
  refine zaa ?_
  cases h1:decide ((c.toNat:Int) < (32:Int))
  ·cases h2:decide ((126:Int) < (c.toNat:Int))
   ·exact zd5 E0ok mix0 3000 (c':=zmW s (i+(1:Nat))) [sb h0,sy hb,sg h1,sy hb,sb h2,si hw] [0,5,6] 0 kr kr (by simpa [h1,h2] using ih)
   ·exact zd9 E0ok mix0 3000 (y:=AV.v (Value.bool false)) [sb h0,sy hb,sg h1,sy hb,sb h2] kr ⟨by simp [h1,h2],rfl⟩
  ·exact zd9 E0ok mix0 3000 (y:=AV.v (Value.bool false)) [sb h0,sy hb,sb h1] kr ⟨by simp [h1],rfl⟩
theorem znO (s:Str) (hl:s.size < 9223372036854775807):Pure S.value_plain [sv s] (bv (zdB s)):=by
 exact ze7 E0ok mix0 At.value_plain rfl kr kr 3000 (c':=zmW s (0:Nat)) [] [0,5,6] 0 kr kr (by simpa [zdB] using zo4 s hl s.size 0 (by simp))
end Go.AM
namespace Go.AM
set_option maxRecDepth 100000
set_option linter.unusedSimpArgs false
set_option linter.unusedVariables false
theorem zeJ {p:Prop} (h:p:=by first|assumption|omega|(simp;done)|(simp;omega)):p:=h
theorem ziB {p:Prop} (h:p:=by first|assumption|exact ztN _ _ (by decide)|exact zsm _ _ _):p:=h
theorem zhk {p:Prop} (h:p:=by first|assumption|exact zqC _ _):p:=h
theorem zkG {p:Prop} (h:p:=by first|assumption|exact ztN _ _ (by simp_all;omega)):p:=h
abbrev V.small (v:V):Prop:=v.text.size < 9223372036854775807
theorem zia:(⟨#[]⟩:Str).size < 9223372036854775807:=by decide
def zaM (v:V):Bool :=
 bif v.kind==(0:Int) then
  v.kind==(0:Int)&&(v.int==(0:Int)&&(v.text==ByteArray.mk #[]&&true))
 else
  bif v.kind==(1:Int) then
   ByteArray.toList v.text==(ByteArray.mk #[]).toList
  else
   bif v.kind==(2:Int) then
    bif v.int==(0:Int) then
     ByteArray.toList v.text==(ByteArray.mk #[]).toList
    else
     bif v.int==(1:Int) then
      ByteArray.toList v.text==(ByteArray.mk #[]).toList
     else
      false
   else
    bif v.kind==(3:Int) then
     bif v.int==(0:Int) then
      zdB v.text
     else
      false
    else
     false
theorem zcM (v:V) (hv:v.small):zac E0 S.value_Valid [v.av] [] (bv (zaM v)) []:=by
 cases h1:v.kind==(0:Int)
 ·cases h2:v.kind==(1:Int)
  ·cases h3:v.kind==(2:Int)
   ·cases h4:v.kind==(3:Int)
    ·exact walk E0ok mix0 At.value_Valid rfl kr kr 3000 (y:=AV.v (Value.bool false)) [sb h1,sb h2,sb h3,sb h4] kr (by simp only [zaM,cond_true,cond_false,h1,h2,h3,h4] <;> rfl)
    ·cases h5:v.int==(0:Int)
     ·exact walk E0ok mix0 At.value_Valid rfl kr kr 3000 (y:=AV.v (Value.bool false)) [sb h1,sb h2,sb h3,sb h4,sb h5] kr (by simp only [zaM,cond_true,cond_false,h1,h2,h3,h4,h5] <;> rfl)
     ·exact walk E0ok mix0 At.value_Valid rfl kr kr 3000 (y:=AV.v (Value.bool (zdB v.text))) [sb h1,sb h2,sb h3,sb h4,sg h5,sc (znO v.text (by first|assumption|(simp;done)|omega|(simp;omega)))] kr (by simp only [zaM,cond_true,cond_false,h1,h2,h3,h4,h5] <;> rfl)
   ·cases h6:v.int==(0:Int)
    ·cases h7:v.int==(1:Int)
     ·exact walk E0ok mix0 At.value_Valid rfl kr kr 3000 (y:=AV.v (Value.bool false)) [sb h1,sb h2,sb h3,sg h6,sb h7] kr (by simp only [zaM,cond_true,cond_false,h1,h2,h3,h6,h7] <;> rfl)
     ·exact walk E0ok mix0 At.value_Valid rfl kr kr 3000 (y:=AV.v (Value.bool (ByteArray.toList v.text==(ByteArray.mk #[]).toList))) [sb h1,sb h2,sb h3,sg h6,sg h7] kr (by simp only [zaM,cond_true,cond_false,h1,h2,h3,h6,h7] <;> rfl)
    ·exact walk E0ok mix0 At.value_Valid rfl kr kr 3000 (y:=AV.v (Value.bool (ByteArray.toList v.text==(ByteArray.mk #[]).toList))) [sb h1,sb h2,sb h3,sb h6] kr (by simp only [zaM,cond_true,cond_false,h1,h2,h3,h6] <;> rfl)
  ·exact walk E0ok mix0 At.value_Valid rfl kr kr 3000 (y:=AV.v (Value.bool (ByteArray.toList v.text==(ByteArray.mk #[]).toList))) [sb h1,sb h2] kr (by simp only [zaM,cond_true,cond_false,h1,h2] <;> rfl)
 ·exact walk E0ok mix0 At.value_Valid rfl kr kr 3000 (y:=AV.v (Value.bool (v.kind==(0:Int)&&(v.int==(0:Int)&&(v.text==ByteArray.mk #[]&&true))))) [sb h1,sq zbG] kr (by simp only [zaM,cond_true,cond_false,h1] <;> rfl)
def zcy (v:V):Bool :=
 bif zaM v then
  bif v.kind==2 then
   true
  else
   v.kind==(0:Int)
 else
  false
theorem zbe (v:V) (hv:v.small):zac E0 S.logic_Valid [v.av] [] (bv (zcy v)) []:=by
 unfold zcy
 cases h1:zaM v
 ·exact wk At.logic_Valid [sc (zcM v zeJ),sb h1] kr
 ·cases h2:v.kind==2
  ·exact wk At.logic_Valid [sc (zcM v zeJ),sg h1,sg h2] kr
  ·exact wk At.logic_Valid [sc (zcM v zeJ),sg h1,sb h2] kr
def lnot (v:V):V × Bool :=
 bif !zcy v then
  (V.mk 0 0 (ByteArray.mk #[]),false)
 else
  bif v.kind==0 then
   (v,true)
  else
   (V.mk (2:Int) (if (v.int==(0:Int))=true then (1:Int) else (0:Int)) (ByteArray.mk #[]),true)
theorem zfl (v:V) (hv:v.small):zac E0 S.logic_Not [v.av] [] (.tup [(lnot v).1.av,bv (lnot v).2]) []:=by
 unfold lnot
 cases h1:!zcy v
 ·cases h2:v.kind==0
  ·exact wk At.logic_Not [sc (zbe v zeJ),sb h1,sb h2,sc (zbF (v.int==0))] kr
  ·exact wk At.logic_Not [sc (zbe v zeJ),sb h1,sb h2] kr
 ·exact wk At.logic_Not [sc (zbe v zeJ),sb h1] kr
def zd8 (a b:V):V :=
 bif a.kind==2&&((a.int==if false=true then 1 else 0)&&(a.text==ByteArray.mk #[]&&true)) then
  V.mk 2 (if false=true then 1 else 0) (ByteArray.mk #[])
 else
  bif b.kind==2&&((b.int==if false=true then 1 else 0)&&(b.text==ByteArray.mk #[]&&true)) then
   V.mk 2 (if false=true then 1 else 0) (ByteArray.mk #[])
  else
   bif a.kind==0 then
    V.mk 0 0 (ByteArray.mk #[])
   else
    bif b.kind==0 then
     V.mk 0 0 (ByteArray.mk #[])
    else
     V.mk 2 (if true=true then 1 else 0) (ByteArray.mk #[])
theorem zld (a b:V) :zac E0 S.logic_and [a.av,b.av] [] ((zd8 a b).av) []:=by
 unfold zd8
 cases h1:a.kind==2&&((a.int==if false=true then 1 else 0)&&(a.text==ByteArray.mk #[]&&true))
 ·cases h2:b.kind==2&&((b.int==if false=true then 1 else 0)&&(b.text==ByteArray.mk #[]&&true))
  ·cases h3:a.kind==0
   ·cases h4:b.kind==0
    ·exact wk At.logic_and [sc (zbF false),sq zbG,sg h1,sq zbG,sb h2,sg h3,sb h4,sc (zbF true)] kr
    ·exact wk At.logic_and [sc (zbF false),sq zbG,sg h1,sq zbG,sb h2,sg h3,sb h4] kr
   ·exact wk At.logic_and [sc (zbF false),sq zbG,sg h1,sq zbG,sb h2,sb h3] kr
  ·exact wk At.logic_and [sc (zbF false),sq zbG,sg h1,sq zbG,sb h2] kr
 ·exact wk At.logic_and [sc (zbF false),sq zbG,sb h1] kr
def land (a b:V):V × Bool :=
 bif !zcy a then
  (V.mk 0 0 (ByteArray.mk #[]),false)
 else
  bif !zcy b then
   (V.mk 0 0 (ByteArray.mk #[]),false)
  else
   (zd8 a b,true)
theorem zk5 (a b:V) (ha:a.small) (hb:b.small):zac E0 S.logic_And [a.av,b.av] [] (.tup [(land a b).1.av,bv (land a b).2]) []:=by
 unfold land
 cases h1:!zcy a
 ·cases h2:!zcy b
  ·exact wk At.logic_And [sc (zbe a zeJ),sg h1,sc (zbe b zeJ),sb h2,sc (zld a b)] kr
  ·exact wk At.logic_And [sc (zbe a zeJ),sg h1,sc (zbe b zeJ),sb h2] kr
 ·exact wk At.logic_And [sc (zbe a zeJ),sb h1] kr
theorem zsa (c:Bool) {a b:V} (ha:a.small) (hb:b.small):(bif c then a else b).small:=by cases c <;> assumption
theorem zp4 (c:Bool) {α:Type} {a b:V × α} (ha:a.1.small) (hb:b.1.small):(bif c then a else b).1.small:=by cases c <;> assumption
theorem zqC (a b:V):(zd8 a b).small:=by
 unfold zd8;repeat' (first|apply zsa|exact zia)
def lor (a b:V):V × Bool :=
 bif !zcy a then
  (V.mk 0 0 (ByteArray.mk #[]),false)
 else
  bif !zcy b then
   (V.mk 0 0 (ByteArray.mk #[]),false)
  else
   ((lnot (zd8 (lnot a).fst (lnot b).fst)).fst,(lnot (zd8 (lnot a).fst (lnot b).fst)).snd)
theorem zrK (a b:V) (ha:a.small) (hb:b.small):zac E0 S.logic_Or [a.av,b.av] [] (.tup [(lor a b).1.av,bv (lor a b).2]) []:=by
 unfold lor
 cases h1:!zcy a
 ·cases h2:!zcy b
  ·exact wk At.logic_Or [sc (zbe a zhk),sg h1,sc (zbe b zhk),sb h2,sc (zfl a zhk),sc (zfl b zhk),sc (zld ((lnot a).fst) ((lnot b).fst)),sc (zfl (zd8 (lnot a).fst (lnot b).fst) zhk)] kr
  ·exact wk At.logic_Or [sc (zbe a zhk),sg h1,sc (zbe b zhk),sb h2] kr
 ·exact wk At.logic_Or [sc (zbe a zhk),sb h1] kr
def zs5 (a:V):Bool :=
 a.kind==(2:Int)&&((a.int==if true=true then (1:Int) else (0:Int))&&(a.text==ByteArray.mk #[]&&true))
theorem zmP (a:V) :zac E0 S.logic_IsTrue [a.av] [] (bv (zs5 a)) []:=by
 exact wk At.logic_IsTrue [sd [(1,[sc (zbF true)]),(2,[sq zbG])]] kr
def aAdd (a b:Int):Int × Bool :=
 bif decide (0 < b) then
  bif decide (IntKind.i64.wrap (9223372036854775807 - b) < a) then
   (0,false)
  else
   bif decide (b < 0) then
    bif decide (a < IntKind.i64.wrap (-9223372036854775808 - b)) then
     (0,false)
    else
     (IntKind.i64.wrap (a+b),true)
   else
    (IntKind.i64.wrap (a+b),true)
 else
  bif decide (b < 0) then
   bif decide (a < IntKind.i64.wrap (-9223372036854775808 - b)) then
    (0,false)
   else
    (IntKind.i64.wrap (a+b),true)
  else
   (IntKind.i64.wrap (a+b),true)
theorem zdk (a b:Int) :zac E0 S.arith_Add [iv a,iv b] [] (.tup [iv (aAdd a b).1,bv (aAdd a b).2]) []:=by
 unfold aAdd
 cases h1:decide (0 < b)
 ·cases h2:decide (b < 0)
  ·exact wk At.arith_Add [sb h1,sb h2,si (e:=IntKind.i64.wrap (a+b)) rfl] kr
  ·cases h3:decide (a < IntKind.i64.wrap (-9223372036854775808 - b))
   ·exact wk At.arith_Add [sb h1,sg h2,si (e:=IntKind.i64.wrap (-9223372036854775808 - b)) rfl,sb h3,si (e:=IntKind.i64.wrap (a+b)) rfl] kr
   ·exact wk At.arith_Add [sb h1,sg h2,si (e:=IntKind.i64.wrap (-9223372036854775808 - b)) rfl,sb h3] kr
 ·cases h4:decide (IntKind.i64.wrap (9223372036854775807 - b) < a)
  ·cases h5:decide (b < 0)
   ·exact wk At.arith_Add [sg h1,si (e:=IntKind.i64.wrap (9223372036854775807 - b)) rfl,sg h4,sb h5,si (e:=IntKind.i64.wrap (a+b)) rfl] kr
   ·cases h6:decide (a < IntKind.i64.wrap (-9223372036854775808 - b))
    ·exact wk At.arith_Add [sg h1,si (e:=IntKind.i64.wrap (9223372036854775807 - b)) rfl,sg h4,sg h5,si (e:=IntKind.i64.wrap (-9223372036854775808 - b)) rfl,sb h6,si (e:=IntKind.i64.wrap (a+b)) rfl] kr
    ·exact wk At.arith_Add [sg h1,si (e:=IntKind.i64.wrap (9223372036854775807 - b)) rfl,sg h4,sg h5,si (e:=IntKind.i64.wrap (-9223372036854775808 - b)) rfl,sb h6] kr
  ·exact wk At.arith_Add [sg h1,si (e:=IntKind.i64.wrap (9223372036854775807 - b)) rfl,sb h4] kr
def aSub (a b:Int):Int × Bool :=
 bif decide (b < 0) then
  bif decide (IntKind.i64.wrap (9223372036854775807+b) < a) then
   (0,false)
  else
   bif decide (0 < b) then
    bif decide (a < IntKind.i64.wrap (-9223372036854775808+b)) then
     (0,false)
    else
     (IntKind.i64.wrap (a - b),true)
   else
    (IntKind.i64.wrap (a - b),true)
 else
  bif decide (0 < b) then
   bif decide (a < IntKind.i64.wrap (-9223372036854775808+b)) then
    (0,false)
   else
    (IntKind.i64.wrap (a - b),true)
  else
   (IntKind.i64.wrap (a - b),true)
theorem zci (a b:Int) :zac E0 S.arith_Subtract [iv a,iv b] [] (.tup [iv (aSub a b).1,bv (aSub a b).2]) []:=by
 unfold aSub
 cases h1:decide (b < 0)
 ·cases h2:decide (0 < b)
  ·exact wk At.arith_Subtract [sb h1,sb h2,si (e:=IntKind.i64.wrap (a - b)) rfl] kr
  ·cases h3:decide (a < IntKind.i64.wrap (-9223372036854775808+b))
   ·exact wk At.arith_Subtract [sb h1,sg h2,si (e:=IntKind.i64.wrap (-9223372036854775808+b)) rfl,sb h3,si (e:=IntKind.i64.wrap (a - b)) rfl] kr
   ·exact wk At.arith_Subtract [sb h1,sg h2,si (e:=IntKind.i64.wrap (-9223372036854775808+b)) rfl,sb h3] kr
 ·cases h4:decide (IntKind.i64.wrap (9223372036854775807+b) < a)
  ·cases h5:decide (0 < b)
   ·exact wk At.arith_Subtract [sg h1,si (e:=IntKind.i64.wrap (9223372036854775807+b)) rfl,sg h4,sb h5,si (e:=IntKind.i64.wrap (a - b)) rfl] kr
   ·cases h6:decide (a < IntKind.i64.wrap (-9223372036854775808+b))
    ·exact wk At.arith_Subtract [sg h1,si (e:=IntKind.i64.wrap (9223372036854775807+b)) rfl,sg h4,sg h5,si (e:=IntKind.i64.wrap (-9223372036854775808+b)) rfl,sb h6,si (e:=IntKind.i64.wrap (a - b)) rfl] kr
    ·exact wk At.arith_Subtract [sg h1,si (e:=IntKind.i64.wrap (9223372036854775807+b)) rfl,sg h4,sg h5,si (e:=IntKind.i64.wrap (-9223372036854775808+b)) rfl,sb h6] kr
  ·exact wk At.arith_Subtract [sg h1,si (e:=IntKind.i64.wrap (9223372036854775807+b)) rfl,sb h4] kr
def aMul (a b:Int):Int × Bool :=
 bif a==0 then
  (0,true)
 else
  bif b==0 then
   (0,true)
  else
   bif a==-9223372036854775808 then
    bif b==-1 then
     (0,false)
    else
     bif b==-9223372036854775808 then
      bif a==-1 then
       (0,false)
      else
       bif IntKind.i64.wrap ((IntKind.i64.wrap (a * b)).tdiv b) != a then
        (0,false)
       else
        (IntKind.i64.wrap (a * b),true)
     else
      bif IntKind.i64.wrap ((IntKind.i64.wrap (a * b)).tdiv b) != a then
       (0,false)
      else
       (IntKind.i64.wrap (a * b),true)
   else
    bif b==-9223372036854775808 then
     bif a==-1 then
      (0,false)
     else
      bif IntKind.i64.wrap ((IntKind.i64.wrap (a * b)).tdiv b) != a then
       (0,false)
      else
       (IntKind.i64.wrap (a * b),true)
    else
     bif IntKind.i64.wrap ((IntKind.i64.wrap (a * b)).tdiv b) != a then
      (0,false)
     else
      (IntKind.i64.wrap (a * b),true)
theorem zch (a b:Int) :zac E0 S.arith_Multiply [iv a,iv b] [] (.tup [iv (aMul a b).1,bv (aMul a b).2]) []:=by
 unfold aMul
 cases h1:a==0
 ·cases h2:b==0
  ·cases h3:a==-9223372036854775808
   ·cases h4:b==-9223372036854775808
    ·cases h5:IntKind.i64.wrap ((IntKind.i64.wrap (a * b)).tdiv b) != a
     ·exact wk At.arith_Multiply [sg h1,sb h2,sb h3,sb h4,si (e:=IntKind.i64.wrap (a * b)) rfl,sx (.i (IntKind.i64.wrap ((IntKind.i64.wrap (a * b)).tdiv b))) (show b≠(0:Int)∧(IntKind.i64.wrap ((IntKind.i64.wrap (a * b)).tdiv b):Int)=IntKind.i64.wrap ((IntKind.i64.wrap (a * b)).tdiv b) from ⟨(by simp_all),rfl⟩),sb h5] kr
     ·exact wk At.arith_Multiply [sg h1,sb h2,sb h3,sb h4,si (e:=IntKind.i64.wrap (a * b)) rfl,sx (.i (IntKind.i64.wrap ((IntKind.i64.wrap (a * b)).tdiv b))) (show b≠(0:Int)∧(IntKind.i64.wrap ((IntKind.i64.wrap (a * b)).tdiv b):Int)=IntKind.i64.wrap ((IntKind.i64.wrap (a * b)).tdiv b) from ⟨(by simp_all),rfl⟩),sb h5] kr
    ·cases h6:a==-1
     ·cases h7:IntKind.i64.wrap ((IntKind.i64.wrap (a * b)).tdiv b) != a
      ·exact wk At.arith_Multiply [sg h1,sb h2,sb h3,sg h4,sb h6,si (e:=IntKind.i64.wrap (a * b)) rfl,sx (.i (IntKind.i64.wrap ((IntKind.i64.wrap (a * b)).tdiv b))) (show b≠(0:Int)∧(IntKind.i64.wrap ((IntKind.i64.wrap (a * b)).tdiv b):Int)=IntKind.i64.wrap ((IntKind.i64.wrap (a * b)).tdiv b) from ⟨(by simp_all),rfl⟩),sb h7] kr
      ·exact wk At.arith_Multiply [sg h1,sb h2,sb h3,sg h4,sb h6,si (e:=IntKind.i64.wrap (a * b)) rfl,sx (.i (IntKind.i64.wrap ((IntKind.i64.wrap (a * b)).tdiv b))) (show b≠(0:Int)∧(IntKind.i64.wrap ((IntKind.i64.wrap (a * b)).tdiv b):Int)=IntKind.i64.wrap ((IntKind.i64.wrap (a * b)).tdiv b) from ⟨(by simp_all),rfl⟩),sb h7] kr
     ·exact wk At.arith_Multiply [sg h1,sb h2,sb h3,sg h4,sb h6] kr
   ·cases h8:b==-1
    ·cases h9:b==-9223372036854775808
     ·cases h10:IntKind.i64.wrap ((IntKind.i64.wrap (a * b)).tdiv b) != a
      ·exact wk At.arith_Multiply [sg h1,sb h2,sg h3,sg h8,sb h9,si (e:=IntKind.i64.wrap (a * b)) rfl,sx (.i (IntKind.i64.wrap ((IntKind.i64.wrap (a * b)).tdiv b))) (show b≠(0:Int)∧(IntKind.i64.wrap ((IntKind.i64.wrap (a * b)).tdiv b):Int)=IntKind.i64.wrap ((IntKind.i64.wrap (a * b)).tdiv b) from ⟨(by simp_all),rfl⟩),sb h10] kr
      ·exact wk At.arith_Multiply [sg h1,sb h2,sg h3,sg h8,sb h9,si (e:=IntKind.i64.wrap (a * b)) rfl,sx (.i (IntKind.i64.wrap ((IntKind.i64.wrap (a * b)).tdiv b))) (show b≠(0:Int)∧(IntKind.i64.wrap ((IntKind.i64.wrap (a * b)).tdiv b):Int)=IntKind.i64.wrap ((IntKind.i64.wrap (a * b)).tdiv b) from ⟨(by simp_all),rfl⟩),sb h10] kr
     ·cases h11:a==-1
      ·cases h12:IntKind.i64.wrap ((IntKind.i64.wrap (a * b)).tdiv b) != a
       ·exact wk At.arith_Multiply [sg h1,sb h2,sg h3,sg h8,sg h9,sb h11,si (e:=IntKind.i64.wrap (a * b)) rfl,sx (.i (IntKind.i64.wrap ((IntKind.i64.wrap (a * b)).tdiv b))) (show b≠(0:Int)∧(IntKind.i64.wrap ((IntKind.i64.wrap (a * b)).tdiv b):Int)=IntKind.i64.wrap ((IntKind.i64.wrap (a * b)).tdiv b) from ⟨(by simp_all),rfl⟩),sb h12] kr
       ·exact wk At.arith_Multiply [sg h1,sb h2,sg h3,sg h8,sg h9,sb h11,si (e:=IntKind.i64.wrap (a * b)) rfl,sx (.i (IntKind.i64.wrap ((IntKind.i64.wrap (a * b)).tdiv b))) (show b≠(0:Int)∧(IntKind.i64.wrap ((IntKind.i64.wrap (a * b)).tdiv b):Int)=IntKind.i64.wrap ((IntKind.i64.wrap (a * b)).tdiv b) from ⟨(by simp_all),rfl⟩),sb h12] kr
      ·exact wk At.arith_Multiply [sg h1,sb h2,sg h3,sg h8,sg h9,sb h11] kr
    ·exact wk At.arith_Multiply [sg h1,sb h2,sg h3,sb h8] kr
  ·exact wk At.arith_Multiply [sg h1,sb h2] kr
 ·exact wk At.arith_Multiply [sb h1] kr
def aDiv (a b:Int):Int × Bool :=
 bif b==0 then
  (0,false)
 else
  bif a==-9223372036854775808 then
   bif b==-1 then
    (0,false)
   else
    (IntKind.i64.wrap (a.tdiv b),true)
  else
   (IntKind.i64.wrap (a.tdiv b),true)
theorem zhZ (a b:Int) :zac E0 S.arith_Divide [iv a,iv b] [] (.tup [iv (aDiv a b).1,bv (aDiv a b).2]) []:=by
 unfold aDiv
 cases h1:b==0
 ·cases h2:a==-9223372036854775808
  ·exact wk At.arith_Divide [sg h1,sb h2,sx (.i (IntKind.i64.wrap (a.tdiv b))) (show b≠(0:Int)∧(IntKind.i64.wrap (a.tdiv b):Int)=IntKind.i64.wrap (a.tdiv b) from ⟨(by simp_all),rfl⟩)] kr
  ·cases h3:b==-1
   ·exact wk At.arith_Divide [sg h1,sg h2,sb h3,sx (.i (IntKind.i64.wrap (a.tdiv b))) (show b≠(0:Int)∧(IntKind.i64.wrap (a.tdiv b):Int)=IntKind.i64.wrap (a.tdiv b) from ⟨(by simp_all),rfl⟩)] kr
   ·exact wk At.arith_Divide [sg h1,sg h2,sb h3] kr
 ·exact wk At.arith_Divide [sb h1] kr
def aMod (a b:Int):Int × Bool :=
 bif b==0 then
  (0,false)
 else
  bif b==-1 then
   (0,true)
  else
   (a.tmod b,true)
theorem ziq (a b:Int) :zac E0 S.arith_Modulo [iv a,iv b] [] (.tup [iv (aMod a b).1,bv (aMod a b).2]) []:=by
 unfold aMod
 cases h1:b==0
 ·cases h2:b==-1
  ·exact wk At.arith_Modulo [sb h1,sb h2,sx (.i (a.tmod b)) (show b≠(0:Int)∧(a.tmod b:Int)=a.tmod b from ⟨(by simp_all),rfl⟩)] kr
  ·exact wk At.arith_Modulo [sb h1,sb h2] kr
 ·exact wk At.arith_Modulo [sb h1] kr
def zcA (v:V) (ok:Bool):V × Int :=
 bif !ok then
  (V.mk 0 0 (ByteArray.mk #[]),5)
 else
  (v,0)
theorem zdb (v:V) (ok:Bool) :zac E0 S.evaluate_truth [v.av,bv ok] [] (.tup [(zcA v ok).1.av,iv (zcA v ok).2]) []:=by
 unfold zcA
 cases h1:!ok
 ·exact wk At.evaluate_truth [sb h1] kr
 ·exact wk At.evaluate_truth [sb h1] kr
def zoe (op c:Int):Bool:=bif op==3 then c==0 else bif op==4 then c != 0 else bif op==5 then decide (c < 0) else bif op==6 then decide (c≤0) else bif op==7 then decide (0 < c) else decide (0≤c)
abbrev CmpArr (op c:Int):Prop:=ArrAt [.bl false,.bl false,.bl false,bv (c==0),bv (c != 0),bv (decide (c < 0)),bv (decide (c≤0)),bv (decide (0 < c)),bv (decide (0≤c))] op 9 [bv (zoe op c)] 1
theorem ztN (op c:Int) (ho:3≤op∧op≤8):CmpArr op c:=by
 have h:op=3∨op=4∨op=5∨op=6∨op=7∨op=8:=by omega
 rcases h with rfl|rfl|rfl|rfl|rfl|rfl <;> exact ⟨by decide,by decide,rfl,rfl⟩
def vCmp (op:Int) (a b:V):V × Int :=
 bif a.kind==0 then
  (V.mk 0 0 (ByteArray.mk #[]),0)
 else
  bif b.kind==0 then
   (V.mk 0 0 (ByteArray.mk #[]),0)
  else
   bif a.kind != b.kind then
    (V.mk 0 0 (ByteArray.mk #[]),5)
   else
    (V.mk 2 (if zoe op (cmpV a b)=true then 1 else 0) (ByteArray.mk #[]),0)
theorem zbJ (op:Int) (a b:V) (he:ArrAt [.bl false,.bl false,.bl false,bv (cmpV a b==0),bv (cmpV a b != 0),bv (decide (cmpV a b < 0)),bv (decide (cmpV a b≤0)),bv (decide (0 < cmpV a b)),bv (decide (0≤cmpV a b))] op 9 [bv (zoe op (cmpV a b))] 1):zac E0 S.evaluate_comparison [iv op,a.av,b.av] [] (.tup [(vCmp op a b).1.av,iv (vCmp op a b).2]) []:=by
 unfold vCmp
 cases h1:a.kind==0
 ·cases h2:b.kind==0
  ·cases h3:a.kind != b.kind
   ·exact wk At.evaluate_comparison [sc (zae a),sg h1,sc (zae b),sb h2,sb h3,sc (zcN a b),sa he,sc (zbF (zoe op (cmpV a b)))] kr
   ·exact wk At.evaluate_comparison [sc (zae a),sg h1,sc (zae b),sb h2,sb h3] kr
  ·exact wk At.evaluate_comparison [sc (zae a),sg h1,sc (zae b),sb h2] kr
 ·exact wk At.evaluate_comparison [sc (zae a),sb h1] kr
def zdA (op:Int) (a b:V):V × Int :=
 bif a.kind==0 then
  (V.mk 0 0 (ByteArray.mk #[]),0)
 else
  bif b.kind==0 then
   (V.mk 0 0 (ByteArray.mk #[]),0)
  else
   bif a.kind != 1 then
    (V.mk 0 0 (ByteArray.mk #[]),5)
   else
    bif b.kind != 1 then
     (V.mk 0 0 (ByteArray.mk #[]),5)
    else
     bif op==12 then
      bif b.int==0 then
       (V.mk 0 0 (ByteArray.mk #[]),7)
      else
       bif op==9 then
        bif !(aAdd a.int b.int).snd then
         (V.mk 0 0 (ByteArray.mk #[]),6)
        else
         (V.mk 1 (aAdd a.int b.int).fst (ByteArray.mk #[]),0)
       else
        bif op==10 then
         bif !(aSub a.int b.int).snd then
          (V.mk 0 0 (ByteArray.mk #[]),6)
         else
          (V.mk 1 (aSub a.int b.int).fst (ByteArray.mk #[]),0)
        else
         bif op==11 then
          bif !(aMul a.int b.int).snd then
           (V.mk 0 0 (ByteArray.mk #[]),6)
          else
           (V.mk 1 (aMul a.int b.int).fst (ByteArray.mk #[]),0)
         else
          bif !(aDiv a.int b.int).snd then
           (V.mk 0 0 (ByteArray.mk #[]),6)
          else
           (V.mk 1 (aDiv a.int b.int).fst (ByteArray.mk #[]),0)
     else
      bif op==13 then
       bif b.int==0 then
        (V.mk 0 0 (ByteArray.mk #[]),7)
       else
        bif op==9 then
         bif !(aAdd a.int b.int).snd then
          (V.mk 0 0 (ByteArray.mk #[]),6)
         else
          (V.mk 1 (aAdd a.int b.int).fst (ByteArray.mk #[]),0)
        else
         bif op==10 then
          bif !(aSub a.int b.int).snd then
           (V.mk 0 0 (ByteArray.mk #[]),6)
          else
           (V.mk 1 (aSub a.int b.int).fst (ByteArray.mk #[]),0)
         else
          bif op==11 then
           bif !(aMul a.int b.int).snd then
            (V.mk 0 0 (ByteArray.mk #[]),6)
           else
            (V.mk 1 (aMul a.int b.int).fst (ByteArray.mk #[]),0)
          else
           bif !(aMod a.int b.int).snd then
            (V.mk 0 0 (ByteArray.mk #[]),6)
           else
            (V.mk 1 (aMod a.int b.int).fst (ByteArray.mk #[]),0)
      else
       bif op==9 then
        bif !(aAdd a.int b.int).snd then
         (V.mk 0 0 (ByteArray.mk #[]),6)
        else
         (V.mk 1 (aAdd a.int b.int).fst (ByteArray.mk #[]),0)
       else
        bif op==10 then
         bif !(aSub a.int b.int).snd then
          (V.mk 0 0 (ByteArray.mk #[]),6)
         else
          (V.mk 1 (aSub a.int b.int).fst (ByteArray.mk #[]),0)
        else
         bif op==11 then
          bif !(aMul a.int b.int).snd then
           (V.mk 0 0 (ByteArray.mk #[]),6)
          else
           (V.mk 1 (aMul a.int b.int).fst (ByteArray.mk #[]),0)
         else
          (V.mk 0 0 (ByteArray.mk #[]),6)
theorem zet (op:Int) (a b:V) :zac E0 S.evaluate_arithmetic [iv op,a.av,b.av] [] (.tup [(zdA op a b).1.av,iv (zdA op a b).2]) []:=by
 unfold zdA
 cases h1:a.kind==0
 ·cases h2:b.kind==0
  ·cases h3:a.kind != 1
   ·cases h4:b.kind != 1
    ·cases h5:op==12
     ·cases h6:op==13
      ·cases h7:op==9
       ·cases h8:op==10
        ·cases h9:op==11
         ·exact wk At.evaluate_arithmetic [sc (zae a),sg h1,sc (zae b),sb h2,sg h3,sb h4,sg h5,sb h6,sb h7,sb h8,sb h9,sb h5,sb h6] kr
         ·cases h10:!(aMul a.int b.int).snd
          ·exact wk At.evaluate_arithmetic [sc (zae a),sg h1,sc (zae b),sb h2,sg h3,sb h4,sg h5,sb h6,sb h7,sb h8,sb h9,sc (zch a.int b.int),sb h10,sc (zbb ((aMul a.int b.int).fst))] kr
          ·exact wk At.evaluate_arithmetic [sc (zae a),sg h1,sc (zae b),sb h2,sg h3,sb h4,sg h5,sb h6,sb h7,sb h8,sb h9,sc (zch a.int b.int),sb h10] kr
        ·cases h11:!(aSub a.int b.int).snd
         ·exact wk At.evaluate_arithmetic [sc (zae a),sg h1,sc (zae b),sb h2,sg h3,sb h4,sg h5,sb h6,sb h7,sb h8,sc (zci a.int b.int),sb h11,sc (zbb ((aSub a.int b.int).fst))] kr
         ·exact wk At.evaluate_arithmetic [sc (zae a),sg h1,sc (zae b),sb h2,sg h3,sb h4,sg h5,sb h6,sb h7,sb h8,sc (zci a.int b.int),sb h11] kr
       ·cases h12:!(aAdd a.int b.int).snd
        ·exact wk At.evaluate_arithmetic [sc (zae a),sg h1,sc (zae b),sb h2,sg h3,sb h4,sg h5,sb h6,sb h7,sc (zdk a.int b.int),sb h12,sc (zbb ((aAdd a.int b.int).fst))] kr
        ·exact wk At.evaluate_arithmetic [sc (zae a),sg h1,sc (zae b),sb h2,sg h3,sb h4,sg h5,sb h6,sb h7,sc (zdk a.int b.int),sb h12] kr
      ·cases h13:b.int==0
       ·cases h14:op==9
        ·cases h15:op==10
         ·cases h16:op==11
          ·cases h17:!(aMod a.int b.int).snd
           ·exact wk At.evaluate_arithmetic [sc (zae a),sg h1,sc (zae b),sb h2,sg h3,sb h4,sg h5,sg h6,sb h13,sb h14,sb h15,sb h16,sb h5,sb h6,sc (ziq a.int b.int),sb h17,sc (zbb ((aMod a.int b.int).fst))] kr
           ·exact wk At.evaluate_arithmetic [sc (zae a),sg h1,sc (zae b),sb h2,sg h3,sb h4,sg h5,sg h6,sb h13,sb h14,sb h15,sb h16,sb h5,sb h6,sc (ziq a.int b.int),sb h17] kr
          ·cases h18:!(aMul a.int b.int).snd
           ·exact wk At.evaluate_arithmetic [sc (zae a),sg h1,sc (zae b),sb h2,sg h3,sb h4,sg h5,sg h6,sb h13,sb h14,sb h15,sb h16,sc (zch a.int b.int),sb h18,sc (zbb ((aMul a.int b.int).fst))] kr
           ·exact wk At.evaluate_arithmetic [sc (zae a),sg h1,sc (zae b),sb h2,sg h3,sb h4,sg h5,sg h6,sb h13,sb h14,sb h15,sb h16,sc (zch a.int b.int),sb h18] kr
         ·cases h19:!(aSub a.int b.int).snd
          ·exact wk At.evaluate_arithmetic [sc (zae a),sg h1,sc (zae b),sb h2,sg h3,sb h4,sg h5,sg h6,sb h13,sb h14,sb h15,sc (zci a.int b.int),sb h19,sc (zbb ((aSub a.int b.int).fst))] kr
          ·exact wk At.evaluate_arithmetic [sc (zae a),sg h1,sc (zae b),sb h2,sg h3,sb h4,sg h5,sg h6,sb h13,sb h14,sb h15,sc (zci a.int b.int),sb h19] kr
        ·cases h20:!(aAdd a.int b.int).snd
         ·exact wk At.evaluate_arithmetic [sc (zae a),sg h1,sc (zae b),sb h2,sg h3,sb h4,sg h5,sg h6,sb h13,sb h14,sc (zdk a.int b.int),sb h20,sc (zbb ((aAdd a.int b.int).fst))] kr
         ·exact wk At.evaluate_arithmetic [sc (zae a),sg h1,sc (zae b),sb h2,sg h3,sb h4,sg h5,sg h6,sb h13,sb h14,sc (zdk a.int b.int),sb h20] kr
       ·exact wk At.evaluate_arithmetic [sc (zae a),sg h1,sc (zae b),sb h2,sg h3,sb h4,sg h5,sg h6,sb h13] kr
     ·cases h21:b.int==0
      ·cases h22:op==9
       ·cases h23:op==10
        ·cases h24:op==11
         ·cases h25:!(aDiv a.int b.int).snd
          ·exact wk At.evaluate_arithmetic [sc (zae a),sg h1,sc (zae b),sb h2,sg h3,sb h4,sb h5,sb h21,sb h22,sb h23,sb h24,sb h5,sc (zhZ a.int b.int),sb h25,sc (zbb ((aDiv a.int b.int).fst))] kr
          ·exact wk At.evaluate_arithmetic [sc (zae a),sg h1,sc (zae b),sb h2,sg h3,sb h4,sb h5,sb h21,sb h22,sb h23,sb h24,sb h5,sc (zhZ a.int b.int),sb h25] kr
         ·cases h26:!(aMul a.int b.int).snd
          ·exact wk At.evaluate_arithmetic [sc (zae a),sg h1,sc (zae b),sb h2,sg h3,sb h4,sb h5,sb h21,sb h22,sb h23,sb h24,sc (zch a.int b.int),sb h26,sc (zbb ((aMul a.int b.int).fst))] kr
          ·exact wk At.evaluate_arithmetic [sc (zae a),sg h1,sc (zae b),sb h2,sg h3,sb h4,sb h5,sb h21,sb h22,sb h23,sb h24,sc (zch a.int b.int),sb h26] kr
        ·cases h27:!(aSub a.int b.int).snd
         ·exact wk At.evaluate_arithmetic [sc (zae a),sg h1,sc (zae b),sb h2,sg h3,sb h4,sb h5,sb h21,sb h22,sb h23,sc (zci a.int b.int),sb h27,sc (zbb ((aSub a.int b.int).fst))] kr
         ·exact wk At.evaluate_arithmetic [sc (zae a),sg h1,sc (zae b),sb h2,sg h3,sb h4,sb h5,sb h21,sb h22,sb h23,sc (zci a.int b.int),sb h27] kr
       ·cases h28:!(aAdd a.int b.int).snd
        ·exact wk At.evaluate_arithmetic [sc (zae a),sg h1,sc (zae b),sb h2,sg h3,sb h4,sb h5,sb h21,sb h22,sc (zdk a.int b.int),sb h28,sc (zbb ((aAdd a.int b.int).fst))] kr
        ·exact wk At.evaluate_arithmetic [sc (zae a),sg h1,sc (zae b),sb h2,sg h3,sb h4,sb h5,sb h21,sb h22,sc (zdk a.int b.int),sb h28] kr
      ·exact wk At.evaluate_arithmetic [sc (zae a),sg h1,sc (zae b),sb h2,sg h3,sb h4,sb h5,sb h21] kr
    ·exact wk At.evaluate_arithmetic [sc (zae a),sg h1,sc (zae b),sb h2,sg h3,sb h4] kr
   ·exact wk At.evaluate_arithmetic [sc (zae a),sg h1,sc (zae b),sb h2,sb h3] kr
  ·exact wk At.evaluate_arithmetic [sc (zae a),sg h1,sc (zae b),sb h2] kr
 ·exact wk At.evaluate_arithmetic [sc (zae a),sb h1] kr
theorem zsm (op:Int) (a b:V):(vCmp op a b).1.small:=by
 unfold vCmp;repeat' (first|apply zp4|exact zia)
def zdy (x y z:V):V × Int :=
 bif (vCmp 6 y x).snd != 0 then
  (V.mk 0 0 (ByteArray.mk #[]),(vCmp 6 y x).snd)
 else
  bif (vCmp 6 x z).snd != 0 then
   (V.mk 0 0 (ByteArray.mk #[]),(vCmp 6 x z).snd)
  else
   ((zcA (land (vCmp 6 y x).fst (vCmp 6 x z).fst).fst (land (vCmp 6 y x).fst (vCmp 6 x z).fst).snd).fst,(zcA (land (vCmp 6 y x).fst (vCmp 6 x z).fst).fst (land (vCmp 6 y x).fst (vCmp 6 x z).fst).snd).snd)
theorem zjX (x y z:V) :zac E0 S.evaluate_between [vsl [x,y,z]] [] (.tup [(zdy x y z).1.av,iv (zdy x y z).2]) []:=by
 unfold zdy
 cases h1:(vCmp 6 y x).snd != 0
 ·cases h2:(vCmp 6 x z).snd != 0
  ·exact wk At.evaluate_between [sdm [(1,[se (xs:=[[iv x.kind,iv x.int,sv x.text],[iv y.kind,iv y.int,sv y.text],[iv z.kind,iv z.int,sv z.text]]) (i:=1) (c:=[iv y.kind,iv y.int,sv y.text]) (n:=3) ⟨by decide,rfl,rfl⟩]),(4,[se (xs:=[[iv x.kind,iv x.int,sv x.text],[iv y.kind,iv y.int,sv y.text],[iv z.kind,iv z.int,sv z.text]]) (i:=0) (c:=[iv x.kind,iv x.int,sv x.text]) (n:=3) ⟨by decide,rfl,rfl⟩]),(6,[sc (zbJ 6 y x ziB)])] 0 [(0,AV.sl [[iv x.kind,iv x.int,sv x.text],[iv y.kind,iv y.int,sv y.text],[iv z.kind,iv z.int,sv z.text]]),(2,AV.p 0 0),(3,iv 0),(4,AV.p 1 0),(5,iv (vCmp 6 y x).snd),(7,AV.tup [AV.agg [iv (vCmp 6 y x).fst.kind,iv (vCmp 6 y x).fst.int,sv (vCmp 6 y x).fst.text],iv (vCmp 6 y x).snd]),(8,AV.sl [[iv x.kind,iv x.int,sv x.text],[iv y.kind,iv y.int,sv y.text],[iv z.kind,iv z.int,sv z.text]]),(9,AV.dp [iv y.kind,iv y.int,sv y.text]),(10,AV.agg [iv y.kind,iv y.int,sv y.text]),(11,AV.sl [[iv x.kind,iv x.int,sv x.text],[iv y.kind,iv y.int,sv y.text],[iv z.kind,iv z.int,sv z.text]]),(12,AV.dp [iv x.kind,iv x.int,sv x.text]),(13,AV.agg [iv x.kind,iv x.int,sv x.text]),(14,AV.tup [AV.agg [iv (vCmp 6 y x).fst.kind,iv (vCmp 6 y x).fst.int,sv (vCmp 6 y x).fst.text],iv (vCmp 6 y x).snd]),(15,AV.agg [iv (vCmp 6 y x).fst.kind,iv (vCmp 6 y x).fst.int,sv (vCmp 6 y x).fst.text]),(16,iv (vCmp 6 y x).snd)] [Blk.box [iv 0,iv 0,sv (ByteArray.mk #[])],Blk.box [iv (vCmp 6 y x).fst.kind,iv (vCmp 6 y x).fst.int,sv (vCmp 6 y x).fst.text]],sb h1,sdm [(1,[se (xs:=[[iv x.kind,iv x.int,sv x.text],[iv y.kind,iv y.int,sv y.text],[iv z.kind,iv z.int,sv z.text]]) (i:=0) (c:=[iv x.kind,iv x.int,sv x.text]) (n:=3) ⟨by decide,rfl,rfl⟩]),(4,[se (xs:=[[iv x.kind,iv x.int,sv x.text],[iv y.kind,iv y.int,sv y.text],[iv z.kind,iv z.int,sv z.text]]) (i:=2) (c:=[iv z.kind,iv z.int,sv z.text]) (n:=3) ⟨by decide,rfl,rfl⟩]),(6,[sc (zbJ 6 x z ziB)])] 0 [(0,AV.sl [[iv x.kind,iv x.int,sv x.text],[iv y.kind,iv y.int,sv y.text],[iv z.kind,iv z.int,sv z.text]]),(2,AV.p 0 0),(3,iv 0),(4,AV.p 1 0),(5,iv (vCmp 6 x z).snd),(6,AV.p 2 0),(7,AV.tup [AV.agg [iv (vCmp 6 y x).fst.kind,iv (vCmp 6 y x).fst.int,sv (vCmp 6 y x).fst.text],iv (vCmp 6 y x).snd]),(8,AV.sl [[iv x.kind,iv x.int,sv x.text],[iv y.kind,iv y.int,sv y.text],[iv z.kind,iv z.int,sv z.text]]),(9,AV.dp [iv y.kind,iv y.int,sv y.text]),(10,AV.agg [iv y.kind,iv y.int,sv y.text]),(11,AV.sl [[iv x.kind,iv x.int,sv x.text],[iv y.kind,iv y.int,sv y.text],[iv z.kind,iv z.int,sv z.text]]),(12,AV.dp [iv x.kind,iv x.int,sv x.text]),(13,AV.agg [iv x.kind,iv x.int,sv x.text]),(14,AV.tup [AV.agg [iv (vCmp 6 y x).fst.kind,iv (vCmp 6 y x).fst.int,sv (vCmp 6 y x).fst.text],iv (vCmp 6 y x).snd]),(15,AV.agg [iv (vCmp 6 y x).fst.kind,iv (vCmp 6 y x).fst.int,sv (vCmp 6 y x).fst.text]),(16,iv (vCmp 6 y x).snd),(17,iv (vCmp 6 y x).snd),(18,AV.bl false),(21,AV.tup [AV.agg [iv (vCmp 6 x z).fst.kind,iv (vCmp 6 x z).fst.int,sv (vCmp 6 x z).fst.text],iv (vCmp 6 x z).snd]),(22,AV.sl [[iv x.kind,iv x.int,sv x.text],[iv y.kind,iv y.int,sv y.text],[iv z.kind,iv z.int,sv z.text]]),(23,AV.dp [iv x.kind,iv x.int,sv x.text]),(24,AV.agg [iv x.kind,iv x.int,sv x.text]),(25,AV.sl [[iv x.kind,iv x.int,sv x.text],[iv y.kind,iv y.int,sv y.text],[iv z.kind,iv z.int,sv z.text]]),(26,AV.dp [iv z.kind,iv z.int,sv z.text]),(27,AV.agg [iv z.kind,iv z.int,sv z.text]),(28,AV.tup [AV.agg [iv (vCmp 6 x z).fst.kind,iv (vCmp 6 x z).fst.int,sv (vCmp 6 x z).fst.text],iv (vCmp 6 x z).snd]),(29,AV.agg [iv (vCmp 6 x z).fst.kind,iv (vCmp 6 x z).fst.int,sv (vCmp 6 x z).fst.text]),(30,iv (vCmp 6 x z).snd)] [Blk.box [iv 0,iv 0,sv (ByteArray.mk #[])],Blk.box [iv (vCmp 6 y x).fst.kind,iv (vCmp 6 y x).fst.int,sv (vCmp 6 y x).fst.text],Blk.box [iv (vCmp 6 x z).fst.kind,iv (vCmp 6 x z).fst.int,sv (vCmp 6 x z).fst.text]],sb h2,sc (zk5 ((vCmp 6 y x).fst) ((vCmp 6 x z).fst) ziB ziB),sc (zdb ((land (vCmp 6 y x).fst (vCmp 6 x z).fst).fst) ((land (vCmp 6 y x).fst (vCmp 6 x z).fst).snd))] kr
  ·exact wk At.evaluate_between [sdm [(1,[se (xs:=[[iv x.kind,iv x.int,sv x.text],[iv y.kind,iv y.int,sv y.text],[iv z.kind,iv z.int,sv z.text]]) (i:=1) (c:=[iv y.kind,iv y.int,sv y.text]) (n:=3) ⟨by decide,rfl,rfl⟩]),(4,[se (xs:=[[iv x.kind,iv x.int,sv x.text],[iv y.kind,iv y.int,sv y.text],[iv z.kind,iv z.int,sv z.text]]) (i:=0) (c:=[iv x.kind,iv x.int,sv x.text]) (n:=3) ⟨by decide,rfl,rfl⟩]),(6,[sc (zbJ 6 y x ziB)])] 0 [(0,AV.sl [[iv x.kind,iv x.int,sv x.text],[iv y.kind,iv y.int,sv y.text],[iv z.kind,iv z.int,sv z.text]]),(2,AV.p 0 0),(3,iv 0),(4,AV.p 1 0),(5,iv (vCmp 6 y x).snd),(7,AV.tup [AV.agg [iv (vCmp 6 y x).fst.kind,iv (vCmp 6 y x).fst.int,sv (vCmp 6 y x).fst.text],iv (vCmp 6 y x).snd]),(8,AV.sl [[iv x.kind,iv x.int,sv x.text],[iv y.kind,iv y.int,sv y.text],[iv z.kind,iv z.int,sv z.text]]),(9,AV.dp [iv y.kind,iv y.int,sv y.text]),(10,AV.agg [iv y.kind,iv y.int,sv y.text]),(11,AV.sl [[iv x.kind,iv x.int,sv x.text],[iv y.kind,iv y.int,sv y.text],[iv z.kind,iv z.int,sv z.text]]),(12,AV.dp [iv x.kind,iv x.int,sv x.text]),(13,AV.agg [iv x.kind,iv x.int,sv x.text]),(14,AV.tup [AV.agg [iv (vCmp 6 y x).fst.kind,iv (vCmp 6 y x).fst.int,sv (vCmp 6 y x).fst.text],iv (vCmp 6 y x).snd]),(15,AV.agg [iv (vCmp 6 y x).fst.kind,iv (vCmp 6 y x).fst.int,sv (vCmp 6 y x).fst.text]),(16,iv (vCmp 6 y x).snd)] [Blk.box [iv 0,iv 0,sv (ByteArray.mk #[])],Blk.box [iv (vCmp 6 y x).fst.kind,iv (vCmp 6 y x).fst.int,sv (vCmp 6 y x).fst.text]],sb h1,sdm [(1,[se (xs:=[[iv x.kind,iv x.int,sv x.text],[iv y.kind,iv y.int,sv y.text],[iv z.kind,iv z.int,sv z.text]]) (i:=0) (c:=[iv x.kind,iv x.int,sv x.text]) (n:=3) ⟨by decide,rfl,rfl⟩]),(4,[se (xs:=[[iv x.kind,iv x.int,sv x.text],[iv y.kind,iv y.int,sv y.text],[iv z.kind,iv z.int,sv z.text]]) (i:=2) (c:=[iv z.kind,iv z.int,sv z.text]) (n:=3) ⟨by decide,rfl,rfl⟩]),(6,[sc (zbJ 6 x z ziB)])] 0 [(0,AV.sl [[iv x.kind,iv x.int,sv x.text],[iv y.kind,iv y.int,sv y.text],[iv z.kind,iv z.int,sv z.text]]),(2,AV.p 0 0),(3,iv 0),(4,AV.p 1 0),(5,iv (vCmp 6 x z).snd),(6,AV.p 2 0),(7,AV.tup [AV.agg [iv (vCmp 6 y x).fst.kind,iv (vCmp 6 y x).fst.int,sv (vCmp 6 y x).fst.text],iv (vCmp 6 y x).snd]),(8,AV.sl [[iv x.kind,iv x.int,sv x.text],[iv y.kind,iv y.int,sv y.text],[iv z.kind,iv z.int,sv z.text]]),(9,AV.dp [iv y.kind,iv y.int,sv y.text]),(10,AV.agg [iv y.kind,iv y.int,sv y.text]),(11,AV.sl [[iv x.kind,iv x.int,sv x.text],[iv y.kind,iv y.int,sv y.text],[iv z.kind,iv z.int,sv z.text]]),(12,AV.dp [iv x.kind,iv x.int,sv x.text]),(13,AV.agg [iv x.kind,iv x.int,sv x.text]),(14,AV.tup [AV.agg [iv (vCmp 6 y x).fst.kind,iv (vCmp 6 y x).fst.int,sv (vCmp 6 y x).fst.text],iv (vCmp 6 y x).snd]),(15,AV.agg [iv (vCmp 6 y x).fst.kind,iv (vCmp 6 y x).fst.int,sv (vCmp 6 y x).fst.text]),(16,iv (vCmp 6 y x).snd),(17,iv (vCmp 6 y x).snd),(18,AV.bl false),(21,AV.tup [AV.agg [iv (vCmp 6 x z).fst.kind,iv (vCmp 6 x z).fst.int,sv (vCmp 6 x z).fst.text],iv (vCmp 6 x z).snd]),(22,AV.sl [[iv x.kind,iv x.int,sv x.text],[iv y.kind,iv y.int,sv y.text],[iv z.kind,iv z.int,sv z.text]]),(23,AV.dp [iv x.kind,iv x.int,sv x.text]),(24,AV.agg [iv x.kind,iv x.int,sv x.text]),(25,AV.sl [[iv x.kind,iv x.int,sv x.text],[iv y.kind,iv y.int,sv y.text],[iv z.kind,iv z.int,sv z.text]]),(26,AV.dp [iv z.kind,iv z.int,sv z.text]),(27,AV.agg [iv z.kind,iv z.int,sv z.text]),(28,AV.tup [AV.agg [iv (vCmp 6 x z).fst.kind,iv (vCmp 6 x z).fst.int,sv (vCmp 6 x z).fst.text],iv (vCmp 6 x z).snd]),(29,AV.agg [iv (vCmp 6 x z).fst.kind,iv (vCmp 6 x z).fst.int,sv (vCmp 6 x z).fst.text]),(30,iv (vCmp 6 x z).snd)] [Blk.box [iv 0,iv 0,sv (ByteArray.mk #[])],Blk.box [iv (vCmp 6 y x).fst.kind,iv (vCmp 6 y x).fst.int,sv (vCmp 6 y x).fst.text],Blk.box [iv (vCmp 6 x z).fst.kind,iv (vCmp 6 x z).fst.int,sv (vCmp 6 x z).fst.text]],sb h2] kr
 ·exact wk At.evaluate_between [sdm [(1,[se (xs:=[[iv x.kind,iv x.int,sv x.text],[iv y.kind,iv y.int,sv y.text],[iv z.kind,iv z.int,sv z.text]]) (i:=1) (c:=[iv y.kind,iv y.int,sv y.text]) (n:=3) ⟨by decide,rfl,rfl⟩]),(4,[se (xs:=[[iv x.kind,iv x.int,sv x.text],[iv y.kind,iv y.int,sv y.text],[iv z.kind,iv z.int,sv z.text]]) (i:=0) (c:=[iv x.kind,iv x.int,sv x.text]) (n:=3) ⟨by decide,rfl,rfl⟩]),(6,[sc (zbJ 6 y x ziB)])] 0 [(0,AV.sl [[iv x.kind,iv x.int,sv x.text],[iv y.kind,iv y.int,sv y.text],[iv z.kind,iv z.int,sv z.text]]),(2,AV.p 0 0),(3,iv 0),(4,AV.p 1 0),(5,iv (vCmp 6 y x).snd),(7,AV.tup [AV.agg [iv (vCmp 6 y x).fst.kind,iv (vCmp 6 y x).fst.int,sv (vCmp 6 y x).fst.text],iv (vCmp 6 y x).snd]),(8,AV.sl [[iv x.kind,iv x.int,sv x.text],[iv y.kind,iv y.int,sv y.text],[iv z.kind,iv z.int,sv z.text]]),(9,AV.dp [iv y.kind,iv y.int,sv y.text]),(10,AV.agg [iv y.kind,iv y.int,sv y.text]),(11,AV.sl [[iv x.kind,iv x.int,sv x.text],[iv y.kind,iv y.int,sv y.text],[iv z.kind,iv z.int,sv z.text]]),(12,AV.dp [iv x.kind,iv x.int,sv x.text]),(13,AV.agg [iv x.kind,iv x.int,sv x.text]),(14,AV.tup [AV.agg [iv (vCmp 6 y x).fst.kind,iv (vCmp 6 y x).fst.int,sv (vCmp 6 y x).fst.text],iv (vCmp 6 y x).snd]),(15,AV.agg [iv (vCmp 6 y x).fst.kind,iv (vCmp 6 y x).fst.int,sv (vCmp 6 y x).fst.text]),(16,iv (vCmp 6 y x).snd)] [Blk.box [iv 0,iv 0,sv (ByteArray.mk #[])],Blk.box [iv (vCmp 6 y x).fst.kind,iv (vCmp 6 y x).fst.int,sv (vCmp 6 y x).fst.text]],sb h1] kr
def zlr (op:Int) (nt:Bool) (a:V):V × Int :=
 (V.mk (2:Int) (if (!(a.kind==(0:Int))==nt)=true then (1:Int) else (0:Int)) (ByteArray.mk #[]),0)
theorem ze9 (op:Int) (nt:Bool) (a:V) (val:V) (tn nm:Str) (xs:List X) (qs:List Qy) :zac E0 S.evaluate_operation [X.av (.mk 6 op nt val tn nm xs qs),vsl [a]] [] (.tup [(zlr op nt a).1.av,iv (zlr op nt a).2]) []:=by
 exact wk At.evaluate_operation [sb (rfl:true=true),sd [(1,[se (xs:=[[iv a.kind,iv a.int,sv a.text]]) (i:=0) (c:=[iv a.kind,iv a.int,sv a.text]) (n:=3) ⟨by decide,rfl,rfl⟩]),(3,[sc (zae a)]),(7,[sc (zbF (!(a.kind==0)==nt))])]] kr
def zsc (op:Int) (nt:Bool) (a:V):V × Int :=
 ((zcA (lnot a).fst (lnot a).snd).fst,(zcA (lnot a).fst (lnot a).snd).snd)
theorem zf8 (op:Int) (nt:Bool) (a:V) (val:V) (tn nm:Str) (xs:List X) (qs:List Qy) (ha:a.small):zac E0 S.evaluate_operation [X.av (.mk 3 op nt val tn nm xs qs),vsl [a]] [] (.tup [(zsc op nt a).1.av,iv (zsc op nt a).2]) []:=by
 exact wk At.evaluate_operation [sb (rfl:false=false),sb (rfl:true=true),se (xs:=[[iv a.kind,iv a.int,sv a.text]]) (i:=0) (c:=[iv a.kind,iv a.int,sv a.text]) (n:=3) ⟨by decide,rfl,rfl⟩,sc (zfl a zkG),sc (zdb ((lnot a).fst) ((lnot a).snd))] kr
def zr2 (op:Int) (nt:Bool) (a:V):V × Int :=
 ((zdA 10 (V.mk 1 0 (ByteArray.mk #[])) a).fst,(zdA 10 (V.mk 1 0 (ByteArray.mk #[])) a).snd)
theorem zf4 (op:Int) (nt:Bool) (a:V) (val:V) (tn nm:Str) (xs:List X) (qs:List Qy) :zac E0 S.evaluate_operation [X.av (.mk 4 op nt val tn nm xs qs),vsl [a]] [] (.tup [(zr2 op nt a).1.av,iv (zr2 op nt a).2]) []:=by
 exact wk At.evaluate_operation [sb (rfl:false=false),sb (rfl:false=false),sb (rfl:false=false),sb (rfl:true=true),sd [(2,[se (xs:=[[iv a.kind,iv a.int,sv a.text]]) (i:=0) (c:=[iv a.kind,iv a.int,sv a.text]) (n:=3) ⟨by decide,rfl,rfl⟩]),(0,[sc (zbb 0)]),(4,[sc (zet 10 (V.mk 1 0 (ByteArray.mk #[])) a)])]] kr
def zl7 (op:Int) (nt:Bool) (a b c:V):V × Int :=
 ((zdy a b c).fst,(zdy a b c).snd)
theorem zgf (op:Int) (nt:Bool) (a b c:V) (val:V) (tn nm:Str) (xs:List X) (qs:List Qy) :zac E0 S.evaluate_operation [X.av (.mk 7 op nt val tn nm xs qs),vsl [a,b,c]] [] (.tup [(zl7 op nt a b c).1.av,iv (zl7 op nt a b c).2]) []:=by
 exact wk At.evaluate_operation [sb (rfl:false=false),sb (rfl:false=false),sb (rfl:true=true),sc (zjX a b c)] kr
def zko (op:Int) (nt:Bool) (a b:V):V × Int :=
 bif op==2 then
  ((zcA (land a b).fst (land a b).snd).fst,(zcA (land a b).fst (land a b).snd).snd)
 else
  bif op==1 then
   ((zcA (lor a b).fst (lor a b).snd).fst,(zcA (lor a b).fst (lor a b).snd).snd)
  else
   bif decide (op≤8) then
    ((vCmp op a b).fst,(vCmp op a b).snd)
   else
    ((zdA op a b).fst,(zdA op a b).snd)
theorem zgc (op:Int) (nt:Bool) (a b:V) (val:V) (tn nm:Str) (xs:List X) (qs:List Qy) (ha:a.small) (hb:b.small) (ho:1≤op∧op≤13):zac E0 S.evaluate_operation [X.av (.mk 5 op nt val tn nm xs qs),vsl [a,b]] [] (.tup [(zko op nt a b).1.av,iv (zko op nt a b).2]) []:=by
 unfold zko
 cases h1:op==2
 ·cases h2:op==1
  ·cases h3:decide (op≤8)
   ·exact wk At.evaluate_operation [sb (rfl:false=false),sb (rfl:false=false),sb (rfl:false=false),sb (rfl:false=false),sb h1,sb h2,sb h3,sd [(3,[se (xs:=[[iv a.kind,iv a.int,sv a.text],[iv b.kind,iv b.int,sv b.text]]) (i:=0) (c:=[iv a.kind,iv a.int,sv a.text]) (n:=3) ⟨by decide,rfl,rfl⟩]),(6,[se (xs:=[[iv a.kind,iv a.int,sv a.text],[iv b.kind,iv b.int,sv b.text]]) (i:=1) (c:=[iv b.kind,iv b.int,sv b.text]) (n:=3) ⟨by decide,rfl,rfl⟩]),(8,[sc (zet op a b)])]] kr
   ·exact wk At.evaluate_operation [sb (rfl:false=false),sb (rfl:false=false),sb (rfl:false=false),sb (rfl:false=false),sb h1,sb h2,sb h3,sd [(3,[se (xs:=[[iv a.kind,iv a.int,sv a.text],[iv b.kind,iv b.int,sv b.text]]) (i:=0) (c:=[iv a.kind,iv a.int,sv a.text]) (n:=3) ⟨by decide,rfl,rfl⟩]),(6,[se (xs:=[[iv a.kind,iv a.int,sv a.text],[iv b.kind,iv b.int,sv b.text]]) (i:=1) (c:=[iv b.kind,iv b.int,sv b.text]) (n:=3) ⟨by decide,rfl,rfl⟩]),(8,[sc (zbJ op a b zkG)])]] kr
  ·exact wk At.evaluate_operation [sb (rfl:false=false),sb (rfl:false=false),sb (rfl:false=false),sb (rfl:false=false),sb h1,sb h2,sd [(1,[se (xs:=[[iv a.kind,iv a.int,sv a.text],[iv b.kind,iv b.int,sv b.text]]) (i:=0) (c:=[iv a.kind,iv a.int,sv a.text]) (n:=3) ⟨by decide,rfl,rfl⟩]),(4,[se (xs:=[[iv a.kind,iv a.int,sv a.text],[iv b.kind,iv b.int,sv b.text]]) (i:=1) (c:=[iv b.kind,iv b.int,sv b.text]) (n:=3) ⟨by decide,rfl,rfl⟩]),(6,[sc (zrK a b zkG zkG)]),(9,[sc (zdb ((lor a b).fst) ((lor a b).snd))])]] kr
 ·exact wk At.evaluate_operation [sb (rfl:false=false),sb (rfl:false=false),sb (rfl:false=false),sb (rfl:false=false),sb h1,sd [(1,[se (xs:=[[iv a.kind,iv a.int,sv a.text],[iv b.kind,iv b.int,sv b.text]]) (i:=0) (c:=[iv a.kind,iv a.int,sv a.text]) (n:=3) ⟨by decide,rfl,rfl⟩]),(4,[se (xs:=[[iv a.kind,iv a.int,sv a.text],[iv b.kind,iv b.int,sv b.text]]) (i:=1) (c:=[iv b.kind,iv b.int,sv b.text]) (n:=3) ⟨by decide,rfl,rfl⟩]),(6,[sc (zk5 a b zkG zkG)]),(9,[sc (zdb ((land a b).fst) ((land a b).snd))])]] kr
end Go.AM
namespace Go.AM
set_option maxRecDepth 100000
set_option linter.unusedSimpArgs false
set_option linter.unusedVariables false
abbrev zad {α:Type} (l:List α):Prop:=l.length≤1000000000
def idxF {α:Type} (p:α→Bool):List α→Nat→Int
 | [],_=>-1
 | x::r,i=>bif p x then (i:Int) else idxF p r (i+1)
theorem zdI {α:Type} (p:α→Bool):∀ (l:List α) (i:Nat),(idxF p l i=-1∧l.find? p=none)∨∃ (j:Nat) (x:α),idxF p l i=((i+j:Nat):Int)∧l[j]?=some x∧l.find? p=some x
 | [],i=>.inl ⟨rfl,rfl⟩
 | x::r,i=>by
  cases hp:p x
  ·rcases zdI p r (i+1) with ⟨h1,h2⟩|⟨j,y,h1,h2,h3⟩
   ·exact .inl ⟨by simp [idxF,hp,h1],by simp [hp,h2]⟩
   ·exact .inr ⟨j+1,y,by simp only [idxF,hp,cond_false,h1];omega,by simpa using h2,by simp [hp,h3]⟩
  ·exact .inr ⟨0,x,by simp [idxF,hp],by simp,by simp [hp]⟩
def zaK (t:Tb) (n:Str):Bool :=
 ByteArray.toList t.sch.name==ByteArray.toList n
theorem zfu (t:Tb) (n:Str) :zac E0 S.evaluate_find_c1 [t.av,.p 0 0] [.box [sv n]] (bv (zaK t n)) [.box [sv n]]:=by
 exact walkH E0ok mix0 At.evaluate_find_c1 rfl kr kr 3000 (y:=AV.v (Value.bool (ByteArray.toList t.sch.name==ByteArray.toList n))) (H:=[Blk.box [AV.v (Value.string n)]]) [] kr (⟨rfl,rfl⟩)
def colC (t:Col) (n:Str):Bool :=
 ByteArray.toList t.name==ByteArray.toList n
theorem zgP (t:Col) (n:Str) :zac E0 S.schema_Find_c1 [.agg t.cells,.p 0 0] [.box [sv n]] (bv (colC t n)) [.box [sv n]]:=by
 exact walkH E0ok mix0 At.schema_Find_c1 rfl kr kr 3000 (y:=AV.v (Value.bool (ByteArray.toList t.name==ByteArray.toList n))) (H:=[Blk.box [AV.v (Value.string n)]]) [] kr (⟨rfl,rfl⟩)
noncomputable def zrF (tb:List Tb) (n:Str) (i:Nat):Cfg:=zar B.slices_IndexFunc_Table 0 [(0,.sl (tb.map Tb.cells)),(1,.fn S.evaluate_find_c1 [.p 0 0]),(7,iv ((tb.map Tb.cells).length:Nat)),(8,iv (i:Nat))] [.box [sv n]]
theorem zsB (tb:List Tb) (n:Str) (hl:zad tb):∀ (k i:Nat),i+k=tb.length→Good E0 B.slices_IndexFunc_Table [.box [sv n]] (zrF tb n i) (Shut 1 fun r h=>r=iv (idxF (fun t=>zaK t n) (tb.drop i) i)∧h=[.box [sv n]]):=by
 intro k
 induction k with
 | zero =>
  intro i hi
  refine zaa ?_
  have h0:decide ((i:Int) < (((tb.map Tb.cells).length:Nat):Int))=false:=by simp;omega
  have e0:tb.drop i=[]:=List.drop_of_length_le (by omega)
  rw [e0]
  exact zd9 E0ok mix0 3000 (y:=AV.v (Value.int IntKind.i64 (-1:Int))) (H:=[Blk.box [AV.v (Value.string n)]]) [sb h0] kr (⟨rfl,rfl⟩)
 | succ k ih =>
  intro i hi
  have ih:=ih (i+1) (by omega)
  obtain ⟨x,hx⟩:=zay (l:=tb) (i:=i) (by omega)
  have h0:decide ((i:Int) < (((tb.map Tb.cells).length:Nat):Int))=true:=by simp;omega
  have hw:=zao i (by omega)
  rw [zaN hx]
  simp only [idxF]
  refine zaa ?_
  cases h1:zaK x n
  ·exact zd5 E0ok mix0 3000 (c':=zrF tb n (i+(1:Nat))) [sb h0,se (zah Tb.cells hx rfl),sl [(0:Nat)] (zfu x n),sb h1,si hw] [0,1,7,8] 1 kr kr (by simpa only [cond_true,cond_false,h1] using ih)
  ·exact zd9 E0ok mix0 3000 (y:=AV.v (Value.int IntKind.i64 (i:Int))) (H:=[Blk.box [AV.v (Value.string n)]]) [sb h0,se (zah Tb.cells hx rfl),sl [(0:Nat)] (zfu x n),sb h1] kr (⟨by simp only [cond_true,cond_false,h1],rfl⟩)
theorem zdx (tb:List Tb) (n:Str) (hl:zad tb):zac E0 S.slices_IndexFunc_Table [.sl (tb.map Tb.cells),.fn S.evaluate_find_c1 [.p 0 0]] [.box [sv n]] (iv (idxF (fun t=>zaK t n) tb 0)) [.box [sv n]]:=by
 exact ze7 E0ok mix0 At.slices_IndexFunc_Table rfl kr kr 3000 (c':=zrF tb n (0:Nat)) [] [0,1,7,8] 1 kr kr (by simpa using zsB tb n hl tb.length 0 (by simp))
noncomputable def zsv (tb:List Col) (n:Str) (i:Nat):Cfg:=zar B.slices_IndexFunc_Column 0 [(0,.sl (tb.map Col.cells)),(1,.fn S.schema_Find_c1 [.p 0 0]),(7,iv ((tb.map Col.cells).length:Nat)),(8,iv (i:Nat))] [.box [sv n]]
theorem zrP (tb:List Col) (n:Str) (hl:zad tb):∀ (k i:Nat),i+k=tb.length→Good E0 B.slices_IndexFunc_Column [.box [sv n]] (zsv tb n i) (Shut 1 fun r h=>r=iv (idxF (fun t=>colC t n) (tb.drop i) i)∧h=[.box [sv n]]):=by
 intro k
 induction k with
 | zero =>
  intro i hi
  refine zaa ?_
  have h0:decide ((i:Int) < (((tb.map Col.cells).length:Nat):Int))=false:=by simp;omega
  have e0:tb.drop i=[]:=List.drop_of_length_le (by omega)
  rw [e0]
  exact zd9 E0ok mix0 3000 (y:=AV.v (Value.int IntKind.i64 (-1:Int))) (H:=[Blk.box [AV.v (Value.string n)]]) [sb h0] kr (⟨rfl,rfl⟩)
 | succ k ih =>
  intro i hi
  have ih:=ih (i+1) (by omega)
  obtain ⟨x,hx⟩:=zay (l:=tb) (i:=i) (by omega)
  have h0:decide ((i:Int) < (((tb.map Col.cells).length:Nat):Int))=true:=by simp;omega
  have hw:=zao i (by omega)
  rw [zaN hx]
  simp only [idxF]
  refine zaa ?_
  cases h1:colC x n
  ·exact zd5 E0ok mix0 3000 (c':=zsv tb n (i+(1:Nat))) [sb h0,se (zah Col.cells hx rfl),sl [(0:Nat)] (zgP x n),sb h1,si hw] [0,1,7,8] 1 kr kr (by simpa only [cond_true,cond_false,h1] using ih)
  ·exact zd9 E0ok mix0 3000 (y:=AV.v (Value.int IntKind.i64 (i:Int))) (H:=[Blk.box [AV.v (Value.string n)]]) [sb h0,se (zah Col.cells hx rfl),sl [(0:Nat)] (zgP x n),sb h1] kr (⟨by simp only [cond_true,cond_false,h1],rfl⟩)
theorem zf5 (tb:List Col) (n:Str) (hl:zad tb):zac E0 S.slices_IndexFunc_Column [.sl (tb.map Col.cells),.fn S.schema_Find_c1 [.p 0 0]] [.box [sv n]] (iv (idxF (fun t=>colC t n) tb 0)) [.box [sv n]]:=by
 exact ze7 E0ok mix0 At.slices_IndexFunc_Column rfl kr kr 3000 (c':=zsv tb n (0:Nat)) [] [0,1,7,8] 1 kr kr (by simpa using zrP tb n hl tb.length 0 (by simp))
def zbU (tb:List Tb) (n:Str):Option Tb:=tb.find? fun t=>zaK t n
theorem zfE (tb:List Tb) (n:Str) (hl:zad tb) (t:Tb) (h:zbU tb n=some t):Pure S.evaluate_find [tsl tb,sv n] (.tup [t.av,bv true]):=by
 have hk:=zdx tb n hl
 rcases zdI (fun t=>zaK t n) tb 0 with ⟨_,h2⟩|⟨j,y,h1,hx,h3⟩
 ·rw [zbU,h2] at h;cases h
 rw [zbU,h3] at h
 cases h
 rw [Nat.zero_add] at h1
 rw [h1] at hk
 have h4:decide (((j:Nat):Int) < 0)=false:=by simp
 exact walk E0ok mix0 At.evaluate_find rfl kr kr 3000 (y:=AV.tup [AV.agg [AV.v (Value.string t.sch.name),AV.sl (List.map Col.cells t.sch.cols),AV.v (Value.int IntKind.i64 t.next),AV.sl (List.map Rw.cells t.rows)],AV.v (Value.bool true)]) [sl [(0:Nat)] (hk ),sb (rfl:false=false),se (zah Tb.cells hx rfl)] kr (rfl)
def Tb.zero:Tb:=⟨⟨⟨#[]⟩,[]⟩,0,[]⟩
theorem zfJ (tb:List Tb) (n:Str) (hl:zad tb) (h:zbU tb n=none):Pure S.evaluate_find [tsl tb,sv n] (.tup [Tb.zero.av,bv false]):=by
 have hk:=zdx tb n hl
 rcases zdI (fun t=>zaK t n) tb 0 with ⟨h1,_⟩|⟨j,y,h1,hx,h3⟩
 ·rw [h1] at hk
  exact walk E0ok mix0 At.evaluate_find rfl kr kr 3000 (y:=AV.tup [AV.agg [AV.v (Value.string (ByteArray.mk #[])),AV.sl [],AV.v (Value.int IntKind.i64 (0:Int)),AV.sl []],AV.v (Value.bool false)]) [sl [(0:Nat)] (hk ),sb (rfl:true=true)] kr (rfl)
 ·rw [zbU,h3] at h;cases h
theorem zbt (s:Sch) (n:Str) (hl:zad s.cols):Pure S.schema_Find [s.av,sv n] (iv (idxF (fun c=>colC c n) s.cols 0)):=by
 exact walk E0ok mix0 At.schema_Find rfl kr kr 3000 (y:=AV.v (Value.int IntKind.i64 (idxF (fun t=>colC t n) s.cols (0:Nat)))) [sl [(1:Nat)] (zf5 s.cols n (by first|assumption|(simp;done)|omega|(simp;omega)))] kr (rfl)
def zaE (kind op:Int) (xs:List X) (qs:List Qy) (it wh:List X):Bool :=
 bif kind==(1:Int) then
  bif (↑(zab xs).length:Int) != (0:Int) then
   false
  else
   bif (↑(zaf qs).length:Int) != (0:Int) then
    false
   else
    true
 else
  bif kind==(2:Int) then
   bif (↑(zab xs).length:Int) != (0:Int) then
    false
   else
    bif (↑(zaf qs).length:Int) != (0:Int) then
     false
    else
     true
  else
   bif kind==(3:Int) then
    bif (↑(zab xs).length:Int) != (1:Int) then
     false
    else
     bif (↑(zaf qs).length:Int) != (0:Int) then
      false
     else
      true
   else
    bif kind==(4:Int) then
     bif (↑(zab xs).length:Int) != (1:Int) then
      false
     else
      bif (↑(zaf qs).length:Int) != (0:Int) then
       false
      else
       true
    else
     bif kind==(6:Int) then
      bif (↑(zab xs).length:Int) != (1:Int) then
       false
      else
       bif (↑(zaf qs).length:Int) != (0:Int) then
        false
       else
        true
     else
      bif kind==(5:Int) then
       bif decide (op < (1:Int)) then
        false
       else
        bif decide ((13:Int) < op) then
         false
        else
         bif (↑(zab xs).length:Int) != (2:Int) then
          false
         else
          bif (↑(zaf qs).length:Int) != (0:Int) then
           false
          else
           true
      else
       bif kind==(7:Int) then
        bif (↑(zab xs).length:Int) != (3:Int) then
         false
        else
         bif (↑(zaf qs).length:Int) != (0:Int) then
          false
         else
          true
       else
        bif kind==(8:Int) then
         bif (↑(zab xs).length:Int) != (0:Int) then
          false
         else
          bif (↑(zaf qs).length:Int) != (1:Int) then
           false
          else
           bif (↑(zab it).length:Int)==(0:Int) then
            decide ((↑(zab wh).length:Int)≤(1:Int))
           else
            false
        else
         bif kind==(9:Int) then
          bif (↑(zab xs).length:Int) != (0:Int) then
           false
          else
           bif (↑(zaf qs).length:Int) != (1:Int) then
            false
           else
            bif (↑(zab it).length:Int)==(0:Int) then
             decide ((↑(zab wh).length:Int)≤(1:Int))
            else
             false
         else
          bif kind==(10:Int) then
           bif (↑(zab xs).length:Int) != (0:Int) then
            false
           else
            bif (↑(zaf qs).length:Int) != (1:Int) then
             false
            else
             bif (↑(zab it).length:Int)==(1:Int) then
              decide ((↑(zab wh).length:Int)≤(1:Int))
             else
              false
          else
           bif kind==(11:Int) then
            bif (↑(zab xs).length:Int) != (0:Int) then
             false
            else
             bif (↑(zaf qs).length:Int) != (1:Int) then
              false
             else
              bif (↑(zab it).length:Int)==(1:Int) then
               decide ((↑(zab wh).length:Int)≤(1:Int))
              else
               false
           else
            bif kind==(12:Int) then
             bif (↑(zab xs).length:Int) != (0:Int) then
              false
             else
              bif (↑(zaf qs).length:Int) != (1:Int) then
               false
              else
               bif (↑(zab it).length:Int)==(1:Int) then
                decide ((↑(zab wh).length:Int)≤(1:Int))
               else
                false
            else
             false
theorem zk0 (kind op:Int) (xs:List X) (qs:List Qy) (it wh:List X) (nt:Bool) (val:V) (tn nm:Str) (st:Bool) (fm:Str) (hq:qs[0]?=some (Qy.mk st it fm wh)):zac E0 S.scope_Formed [X.av (.mk kind op nt val tn nm xs qs)] [] (bv (zaE kind op xs qs it wh)) []:=by
 cases h1:kind==(1:Int)
 ·cases h2:kind==(2:Int)
  ·cases h3:kind==(3:Int)
   ·cases h4:kind==(4:Int)
    ·cases h5:kind==(6:Int)
     ·cases h6:kind==(5:Int)
      ·cases h7:kind==(7:Int)
       ·cases h8:kind==(8:Int)
        ·cases h9:kind==(9:Int)
         ·cases h10:kind==(10:Int)
          ·cases h11:kind==(11:Int)
           ·cases h12:kind==(12:Int)
            ·exact walk E0ok mix0 At.scope_Formed rfl kr kr 3000 (y:=AV.v (Value.bool false)) [sb h1,sb h2,sb h3,sb h4,sb h5,sb h6,sb h7,sb h8,sb h9,sb h10,sb h11,sb h12] kr (by simp only [zaE,cond_true,cond_false,h1,h2,h3,h4,h5,h6,h7,h8,h9,h10,h11,h12] <;> rfl)
            ·cases h13:(↑(zab xs).length:Int) != (0:Int)
             ·cases h14:(↑(zaf qs).length:Int) != (1:Int)
              ·cases h15:(↑(zab it).length:Int)==(1:Int)
               ·exact walk E0ok mix0 At.scope_Formed rfl kr kr 3000 (y:=AV.v (Value.bool false)) [sb h1,sb h2,sb h3,sb h4,sb h5,sb h6,sb h7,sb h8,sb h9,sb h10,sb h11,sb h12,sg h13,sb h14,sg (rfl:false=false),se (zaR hq),sb h15] kr (by simp only [zaE,cond_true,cond_false,h1,h2,h3,h4,h5,h6,h7,h8,h9,h10,h11,h12,h13,h14,h15] <;> rfl)
               ·exact walk E0ok mix0 At.scope_Formed rfl kr kr 3000 (y:=AV.v (Value.bool (decide ((↑(zab wh).length:Int)≤(1:Int))))) [sb h1,sb h2,sb h3,sb h4,sb h5,sb h6,sb h7,sb h8,sb h9,sb h10,sb h11,sb h12,sg h13,sb h14,sg (rfl:false=false),se (zaR hq),sg h15,se (zaR hq)] kr (by simp only [zaE,cond_true,cond_false,h1,h2,h3,h4,h5,h6,h7,h8,h9,h10,h11,h12,h13,h14,h15] <;> rfl)
              ·exact walk E0ok mix0 At.scope_Formed rfl kr kr 3000 (y:=AV.v (Value.bool false)) [sb h1,sb h2,sb h3,sb h4,sb h5,sb h6,sb h7,sb h8,sb h9,sb h10,sb h11,sb h12,sg h13,sb h14] kr (by simp only [zaE,cond_true,cond_false,h1,h2,h3,h4,h5,h6,h7,h8,h9,h10,h11,h12,h13,h14] <;> rfl)
             ·exact walk E0ok mix0 At.scope_Formed rfl kr kr 3000 (y:=AV.v (Value.bool false)) [sb h1,sb h2,sb h3,sb h4,sb h5,sb h6,sb h7,sb h8,sb h9,sb h10,sb h11,sb h12,sb h13] kr (by simp only [zaE,cond_true,cond_false,h1,h2,h3,h4,h5,h6,h7,h8,h9,h10,h11,h12,h13] <;> rfl)
           ·cases h16:(↑(zab xs).length:Int) != (0:Int)
            ·cases h17:(↑(zaf qs).length:Int) != (1:Int)
             ·cases h18:(↑(zab it).length:Int)==(1:Int)
              ·exact walk E0ok mix0 At.scope_Formed rfl kr kr 3000 (y:=AV.v (Value.bool false)) [sb h1,sb h2,sb h3,sb h4,sb h5,sb h6,sb h7,sb h8,sb h9,sb h10,sb h11,sg h16,sb h17,sg (rfl:false=false),se (zaR hq),sb h18] kr (by simp only [zaE,cond_true,cond_false,h1,h2,h3,h4,h5,h6,h7,h8,h9,h10,h11,h16,h17,h18] <;> rfl)
              ·exact walk E0ok mix0 At.scope_Formed rfl kr kr 3000 (y:=AV.v (Value.bool (decide ((↑(zab wh).length:Int)≤(1:Int))))) [sb h1,sb h2,sb h3,sb h4,sb h5,sb h6,sb h7,sb h8,sb h9,sb h10,sb h11,sg h16,sb h17,sg (rfl:false=false),se (zaR hq),sg h18,se (zaR hq)] kr (by simp only [zaE,cond_true,cond_false,h1,h2,h3,h4,h5,h6,h7,h8,h9,h10,h11,h16,h17,h18] <;> rfl)
             ·exact walk E0ok mix0 At.scope_Formed rfl kr kr 3000 (y:=AV.v (Value.bool false)) [sb h1,sb h2,sb h3,sb h4,sb h5,sb h6,sb h7,sb h8,sb h9,sb h10,sb h11,sg h16,sb h17] kr (by simp only [zaE,cond_true,cond_false,h1,h2,h3,h4,h5,h6,h7,h8,h9,h10,h11,h16,h17] <;> rfl)
            ·exact walk E0ok mix0 At.scope_Formed rfl kr kr 3000 (y:=AV.v (Value.bool false)) [sb h1,sb h2,sb h3,sb h4,sb h5,sb h6,sb h7,sb h8,sb h9,sb h10,sb h11,sb h16] kr (by simp only [zaE,cond_true,cond_false,h1,h2,h3,h4,h5,h6,h7,h8,h9,h10,h11,h16] <;> rfl)
          ·cases h19:(↑(zab xs).length:Int) != (0:Int)
           ·cases h20:(↑(zaf qs).length:Int) != (1:Int)
            ·cases h21:(↑(zab it).length:Int)==(1:Int)
             ·exact walk E0ok mix0 At.scope_Formed rfl kr kr 3000 (y:=AV.v (Value.bool false)) [sb h1,sb h2,sb h3,sb h4,sb h5,sb h6,sb h7,sb h8,sb h9,sb h10,sg h19,sb h20,sg (rfl:false=false),se (zaR hq),sb h21] kr (by simp only [zaE,cond_true,cond_false,h1,h2,h3,h4,h5,h6,h7,h8,h9,h10,h19,h20,h21] <;> rfl)
             ·exact walk E0ok mix0 At.scope_Formed rfl kr kr 3000 (y:=AV.v (Value.bool (decide ((↑(zab wh).length:Int)≤(1:Int))))) [sb h1,sb h2,sb h3,sb h4,sb h5,sb h6,sb h7,sb h8,sb h9,sb h10,sg h19,sb h20,sg (rfl:false=false),se (zaR hq),sg h21,se (zaR hq)] kr (by simp only [zaE,cond_true,cond_false,h1,h2,h3,h4,h5,h6,h7,h8,h9,h10,h19,h20,h21] <;> rfl)
            ·exact walk E0ok mix0 At.scope_Formed rfl kr kr 3000 (y:=AV.v (Value.bool false)) [sb h1,sb h2,sb h3,sb h4,sb h5,sb h6,sb h7,sb h8,sb h9,sb h10,sg h19,sb h20] kr (by simp only [zaE,cond_true,cond_false,h1,h2,h3,h4,h5,h6,h7,h8,h9,h10,h19,h20] <;> rfl)
           ·exact walk E0ok mix0 At.scope_Formed rfl kr kr 3000 (y:=AV.v (Value.bool false)) [sb h1,sb h2,sb h3,sb h4,sb h5,sb h6,sb h7,sb h8,sb h9,sb h10,sb h19] kr (by simp only [zaE,cond_true,cond_false,h1,h2,h3,h4,h5,h6,h7,h8,h9,h10,h19] <;> rfl)
         ·cases h22:(↑(zab xs).length:Int) != (0:Int)
          ·cases h23:(↑(zaf qs).length:Int) != (1:Int)
           ·cases h24:(↑(zab it).length:Int)==(0:Int)
            ·exact walk E0ok mix0 At.scope_Formed rfl kr kr 3000 (y:=AV.v (Value.bool false)) [sb h1,sb h2,sb h3,sb h4,sb h5,sb h6,sb h7,sb h8,sb h9,sg h22,sb h23,sg (rfl:false=false),se (zaR hq),sb h24] kr (by simp only [zaE,cond_true,cond_false,h1,h2,h3,h4,h5,h6,h7,h8,h9,h22,h23,h24] <;> rfl)
            ·exact walk E0ok mix0 At.scope_Formed rfl kr kr 3000 (y:=AV.v (Value.bool (decide ((↑(zab wh).length:Int)≤(1:Int))))) [sb h1,sb h2,sb h3,sb h4,sb h5,sb h6,sb h7,sb h8,sb h9,sg h22,sb h23,sg (rfl:false=false),se (zaR hq),sg h24,se (zaR hq)] kr (by simp only [zaE,cond_true,cond_false,h1,h2,h3,h4,h5,h6,h7,h8,h9,h22,h23,h24] <;> rfl)
           ·exact walk E0ok mix0 At.scope_Formed rfl kr kr 3000 (y:=AV.v (Value.bool false)) [sb h1,sb h2,sb h3,sb h4,sb h5,sb h6,sb h7,sb h8,sb h9,sg h22,sb h23] kr (by simp only [zaE,cond_true,cond_false,h1,h2,h3,h4,h5,h6,h7,h8,h9,h22,h23] <;> rfl)
          ·exact walk E0ok mix0 At.scope_Formed rfl kr kr 3000 (y:=AV.v (Value.bool false)) [sb h1,sb h2,sb h3,sb h4,sb h5,sb h6,sb h7,sb h8,sb h9,sb h22] kr (by simp only [zaE,cond_true,cond_false,h1,h2,h3,h4,h5,h6,h7,h8,h9,h22] <;> rfl)
        ·cases h25:(↑(zab xs).length:Int) != (0:Int)
         ·cases h26:(↑(zaf qs).length:Int) != (1:Int)
          ·cases h27:(↑(zab it).length:Int)==(0:Int)
           ·exact walk E0ok mix0 At.scope_Formed rfl kr kr 3000 (y:=AV.v (Value.bool false)) [sb h1,sb h2,sb h3,sb h4,sb h5,sb h6,sb h7,sb h8,sg h25,sb h26,sg (rfl:false=false),se (zaR hq),sb h27] kr (by simp only [zaE,cond_true,cond_false,h1,h2,h3,h4,h5,h6,h7,h8,h25,h26,h27] <;> rfl)
           ·exact walk E0ok mix0 At.scope_Formed rfl kr kr 3000 (y:=AV.v (Value.bool (decide ((↑(zab wh).length:Int)≤(1:Int))))) [sb h1,sb h2,sb h3,sb h4,sb h5,sb h6,sb h7,sb h8,sg h25,sb h26,sg (rfl:false=false),se (zaR hq),sg h27,se (zaR hq)] kr (by simp only [zaE,cond_true,cond_false,h1,h2,h3,h4,h5,h6,h7,h8,h25,h26,h27] <;> rfl)
          ·exact walk E0ok mix0 At.scope_Formed rfl kr kr 3000 (y:=AV.v (Value.bool false)) [sb h1,sb h2,sb h3,sb h4,sb h5,sb h6,sb h7,sb h8,sg h25,sb h26] kr (by simp only [zaE,cond_true,cond_false,h1,h2,h3,h4,h5,h6,h7,h8,h25,h26] <;> rfl)
         ·exact walk E0ok mix0 At.scope_Formed rfl kr kr 3000 (y:=AV.v (Value.bool false)) [sb h1,sb h2,sb h3,sb h4,sb h5,sb h6,sb h7,sb h8,sb h25] kr (by simp only [zaE,cond_true,cond_false,h1,h2,h3,h4,h5,h6,h7,h8,h25] <;> rfl)
       ·cases h28:(↑(zab xs).length:Int) != (3:Int)
        ·cases h29:(↑(zaf qs).length:Int) != (0:Int)
         ·exact walk E0ok mix0 At.scope_Formed rfl kr kr 3000 (y:=AV.v (Value.bool true)) [sb h1,sb h2,sb h3,sb h4,sb h5,sb h6,sb h7,sg h28,sb h29,sb (rfl:true=true)] kr (by simp only [zaE,cond_true,cond_false,h1,h2,h3,h4,h5,h6,h7,h28,h29] <;> rfl)
         ·exact walk E0ok mix0 At.scope_Formed rfl kr kr 3000 (y:=AV.v (Value.bool false)) [sb h1,sb h2,sb h3,sb h4,sb h5,sb h6,sb h7,sg h28,sb h29] kr (by simp only [zaE,cond_true,cond_false,h1,h2,h3,h4,h5,h6,h7,h28,h29] <;> rfl)
        ·exact walk E0ok mix0 At.scope_Formed rfl kr kr 3000 (y:=AV.v (Value.bool false)) [sb h1,sb h2,sb h3,sb h4,sb h5,sb h6,sb h7,sb h28] kr (by simp only [zaE,cond_true,cond_false,h1,h2,h3,h4,h5,h6,h7,h28] <;> rfl)
      ·cases h30:decide (op < (1:Int))
       ·cases h31:decide ((13:Int) < op)
        ·cases h32:(↑(zab xs).length:Int) != (2:Int)
         ·cases h33:(↑(zaf qs).length:Int) != (0:Int)
          ·exact walk E0ok mix0 At.scope_Formed rfl kr kr 3000 (y:=AV.v (Value.bool true)) [sb h1,sb h2,sb h3,sb h4,sb h5,sb h6,sg h30,sb h31,sg h32,sb h33,sb (rfl:true=true)] kr (by simp only [zaE,cond_true,cond_false,h1,h2,h3,h4,h5,h6,h30,h31,h32,h33] <;> rfl)
          ·exact walk E0ok mix0 At.scope_Formed rfl kr kr 3000 (y:=AV.v (Value.bool false)) [sb h1,sb h2,sb h3,sb h4,sb h5,sb h6,sg h30,sb h31,sg h32,sb h33] kr (by simp only [zaE,cond_true,cond_false,h1,h2,h3,h4,h5,h6,h30,h31,h32,h33] <;> rfl)
         ·exact walk E0ok mix0 At.scope_Formed rfl kr kr 3000 (y:=AV.v (Value.bool false)) [sb h1,sb h2,sb h3,sb h4,sb h5,sb h6,sg h30,sb h31,sb h32] kr (by simp only [zaE,cond_true,cond_false,h1,h2,h3,h4,h5,h6,h30,h31,h32] <;> rfl)
        ·exact walk E0ok mix0 At.scope_Formed rfl kr kr 3000 (y:=AV.v (Value.bool false)) [sb h1,sb h2,sb h3,sb h4,sb h5,sb h6,sg h30,sb h31] kr (by simp only [zaE,cond_true,cond_false,h1,h2,h3,h4,h5,h6,h30,h31] <;> rfl)
       ·exact walk E0ok mix0 At.scope_Formed rfl kr kr 3000 (y:=AV.v (Value.bool false)) [sb h1,sb h2,sb h3,sb h4,sb h5,sb h6,sb h30] kr (by simp only [zaE,cond_true,cond_false,h1,h2,h3,h4,h5,h6,h30] <;> rfl)
     ·cases h34:(↑(zab xs).length:Int) != (1:Int)
      ·cases h35:(↑(zaf qs).length:Int) != (0:Int)
       ·exact walk E0ok mix0 At.scope_Formed rfl kr kr 3000 (y:=AV.v (Value.bool true)) [sb h1,sb h2,sb h3,sb h4,sb h5,sg h34,sb h35,sb (rfl:true=true)] kr (by simp only [zaE,cond_true,cond_false,h1,h2,h3,h4,h5,h34,h35] <;> rfl)
       ·exact walk E0ok mix0 At.scope_Formed rfl kr kr 3000 (y:=AV.v (Value.bool false)) [sb h1,sb h2,sb h3,sb h4,sb h5,sg h34,sb h35] kr (by simp only [zaE,cond_true,cond_false,h1,h2,h3,h4,h5,h34,h35] <;> rfl)
      ·exact walk E0ok mix0 At.scope_Formed rfl kr kr 3000 (y:=AV.v (Value.bool false)) [sb h1,sb h2,sb h3,sb h4,sb h5,sb h34] kr (by simp only [zaE,cond_true,cond_false,h1,h2,h3,h4,h5,h34] <;> rfl)
    ·cases h36:(↑(zab xs).length:Int) != (1:Int)
     ·cases h37:(↑(zaf qs).length:Int) != (0:Int)
      ·exact walk E0ok mix0 At.scope_Formed rfl kr kr 3000 (y:=AV.v (Value.bool true)) [sb h1,sb h2,sb h3,sb h4,sg h36,sb h37,sb (rfl:true=true)] kr (by simp only [zaE,cond_true,cond_false,h1,h2,h3,h4,h36,h37] <;> rfl)
      ·exact walk E0ok mix0 At.scope_Formed rfl kr kr 3000 (y:=AV.v (Value.bool false)) [sb h1,sb h2,sb h3,sb h4,sg h36,sb h37] kr (by simp only [zaE,cond_true,cond_false,h1,h2,h3,h4,h36,h37] <;> rfl)
     ·exact walk E0ok mix0 At.scope_Formed rfl kr kr 3000 (y:=AV.v (Value.bool false)) [sb h1,sb h2,sb h3,sb h4,sb h36] kr (by simp only [zaE,cond_true,cond_false,h1,h2,h3,h4,h36] <;> rfl)
   ·cases h38:(↑(zab xs).length:Int) != (1:Int)
    ·cases h39:(↑(zaf qs).length:Int) != (0:Int)
     ·exact walk E0ok mix0 At.scope_Formed rfl kr kr 3000 (y:=AV.v (Value.bool true)) [sb h1,sb h2,sb h3,sg h38,sb h39,sb (rfl:true=true)] kr (by simp only [zaE,cond_true,cond_false,h1,h2,h3,h38,h39] <;> rfl)
     ·exact walk E0ok mix0 At.scope_Formed rfl kr kr 3000 (y:=AV.v (Value.bool false)) [sb h1,sb h2,sb h3,sg h38,sb h39] kr (by simp only [zaE,cond_true,cond_false,h1,h2,h3,h38,h39] <;> rfl)
    ·exact walk E0ok mix0 At.scope_Formed rfl kr kr 3000 (y:=AV.v (Value.bool false)) [sb h1,sb h2,sb h3,sb h38] kr (by simp only [zaE,cond_true,cond_false,h1,h2,h3,h38] <;> rfl)
  ·cases h40:(↑(zab xs).length:Int) != (0:Int)
   ·cases h41:(↑(zaf qs).length:Int) != (0:Int)
    ·exact walk E0ok mix0 At.scope_Formed rfl kr kr 3000 (y:=AV.v (Value.bool true)) [sb h1,sb h2,sg h40,sb h41,sb (rfl:true=true)] kr (by simp only [zaE,cond_true,cond_false,h1,h2,h40,h41] <;> rfl)
    ·exact walk E0ok mix0 At.scope_Formed rfl kr kr 3000 (y:=AV.v (Value.bool false)) [sb h1,sb h2,sg h40,sb h41] kr (by simp only [zaE,cond_true,cond_false,h1,h2,h40,h41] <;> rfl)
   ·exact walk E0ok mix0 At.scope_Formed rfl kr kr 3000 (y:=AV.v (Value.bool false)) [sb h1,sb h2,sb h40] kr (by simp only [zaE,cond_true,cond_false,h1,h2,h40] <;> rfl)
 ·cases h42:(↑(zab xs).length:Int) != (0:Int)
  ·cases h43:(↑(zaf qs).length:Int) != (0:Int)
   ·exact walk E0ok mix0 At.scope_Formed rfl kr kr 3000 (y:=AV.v (Value.bool true)) [sb h1,sg h42,sb h43,sb (rfl:true=true)] kr (by simp only [zaE,cond_true,cond_false,h1,h42,h43] <;> rfl)
   ·exact walk E0ok mix0 At.scope_Formed rfl kr kr 3000 (y:=AV.v (Value.bool false)) [sb h1,sg h42,sb h43] kr (by simp only [zaE,cond_true,cond_false,h1,h42,h43] <;> rfl)
  ·exact walk E0ok mix0 At.scope_Formed rfl kr kr 3000 (y:=AV.v (Value.bool false)) [sb h1,sb h42] kr (by simp only [zaE,cond_true,cond_false,h1,h42] <;> rfl)
def za3 (kind op:Int) (xs:List X):Bool :=
 bif kind==(1:Int) then
  bif (↑(zab xs).length:Int) != (0:Int) then
   false
  else
   true
 else
  bif kind==(2:Int) then
   bif (↑(zab xs).length:Int) != (0:Int) then
    false
   else
    true
  else
   bif kind==(3:Int) then
    bif (↑(zab xs).length:Int) != (1:Int) then
     false
    else
     true
   else
    bif kind==(4:Int) then
     bif (↑(zab xs).length:Int) != (1:Int) then
      false
     else
      true
    else
     bif kind==(6:Int) then
      bif (↑(zab xs).length:Int) != (1:Int) then
       false
      else
       true
     else
      bif kind==(5:Int) then
       bif decide (op < (1:Int)) then
        false
       else
        bif decide ((13:Int) < op) then
         false
        else
         bif (↑(zab xs).length:Int) != (2:Int) then
          false
         else
          true
      else
       bif kind==(7:Int) then
        bif (↑(zab xs).length:Int) != (3:Int) then
         false
        else
         true
       else
        bif kind==(8:Int) then
         bif (↑(zab xs).length:Int) != (0:Int) then
          false
         else
          false
        else
         bif kind==(9:Int) then
          bif (↑(zab xs).length:Int) != (0:Int) then
           false
          else
           false
         else
          bif kind==(10:Int) then
           bif (↑(zab xs).length:Int) != (0:Int) then
            false
           else
            false
          else
           bif kind==(11:Int) then
            bif (↑(zab xs).length:Int) != (0:Int) then
             false
            else
             false
           else
            bif kind==(12:Int) then
             bif (↑(zab xs).length:Int) != (0:Int) then
              false
             else
              false
            else
             false
theorem zkT (kind op:Int) (xs:List X) (nt:Bool) (val:V) (tn nm:Str):zac E0 S.scope_Formed [X.av (.mk kind op nt val tn nm xs [])] [] (bv (za3 kind op xs)) []:=by
 cases h1:kind==(1:Int)
 ·cases h2:kind==(2:Int)
  ·cases h3:kind==(3:Int)
   ·cases h4:kind==(4:Int)
    ·cases h5:kind==(6:Int)
     ·cases h6:kind==(5:Int)
      ·cases h7:kind==(7:Int)
       ·cases h8:kind==(8:Int)
        ·cases h9:kind==(9:Int)
         ·cases h10:kind==(10:Int)
          ·cases h11:kind==(11:Int)
           ·cases h12:kind==(12:Int)
            ·exact walk E0ok mix0 At.scope_Formed rfl kr kr 3000 (y:=AV.v (Value.bool false)) [sb h1,sb h2,sb h3,sb h4,sb h5,sb h6,sb h7,sb h8,sb h9,sb h10,sb h11,sb h12] kr (by simp only [za3,cond_true,cond_false,h1,h2,h3,h4,h5,h6,h7,h8,h9,h10,h11,h12] <;> rfl)
            ·cases h13:(↑(zab xs).length:Int) != (0:Int)
             ·exact walk E0ok mix0 At.scope_Formed rfl kr kr 3000 (y:=AV.v (Value.bool false)) [sb h1,sb h2,sb h3,sb h4,sb h5,sb h6,sb h7,sb h8,sb h9,sb h10,sb h11,sb h12,sg h13,sb (rfl:true=true)] kr (by simp only [za3,cond_true,cond_false,h1,h2,h3,h4,h5,h6,h7,h8,h9,h10,h11,h12,h13] <;> rfl)
             ·exact walk E0ok mix0 At.scope_Formed rfl kr kr 3000 (y:=AV.v (Value.bool false)) [sb h1,sb h2,sb h3,sb h4,sb h5,sb h6,sb h7,sb h8,sb h9,sb h10,sb h11,sb h12,sb h13] kr (by simp only [za3,cond_true,cond_false,h1,h2,h3,h4,h5,h6,h7,h8,h9,h10,h11,h12,h13] <;> rfl)
           ·cases h14:(↑(zab xs).length:Int) != (0:Int)
            ·exact walk E0ok mix0 At.scope_Formed rfl kr kr 3000 (y:=AV.v (Value.bool false)) [sb h1,sb h2,sb h3,sb h4,sb h5,sb h6,sb h7,sb h8,sb h9,sb h10,sb h11,sg h14,sb (rfl:true=true)] kr (by simp only [za3,cond_true,cond_false,h1,h2,h3,h4,h5,h6,h7,h8,h9,h10,h11,h14] <;> rfl)
            ·exact walk E0ok mix0 At.scope_Formed rfl kr kr 3000 (y:=AV.v (Value.bool false)) [sb h1,sb h2,sb h3,sb h4,sb h5,sb h6,sb h7,sb h8,sb h9,sb h10,sb h11,sb h14] kr (by simp only [za3,cond_true,cond_false,h1,h2,h3,h4,h5,h6,h7,h8,h9,h10,h11,h14] <;> rfl)
          ·cases h15:(↑(zab xs).length:Int) != (0:Int)
           ·exact walk E0ok mix0 At.scope_Formed rfl kr kr 3000 (y:=AV.v (Value.bool false)) [sb h1,sb h2,sb h3,sb h4,sb h5,sb h6,sb h7,sb h8,sb h9,sb h10,sg h15,sb (rfl:true=true)] kr (by simp only [za3,cond_true,cond_false,h1,h2,h3,h4,h5,h6,h7,h8,h9,h10,h15] <;> rfl)
           ·exact walk E0ok mix0 At.scope_Formed rfl kr kr 3000 (y:=AV.v (Value.bool false)) [sb h1,sb h2,sb h3,sb h4,sb h5,sb h6,sb h7,sb h8,sb h9,sb h10,sb h15] kr (by simp only [za3,cond_true,cond_false,h1,h2,h3,h4,h5,h6,h7,h8,h9,h10,h15] <;> rfl)
         ·cases h16:(↑(zab xs).length:Int) != (0:Int)
          ·exact walk E0ok mix0 At.scope_Formed rfl kr kr 3000 (y:=AV.v (Value.bool false)) [sb h1,sb h2,sb h3,sb h4,sb h5,sb h6,sb h7,sb h8,sb h9,sg h16,sb (rfl:true=true)] kr (by simp only [za3,cond_true,cond_false,h1,h2,h3,h4,h5,h6,h7,h8,h9,h16] <;> rfl)
          ·exact walk E0ok mix0 At.scope_Formed rfl kr kr 3000 (y:=AV.v (Value.bool false)) [sb h1,sb h2,sb h3,sb h4,sb h5,sb h6,sb h7,sb h8,sb h9,sb h16] kr (by simp only [za3,cond_true,cond_false,h1,h2,h3,h4,h5,h6,h7,h8,h9,h16] <;> rfl)
        ·cases h17:(↑(zab xs).length:Int) != (0:Int)
         ·exact walk E0ok mix0 At.scope_Formed rfl kr kr 3000 (y:=AV.v (Value.bool false)) [sb h1,sb h2,sb h3,sb h4,sb h5,sb h6,sb h7,sb h8,sg h17,sb (rfl:true=true)] kr (by simp only [za3,cond_true,cond_false,h1,h2,h3,h4,h5,h6,h7,h8,h17] <;> rfl)
         ·exact walk E0ok mix0 At.scope_Formed rfl kr kr 3000 (y:=AV.v (Value.bool false)) [sb h1,sb h2,sb h3,sb h4,sb h5,sb h6,sb h7,sb h8,sb h17] kr (by simp only [za3,cond_true,cond_false,h1,h2,h3,h4,h5,h6,h7,h8,h17] <;> rfl)
       ·cases h18:(↑(zab xs).length:Int) != (3:Int)
        ·exact walk E0ok mix0 At.scope_Formed rfl kr kr 3000 (y:=AV.v (Value.bool true)) [sb h1,sb h2,sb h3,sb h4,sb h5,sb h6,sb h7,sg h18,sb (rfl:false=false),sb (rfl:true=true)] kr (by simp only [za3,cond_true,cond_false,h1,h2,h3,h4,h5,h6,h7,h18] <;> rfl)
        ·exact walk E0ok mix0 At.scope_Formed rfl kr kr 3000 (y:=AV.v (Value.bool false)) [sb h1,sb h2,sb h3,sb h4,sb h5,sb h6,sb h7,sb h18] kr (by simp only [za3,cond_true,cond_false,h1,h2,h3,h4,h5,h6,h7,h18] <;> rfl)
      ·cases h19:decide (op < (1:Int))
       ·cases h20:decide ((13:Int) < op)
        ·cases h21:(↑(zab xs).length:Int) != (2:Int)
         ·exact walk E0ok mix0 At.scope_Formed rfl kr kr 3000 (y:=AV.v (Value.bool true)) [sb h1,sb h2,sb h3,sb h4,sb h5,sb h6,sg h19,sb h20,sg h21,sb (rfl:false=false),sb (rfl:true=true)] kr (by simp only [za3,cond_true,cond_false,h1,h2,h3,h4,h5,h6,h19,h20,h21] <;> rfl)
         ·exact walk E0ok mix0 At.scope_Formed rfl kr kr 3000 (y:=AV.v (Value.bool false)) [sb h1,sb h2,sb h3,sb h4,sb h5,sb h6,sg h19,sb h20,sb h21] kr (by simp only [za3,cond_true,cond_false,h1,h2,h3,h4,h5,h6,h19,h20,h21] <;> rfl)
        ·exact walk E0ok mix0 At.scope_Formed rfl kr kr 3000 (y:=AV.v (Value.bool false)) [sb h1,sb h2,sb h3,sb h4,sb h5,sb h6,sg h19,sb h20] kr (by simp only [za3,cond_true,cond_false,h1,h2,h3,h4,h5,h6,h19,h20] <;> rfl)
       ·exact walk E0ok mix0 At.scope_Formed rfl kr kr 3000 (y:=AV.v (Value.bool false)) [sb h1,sb h2,sb h3,sb h4,sb h5,sb h6,sb h19] kr (by simp only [za3,cond_true,cond_false,h1,h2,h3,h4,h5,h6,h19] <;> rfl)
     ·cases h22:(↑(zab xs).length:Int) != (1:Int)
      ·exact walk E0ok mix0 At.scope_Formed rfl kr kr 3000 (y:=AV.v (Value.bool true)) [sb h1,sb h2,sb h3,sb h4,sb h5,sg h22,sb (rfl:false=false),sb (rfl:true=true)] kr (by simp only [za3,cond_true,cond_false,h1,h2,h3,h4,h5,h22] <;> rfl)
      ·exact walk E0ok mix0 At.scope_Formed rfl kr kr 3000 (y:=AV.v (Value.bool false)) [sb h1,sb h2,sb h3,sb h4,sb h5,sb h22] kr (by simp only [za3,cond_true,cond_false,h1,h2,h3,h4,h5,h22] <;> rfl)
    ·cases h23:(↑(zab xs).length:Int) != (1:Int)
     ·exact walk E0ok mix0 At.scope_Formed rfl kr kr 3000 (y:=AV.v (Value.bool true)) [sb h1,sb h2,sb h3,sb h4,sg h23,sb (rfl:false=false),sb (rfl:true=true)] kr (by simp only [za3,cond_true,cond_false,h1,h2,h3,h4,h23] <;> rfl)
     ·exact walk E0ok mix0 At.scope_Formed rfl kr kr 3000 (y:=AV.v (Value.bool false)) [sb h1,sb h2,sb h3,sb h4,sb h23] kr (by simp only [za3,cond_true,cond_false,h1,h2,h3,h4,h23] <;> rfl)
   ·cases h24:(↑(zab xs).length:Int) != (1:Int)
    ·exact walk E0ok mix0 At.scope_Formed rfl kr kr 3000 (y:=AV.v (Value.bool true)) [sb h1,sb h2,sb h3,sg h24,sb (rfl:false=false),sb (rfl:true=true)] kr (by simp only [za3,cond_true,cond_false,h1,h2,h3,h24] <;> rfl)
    ·exact walk E0ok mix0 At.scope_Formed rfl kr kr 3000 (y:=AV.v (Value.bool false)) [sb h1,sb h2,sb h3,sb h24] kr (by simp only [za3,cond_true,cond_false,h1,h2,h3,h24] <;> rfl)
  ·cases h25:(↑(zab xs).length:Int) != (0:Int)
   ·exact walk E0ok mix0 At.scope_Formed rfl kr kr 3000 (y:=AV.v (Value.bool true)) [sb h1,sb h2,sg h25,sb (rfl:false=false),sb (rfl:true=true)] kr (by simp only [za3,cond_true,cond_false,h1,h2,h25] <;> rfl)
   ·exact walk E0ok mix0 At.scope_Formed rfl kr kr 3000 (y:=AV.v (Value.bool false)) [sb h1,sb h2,sb h25] kr (by simp only [za3,cond_true,cond_false,h1,h2,h25] <;> rfl)
 ·cases h26:(↑(zab xs).length:Int) != (0:Int)
  ·exact walk E0ok mix0 At.scope_Formed rfl kr kr 3000 (y:=AV.v (Value.bool true)) [sb h1,sg h26,sb (rfl:false=false),sb (rfl:true=true)] kr (by simp only [za3,cond_true,cond_false,h1,h26] <;> rfl)
  ·exact walk E0ok mix0 At.scope_Formed rfl kr kr 3000 (y:=AV.v (Value.bool false)) [sb h1,sb h26] kr (by simp only [za3,cond_true,cond_false,h1,h26] <;> rfl)
end Go.AM
namespace Go.AM
set_option maxRecDepth 100000
set_option linter.unusedSimpArgs false
set_option linter.unusedVariables false
theorem zeQ {p:Prop} (h:p:=by first|assumption|omega|(simp;done)|(simp;omega)):p:=h
def modI (v n:Int):Int:=bif decide (v.tmod n < 0) then IntKind.i64.wrap (v.tmod n+n) else v.tmod n
theorem zqB (v n:Int) (hn:n≠0):Pure S.world_Mod [iv v,iv n] (iv (modI v n)):=by
 unfold modI
 cases h1:decide (v.tmod n < (0:Int))
 ·exact wk At.world_Mod [sx (.i (v.tmod n)) (show ¬n=(0:Int)∧(v.tmod n:Int)=v.tmod n from ⟨hn,rfl⟩),sb h1] kr
 ·exact wk At.world_Mod [sx (.i (v.tmod n)) (show ¬n=(0:Int)∧(v.tmod n:Int)=v.tmod n from ⟨hn,rfl⟩),sb h1,si (e:=IntKind.i64.wrap (v.tmod n+n)) rfl] kr
def Tp.next (t:Tp) (n:Int):Nat × Tp:=match t.l[t.pos]? with
 | some x=>((modI x n).toNat,⟨t.l,t.pos+1,t.ok⟩)
 | none=>(0,t)
theorem zmh (v n:Int) (hn:0 < n) (hv:n≤9223372036854775807):0≤modI v n∧modI v n < n:=by
 unfold modI
 have h1:=Int.tmod_lt_of_pos v hn
 have h2:-n < v.tmod n:=by
  have:=Int.tmod_lt_of_pos (-v) hn
  rw [Int.neg_tmod] at this;omega
 cases h:decide (v.tmod n < 0)
 ·simp at h;simp;omega
 ·simp at h;simp only [cond_true];rw [IntKind.wrap_i64];omega
theorem Tp.next_lt (t:Tp) (n:Int) (hn:0 < n) (hv:n≤9223372036854775807):((t.next n).1:Int) < n:=by
 unfold Tp.next
 split
 ·have:=zmh (by assumption) n hn hv
  simp;omega
 ·simpa using hn
abbrev Pos (n:Int):Prop:=0 < n∧n≤9223372036854775807
theorem zjO (i:Nat) (h:i < 9223372036854775806):IntKind.i64.wrap (((i+1:Nat):Int) - 1)=((i:Nat):Int):=by
 rw [IntKind.wrap_i64];omega
theorem zvu (t:Tp) (n:Int) (hx:t.l.length≤t.pos):zac E0 S.world_Tape_Next [.p 0 0,iv n] [.box t.cells] (iv 0) [.box t.cells]:=by
 have h0:decide ((((t.l.map fun n=>[iv n]).length:Nat):Int)≤((t.pos:Nat):Int))=true:=by simp;omega
 exact wk At.world_Tape_Next [sd [],sb h0] kr
theorem zhS (t:Tp) (n:Int) (x:Int) (hn:n≠0) (hx:t.l[t.pos]?=some x) (h0:decide ((((t.l.map fun n=>[iv n]).length:Nat):Int)≤((t.pos:Nat):Int))=false) (hw:IntKind.i64.wrap ((t.pos:Int)+1)=((t.pos+1:Nat):Int)) (hw2:IntKind.i64.wrap (((t.pos+1:Nat):Int) - 1)=((t.pos:Nat):Int)):∃ (a:Int),a=modI x n∧zac E0 S.world_Tape_Next [.p 0 0,iv n] [.box t.cells] (iv a) [.box (Tp.cells ⟨t.l,t.pos+1,t.ok⟩)]:=by
 exact ⟨modI x n,by first|assumption|trivial|(simp;done)|omega|(simp;omega)|(simp at *;omega),wk At.world_Tape_Next [sd [],sb h0,si hw,sd [(8,[si hw2]),(9,[se (zah (fun n=>[iv n]) hx rfl)]),(12,[sc (zqB x n zeQ)])]] kr⟩
theorem c_next (t:Tp) (n:Int) (hn:Pos n):zac E0 S.world_Tape_Next [.p 0 0,iv n] [.box t.cells] (iv ((t.next n).1:Nat)) [.box (t.next n).2.cells]:=by
 unfold Tp.next
 cases hx:t.l[t.pos]? with
 | none=>exact zvu t n (by simpa using hx)
 | some x =>
  have hl:=zcj hx
  have ho:=t.ok
  obtain ⟨a,rfl,hc⟩:=zhS t n x (by omega) hx (by simp;omega) (zao t.pos (by omega)) (zjO t.pos (by omega))
  have h2:=zmh x n hn.1 hn.2
  simp only
  rw [Int.toNat_of_nonneg h2.1]
  exact hc
theorem zak (t:Tp) (n:Int) (hn:Pos n):∃ (a:Nat) (t':Tp),(a:Int) < n∧zac E0 S.world_Tape_Next [.p 0 0,iv n] [.box t.cells] (iv a) [.box t'.cells] :=
 ⟨_,_,t.next_lt n hn.1 hn.2,c_next t n hn⟩
abbrev I64 (n:Int):Prop:=-9223372036854775808≤n∧n≤9223372036854775807
theorem zcY (n:Int):I64 (IntKind.i64.wrap n):=by simp only [I64];rw [IntKind.wrap_i64];omega
theorem zam (t:Tp) (n:Int) (hn:Pos n):∃ (b:Bool) (t':Tp),zac E0 S.world_Tape_Bool [.p 0 0,iv n] [.box t.cells] (bv b) [.box t'.cells]:=by
 obtain ⟨a1,t1,q1,c1⟩:=(zak t n zeQ)
 exact ⟨(a1:Int)==IntKind.i64.wrap (n - 1),t1,wk At.world_Tape_Bool [sl [0] c1,si (e:=IntKind.i64.wrap (n - 1)) rfl] kr⟩
theorem za8 (t:Tp) :∃ (a:Int) (t':Tp),(-3≤a∧a≤12)∧zac E0 S.world_Tape_Small [.p 0 0] [.box t.cells] (iv a) [.box t'.cells]:=by
 obtain ⟨a1,t1,q1,c1⟩:=(zak t 16 zeQ)
 exact ⟨IntKind.i64.wrap ((a1:Int) - 3),t1,by rw [IntKind.wrap_i64];omega,wk At.world_Tape_Small [sl [0] c1,si (e:=IntKind.i64.wrap ((a1:Int) - 3)) rfl] kr⟩
theorem zji (t:Tp) :∃ (a:Int) (t':Tp),I64 a∧zac E0 S.world_Tape_Number [.p 0 0] [.box t.cells] (iv a) [.box t'.cells]:=by
 obtain ⟨a1,t1,q1,c1⟩:=(zak t 8 zeQ)
 cases h2:(a1:Int)==0
 ·cases h3:(a1:Int)==1
  ·cases h4:(a1:Int)==2
   ·obtain ⟨a5,t5,q5,c5⟩:=(zak t1 9 zeQ)
    exact ⟨(a5:Int),t5,by first|exact zcY _|(simp only [I64];omega),wk At.world_Tape_Number [sl [0] c1,sb h2,sb h3,sb h4,sl [0] c5] kr⟩
   ·obtain ⟨a6,t6,q6,c6⟩:=(zak t1 9 zeQ)
    exact ⟨IntKind.i64.wrap (-(a6:Int)),t6,by first|exact zcY _|(simp only [I64];omega),wk At.world_Tape_Number [sl [0] c1,sb h2,sb h3,sb h4,sl [0] c6,si (e:=IntKind.i64.wrap (-(a6:Int))) rfl] kr⟩
  ·obtain ⟨a7,t7,q7,c7⟩:=(zak t1 3 zeQ)
   exact ⟨IntKind.i64.wrap (-9223372036854775808+(a7:Int)),t7,by first|exact zcY _|(simp only [I64];omega),wk At.world_Tape_Number [sl [0] c1,sb h2,sb h3,sl [0] c7,si (e:=IntKind.i64.wrap (-9223372036854775808+(a7:Int))) rfl] kr⟩
 ·obtain ⟨a8,t8,q8,c8⟩:=(zak t1 3 zeQ)
  exact ⟨IntKind.i64.wrap (9223372036854775807 - (a8:Int)),t8,by first|exact zcY _|(simp only [I64];omega),wk At.world_Tape_Number [sl [0] c1,sb h2,sl [0] c8,si (e:=IntKind.i64.wrap (9223372036854775807 - (a8:Int))) rfl] kr⟩
def zkb (i:Nat):Str:=zdS.getD i ⟨#[]⟩
theorem zvB (i:Nat) (h:(i:Int) < 6):ArrAt (zdS.map sv) i 6 [sv (zkb i)] 1:=by
 have h:i=0∨i=1∨i=2∨i=3∨i=4∨i=5:=by omega
 rcases h with rfl|rfl|rfl|rfl|rfl|rfl <;> exact ⟨by decide,by decide,rfl,rfl⟩
theorem zvw (i:Nat) (h:(i:Int) < 6):ArrAt (zdS.map sv) i 6 [sv (zkb i)] 1:=zvB i h
theorem zvy (i:Nat):zkb i∈zdS:=by
 unfold zkb
 rw [List.getD_eq_getElem?_getD]
 cases h:zdS[i]? with
 | none=>simp [zdS,zeD]
 | some x=>exact List.mem_of_getElem? h
theorem zkX (t:Tp) :∃ (w:Str) (t':Tp),w∈zdS∧zac E0 S.world_Tape_Word [.p 0 0] [.box t.cells] (sv w) [.box t'.cells]:=by
 obtain ⟨a1,t1,q1,c1⟩:=(zak t 6 zeQ)
 exact ⟨zkb a1,t1,by exact zvy _,wk At.world_Tape_Word [sl [0] c1,sa (zvw a1 zeQ)] kr⟩
structure V.Good (v:V):Prop where
 valid:zaM v=true
 i64:I64 v.int
 small:v.small
theorem zbS {n:Int} (h:I64 n):V.Good ⟨1,n,⟨#[]⟩⟩:=⟨by kernel_rfl,h,zia⟩
theorem zaj:V.Good ⟨0,0,⟨#[]⟩⟩:=⟨by kernel_rfl,by decide,zia⟩
theorem zew {n:Nat} (h:(n:Int) < 2):V.Good ⟨2,n,⟨#[]⟩⟩:=by
 have:n=0∨n=1:=by omega
 rcases this with rfl|rfl <;> exact ⟨by kernel_rfl,by decide,zia⟩
theorem zhe {w:Str} (h:w∈zdS):V.Good ⟨3,0,w⟩:=by
 simp only [zdS,List.mem_cons,List.not_mem_nil,or_false] at h
 rcases h with rfl|rfl|rfl|rfl|rfl|rfl <;> exact ⟨by kernel_rfl,by decide,by decide⟩
abbrev zbD (k:Int):Int:=if k=1∨k=2∨k=3 then k else 0
theorem zaZ (t:Tp) (kind:Int) :∃ (v:V) (t':Tp),(v.kind=zbD kind∧v.Good)∧zac E0 S.world_Tape_Typed [.p 0 0,iv kind] [.box t.cells] v.av [.box t'.cells]:=by
 cases h1:kind==1
 ·cases h2:kind==2
  ·cases h3:kind==3
   ·exact ⟨V.mk 0 0 (ByteArray.mk #[]),t,by first|exact ⟨by simp_all [zbD],zbS (by assumption)⟩|exact ⟨by simp_all [zbD],zew (by assumption)⟩|exact ⟨by simp_all [zbD],zhe (by assumption)⟩|exact ⟨by simp_all [zbD],zaj⟩,wk At.world_Tape_Typed [sb h1,sb h2,sb h3] kr⟩
   ·obtain ⟨w4,t4,q4,c4⟩:=(zkX t)
    exact ⟨V.mk 3 0 w4,t4,by first|exact ⟨by simp_all [zbD],zbS (by assumption)⟩|exact ⟨by simp_all [zbD],zew (by assumption)⟩|exact ⟨by simp_all [zbD],zhe (by assumption)⟩|exact ⟨by simp_all [zbD],zaj⟩,wk At.world_Tape_Typed [sb h1,sb h2,sb h3,sl [0] c4] kr⟩
  ·obtain ⟨a5,t5,q5,c5⟩:=(zak t 2 zeQ)
   exact ⟨V.mk 2 (a5:Int) (ByteArray.mk #[]),t5,by first|exact ⟨by simp_all [zbD],zbS (by assumption)⟩|exact ⟨by simp_all [zbD],zew (by assumption)⟩|exact ⟨by simp_all [zbD],zhe (by assumption)⟩|exact ⟨by simp_all [zbD],zaj⟩,wk At.world_Tape_Typed [sb h1,sb h2,sl [0] c5] kr⟩
 ·obtain ⟨a6,t6,q6,c6⟩:=(zji t)
  exact ⟨V.mk 1 a6 (ByteArray.mk #[]),t6,by first|exact ⟨by simp_all [zbD],zbS (by assumption)⟩|exact ⟨by simp_all [zbD],zew (by assumption)⟩|exact ⟨by simp_all [zbD],zhe (by assumption)⟩|exact ⟨by simp_all [zbD],zaj⟩,wk At.world_Tape_Typed [sb h1,sl [0] c6] kr⟩
def xLit (v:V):X :=
 X.mk 1 0 false v (ByteArray.mk #[]) (ByteArray.mk #[]) [] []
theorem za1 (v:V) :zac E0 S.world_Lit [v.av] [] ((xLit v).av) []:=by
 exact wk At.world_Lit [] kr
def xCol (t n:Str):X :=
 X.mk 2 0 false (V.mk 0 0 (ByteArray.mk #[])) t n [] []
theorem zd2 (t n:Str) :zac E0 S.world_Col [sv t,sv n] [] ((xCol t n).av) []:=by
 exact wk At.world_Col [] kr
def xBin (op:Int) (a b:X):X :=
 X.mk 5 op false (V.mk 0 0 (ByteArray.mk #[])) (ByteArray.mk #[]) (ByteArray.mk #[]) [a,b] []
theorem zbL (op:Int) (a b:X) :zac E0 S.world_Bin [iv op,a.av,b.av] [] ((xBin op a b).av) []:=by
 unfold xBin
 exact (by (try simp only [X.av,Qy.av,xsl,zaO,zaU,zaS,za0,X.cells,Qy.cells,X.args_mk,X.sub_mk,Qy.items_mk,Qy.wh_mk]);exact wk At.world_Bin [] kr)
end Go.AM
namespace Go.AM
open Go.RowKit
set_option linter.unusedSimpArgs false
set_option linter.unusedVariables false
section
variable {E : Env0}
end
theorem zn5 {E:Env0} {fn:Func} {h0:Heap} {c c':Cfg} {R:AV→Heap→Prop} (b i:Nat) (live:List Nat) (m:Nat) {cs:List AV} (hb:c.h[b]?=some (.box cs)) (hi:cs[i]?=some .nl) (hm:Nat.ble h0.length m=true)
  (he:cut live m ⟨c.n,c.todo,c.ts,c.h.set b (.box (cs.set i (.sl [])))⟩=c') (hg:Good E fn h0 c' R):Good E fn h0 c R:=by
 have hg':=zdu live m (Nat.le_of_ble_eq_true hm) (he ▸ hg)
 intro β0 S0 w0 β S w tmps hb0 hn x0 r rt
 have x2:=zge (β:=β) (S:=S) (w:=w) hb (cs.set i (.sl []))
 have r2:=r.setBox hb (cs.set i (.sl [])) (fun g' vs' t' e2 e3 e4 e5=>by
  refine ⟨by simpa using e4,fun j x' y hx hy=>?_⟩
  by_cases hij:i=j
  ·subst hij
   rw [List.getElem?_set_self (List.getElem?_eq_some_iff.1 hi).1] at hx
   cases hx
   have:=e5 i .nl y hi hy
   refine ⟨?_,this.2⟩
   obtain ⟨a,rfl⟩:=ziT this.1
   exact .d _ _ (.sl [] a 0 0 0 0 (fun _=>undef) (fun hn=>absurd rfl hn) (Nat.le_refl _) (Nat.zero_le _) (by simp) (by simp) (by simp))
  ·rw [List.getElem?_set_ne hij] at hx
   exact e5 j x' y hx hy)
 exact hg' β0 S0 w0 β S w tmps hb0 hn (x0.trans x2) r2 fun t'=>(rt t').ext x2
end Go.AM
namespace Go.AM
inductive Ct where
 | fz (t:Nat)
 | os (t:Nat)
 | bl (t:Nat)
 | bx (k q:Nat)
 | nl (k q:Nat)
 | ot (t:Nat) (e:TypeId)
 | ob (k q:Nat) (e:TypeId)
def ctM (live:List Nat) (m:Nat) (x:Ct) (c:Cfg):Option (List Prop × Cfg):=match x with
 | .fz t=>some ([frzO c.h (look c.ts t)],cut live m ⟨c.n,c.todo,(t,frz c.h (look c.ts t))::c.ts,share c.h (frzM (look c.ts t))⟩)
 | .os t=>match look c.ts t with
  | .own b n=>some ([],cut live m ⟨c.n,c.todo,(t,.os b n 0 n)::c.ts,c.h⟩)
  | _=>none
 | .bl t=>match look c.ts t with
  | .bl b=>some ([],cut live m ⟨c.n,c.todo,(t,.v (.bool b))::c.ts,c.h⟩)
  | _=>none
 | .bx k q=>match c.h[k]? with
  | some (.box cs)=>match cs[q]? with
   | some (.bl b)=>some ([],cut live m ⟨c.n,c.todo,c.ts,c.h.set k (.box (cs.set q (.v (.bool b))))⟩)
   | _=>none
  | _=>none
 | .nl k q=>match c.h[k]? with
  | some (.box cs)=>match cs[q]? with
   | some .nl=>some ([],cut live m ⟨c.n,c.todo,c.ts,c.h.set k (.box (cs.set q (.sl [])))⟩)
   | _=>none
  | _=>none
 | .ot t e=>match look c.ts t with
  | .nl=>some ([],cut live m ⟨c.n,c.todo,(t,.own c.h.length 0)::c.ts,c.h++[Blk.row e [] false]⟩)
  | _=>none
 | .ob k q e=>match c.h[k]? with
  | some (.box cs)=>match cs[q]? with
   | some .nl=>some ([],cut live m ⟨c.n,c.todo,c.ts,(c.h++[Blk.row e [] false]).set k (.box (cs.set q (.own c.h.length 0)))⟩)
   | _=>none
  | _=>none
theorem ctM_ok {E:Env0} {fn:Func} {h0:Heap} {c c':Cfg} {R:AV→Heap→Prop} {live:List Nat} {m:Nat} {x:Ct} {q:List Prop} (hm:Nat.ble h0.length m=true) (h:ctM live m x c=some (q,c')) (ho:allP q) (hg:Good E fn h0 c' R):Good E fn h0 c R:=by
 cases x with
 | fz t =>
  cases h
  exact zqb t live m rfl rfl ho hm rfl hg
 | os t =>
  simp only [ctM] at h
  split at h
  ·rename_i b n hl
   cases h
   exact zsX t b n live m hl hm rfl hg
  ·cases h
 | bl t =>
  simp only [ctM] at h
  split at h
  ·rename_i b hl
   cases h
   exact zrB t b live m hl hm rfl hg
  ·cases h
 | bx k q =>
  simp only [ctM] at h
  split at h
  ·rename_i cs hb
   split at h
   ·rename_i b hi
    cases h
    exact znW k q b live m hb hi hm rfl hg
   ·cases h
  ·cases h
 | nl k q =>
  simp only [ctM] at h
  split at h
  ·rename_i cs hb
   split at h
   ·rename_i hi
    cases h
    exact zn5 k q live m hb hi hm rfl hg
   ·cases h
  ·cases h
 | ot t e =>
  simp only [ctM] at h
  split at h
  ·rename_i hl
   cases h
   exact zfm t e live m hl hm rfl hg
  ·cases h
 | ob k q e =>
  simp only [ctM] at h
  split at h
  ·rename_i cs hb
   split at h
   ·rename_i hi
    cases h
    exact ze5 k q e live m hb hi hm rfl hg
   ·cases h
  ·cases h
def cts (live:List Nat) (n0:Nat):List (Ct × Nat)→List Prop→Cfg→Option (List Prop × Cfg)
 | [],q,c=>some (q,c)
 | (x,m)::r,q,c=>match Nat.ble n0 m,ctM live m x c with
  | true,some (q1,c1)=>cts live n0 r (q++q1) c1
  | _,_=>none
theorem zeC:∀ {a b:List Prop},allP (a++b)→allP a∧allP b
 | [],_,h=>⟨trivial,h⟩
 | [_],[],h=>⟨h,trivial⟩
 | [_],_::_,h=>⟨h.1,h.2⟩
 | _::q::r,b,h=>by
  have:=zeC (a:=q::r) (b:=b) h.2
  exact ⟨⟨h.1,this.1⟩,this.2⟩
theorem zky {live:List Nat} {n0:Nat}:∀ {l:List (Ct × Nat)} {q q':List Prop} {c c':Cfg},cts live n0 l q c=some (q',c')→∃ q2,q'=q++q2
 | [],_,_,_,_,h=>by
  cases h
  exact ⟨[],by simp⟩
 | (x,m)::r,q,q',c,c',h=>by
  simp only [cts] at h
  split at h
  ·rename_i q1 c1 _ _
   obtain ⟨q2,h2⟩:=zky h
   exact ⟨q1++q2,by rw [h2,List.append_assoc]⟩
  ·cases h
theorem zoG {E:Env0} {fn:Func} {h0:Heap} {R:AV→Heap→Prop} {live:List Nat}:∀ {l:List (Ct × Nat)} {q q':List Prop} {c c':Cfg},cts live h0.length l q c=some (q',c')→allP q'→Good E fn h0 c' R→Good E fn h0 c R
 | [],_,_,_,_,h,_,hg=>by
  cases h
  exact hg
 | (x,m)::r,q,q',c,c',h,ho,hg=>by
  simp only [cts] at h
  split at h
  ·rename_i q1 c1 hm hc
   obtain ⟨q2,h2⟩:=zky h
   have h3:allP q1:=by
    rw [h2] at ho
    exact (zeC (zeC ho).1).2
   exact ctM_ok hm hc h3 (zoG h ho hg)
  ·cases h
noncomputable def ztx (fn:Func) (args:List AV) (h:Heap) (live:List Nat) (m:Nat) (k:List (Ct × Nat)) (os:List Orc):Option (List Prop × Cfg) :=
 match zoi fn args h live m os with
 | some (q,c)=>cts live h.length k q c
 | none=>none
noncomputable def ztO (h0:Heap) (live:List Nat) (m:Nat) (k:List (Ct × Nat)) (c:Cfg) (os:List Orc):Option (List Prop × Cfg) :=
 match ziV h0 live m c os with
 | some (q,c)=>cts live h0.length k q c
 | none=>none
theorem znw {fn:Func} {h0:Heap} {c c':Cfg} {R:AV→Heap→Prop} {live:List Nat} {m:Nat} {os:List Orc} {q:List Prop} (hm:Nat.ble h0.length m=true) (hu:upto (mk E0) live m 3000 c os=(q,c')) (hq:allP q) (hg:Good E0 fn h0 c' R):Good E0 fn h0 c R:=by
 unfold upto at hu
 have h1:(run (mk E0) 3000 c os).1=q:=by
  have:=congrArg Prod.fst hu
  exact this
 have h2:cut live m (run (mk E0) 3000 c os).2.1=c':=congrArg Prod.snd hu
 exact zkq E0ok mix0 3000 os live m hm h1 h2 hq hg
theorem wklN {fn:Func} {R:AV→Heap→Prop} {h0:Heap} {c c':Cfg} (l:List St) (live:List Nat) (m:Nat) (k:List (Ct × Nat)) (hu:ztO h0 live m k c (orcs l)=some (zbI l,c')) (hg:Good E0 fn h0 c' R):Good E0 fn h0 c R:=by
 unfold ztO at hu
 split at hu
 ·rename_i q c1 h1
  unfold ziV at h1
  split at h1
  ·rename_i hm
   obtain ⟨q2,h2⟩:=zky hu
   have h3:=zbp l
   have h4:allP q:=by
    rw [h2] at h3
    exact (zeC h3).1
   exact znw hm (Option.some.inj h1) h4 (zoG hu h3 hg)
  ·cases h1
 ·cases hu
theorem wkcN {f:FuncId} {fn:Func} {args:List AV} {h:Heap} {R:AV→Heap→Prop} {c':Cfg} (hf:E0.P.funcs[f]?=some fn) (l:List St) (live:List Nat) (m:Nat) (k:List (Ct × Nat)) (hu:ztx fn args h live m k (orcs l)=some (zbI l,c'))
  (hg:Good E0 fn h c' (Shut h.length R)):zb7 E0 f args h R:=by
 unfold ztx at hu
 split at hu
 ·rename_i q c1 h1
  unfold zoi at h1
  split at h1
  ·rename_i c hb hn ha hm
   obtain ⟨q2,h2⟩:=zky hu
   have h3:=zbp l
   have h4:allP q:=by
    rw [h2] at h3
    exact (zeC h3).1
   exact zd0 (zbO hf hb hn (Nat.le_of_ble_eq_true ha) (znw hm (Option.some.inj h1) h4 (zoG hu h3 hg)))
  ·cases h1
 ·cases hu
end Go.AM
namespace Go.AM
set_option maxRecDepth 100000
set_option linter.unusedSimpArgs false
set_option linter.unusedVariables false
theorem zf3 {p:Prop} (h:p:=by first|exact hI.push hx (zse (by assumption))|exact hI.push hx (zp8 (by assumption) (by assumption) (by assumption))|exact hI.push hx (zqN (hc _ (List.mem_of_getElem? hx)) (by assumption))):p:=h
theorem zof {p:Prop} (h:p:=by first|assumption|omega|(simp;done)|(simp;omega)):p:=h
theorem zn6 {p:Prop} (h:p:=by first|assumption|exact PrefOk.nil _|omega):p:=h
structure ValOk (c:Col) (v:V):Prop where
 good:v.Good
 kind:v.kind=0∨v.kind=c.type
 nn:c.notNull=true→v.kind=c.type
abbrev zfs (c:Col):Prop:=c.type=1∨c.type=2∨c.type=3
structure PrefOk (cols:List Col) (n:Nat) (vals:List V):Prop where
 len:vals.length=n
 at_:∀ (k:Nat) (c:Col) (v:V),cols[k]?=some c→vals[k]?=some v→ValOk c v
abbrev zcU (cols:List Col) (vals:List V):Prop:=PrefOk cols cols.length vals
theorem PrefOk.nil (cols:List Col):PrefOk cols 0 []:=⟨rfl,fun k c v _ h=>by simp at h⟩
theorem PrefOk.push {cols:List Col} {n:Nat} {vals:List V} (h:PrefOk cols n vals) {c:Col} (hc:cols[n]?=some c) {v:V} (hv:ValOk c v):PrefOk cols (n+1) (vals++[v]):=by
 refine ⟨by simp [h.len],fun k c' v' h1 h2=>?_⟩
 by_cases hk:k < vals.length
 ·rw [List.getElem?_append_left hk] at h2
  exact h.at_ k c' v' h1 h2
 ·rw [List.getElem?_append_right (by omega)] at h2
  have hl:=h.len
  have:k - vals.length=0:=by
   rcases Nat.eq_zero_or_pos (k - vals.length) with h|h
   ·exact h
   ·rw [List.getElem?_eq_none (by simp;omega)] at h2;cases h2
  rw [this] at h2
  simp only [List.getElem?_cons_zero,Option.some.injEq] at h2
  have:k=n:=by omega
  subst this
  rw [h1] at hc
  cases hc
  exact h2 ▸ hv
theorem zqN {c:Col} {v:V} (ht:zfs c) (h:v.kind=zbD c.type∧v.Good):ValOk c v:=by
 have:zbD c.type=c.type:=by simp only [zbD];exact if_pos ht
 exact ⟨h.2,.inr (h.1.trans this),fun _=>h.1.trans this⟩
theorem zqO {v:V} (h:v.Good) (hk:v.kind=1) {a:Int} (ha:I64 a):V.Good ⟨v.kind,a,v.text⟩:=by
 refine ⟨?_,ha,h.small⟩
 have:=h.valid
 simp only [zaM,hk] at this ⊢
 exact this
theorem zp8 {c:Col} {v:V} {a:Int} (h:v.kind=zbD c.type∧v.Good) (hc:(c.type==(1:Int))=true) (ha:-3≤a∧a≤12):ValOk c ⟨v.kind,a,v.text⟩:=by
 have e:c.type=1:=by simpa using hc
 have:v.kind=1:=by rw [h.1,e];rfl
 exact ⟨zqO h.2 this ⟨by omega,by omega⟩,.inr (by rw [e];exact this),fun _=>by rw [e];exact this⟩
theorem zse {c:Col} (h:(!c.notNull)=true):ValOk c ⟨0,0,⟨#[]⟩⟩:=⟨zaj,.inl rfl,fun h'=>by rw [h'] at h;cases h⟩
noncomputable def L_row (t0:Tp) (s:Sch) (i:Nat) (t:Tp) (out:List V):Cfg:=zar B.world_Tape_Row 0 [(0,.p 0 0),(5,.own 1 out.length),(10,.sl (s.cols.map Col.cells)),(11,iv ((s.cols.map Col.cells).length:Nat)),(12,iv (i:Nat))] [.box t.cells,.row Ty.Value (out.map V.cells) false]
theorem zfU (t0:Tp) (s:Sch) (hl:zad s.cols) (hc:∀ c∈s.cols,zfs c) (i:Nat) (t:Tp) (out:List V) (hi:i≤(s.cols).length) (hI:PrefOk s.cols i out):∃ (t':Tp) (out':List V),(PrefOk s.cols (s.cols).length out')∧(decide ((((s.cols).length:Nat):Int) < (((s.cols.map Col.cells).length:Nat):Int))=false)∧∀ R,Good E0 B.world_Tape_Row [.box t0.cells] (L_row t0 s (s.cols).length t' out') R→Good E0 B.world_Tape_Row [.box t0.cells] (L_row t0 s i t out) R:=by
 obtain ⟨kk,hk⟩:∃ kk,i+kk=(s.cols).length:=⟨(s.cols).length - i,by omega⟩
 induction kk generalizing i t out with
 | zero =>
  have e0:i=(s.cols).length:=by omega
  subst e0
  exact ⟨t,out,hI,by simp,fun R hg=>hg⟩
 | succ kk ih =>
  obtain ⟨x,hx⟩:=zay (l:=s.cols) (i:=i) (by omega)
  have h0:decide (((i:Nat):Int) < (((s.cols.map Col.cells).length:Nat):Int))=true:=by simp;omega
  have hw:IntKind.i64.wrap (((i:Nat):Int)+1)=((i+1:Nat):Int):=zao i (by first|omega|(simp only [zad,Few] at *;omega))
  have hlen:=hI.len
  obtain ⟨v1,t1,q1,c1⟩:=(zaZ t x.type)
  let p_1:List St:=[sb h0,se (zah Col.cells hx rfl),sl [0] c1]
  cases h2:x.type==1
  ·cases h3:!x.notNull
   ·obtain ⟨tZ,outZ,qZ,xZ,gZ⟩:=ih (i+1) t1 (out++[v1]) (by omega) zf3 (by omega);exact ⟨tZ,outZ,qZ,xZ,fun R hg=>zaa (wkl (p_1++[sb h2,sb h3,sqx (AllLen [[iv v1.kind,iv v1.int,sv v1.text]] 3∧out.length=(List.map V.cells out).length∧(((List.map V.cells out).length+[[iv v1.kind,iv v1.int,sv v1.text]].length) * 32).le 140737488355328),si hw]) [0,5,10,11,12] 2 kr (zat (show ([(0,AV.p 0 0),(5,AV.own 1 (List.map V.cells out++[[iv v1.kind,iv v1.int,sv v1.text]]).length),(10,AV.sl (List.map Col.cells s.cols)),(11,iv (↑(List.map Col.cells s.cols).length:Int)),(12,iv (↑(i+1):Int))]:TS)=[(0,AV.p 0 0),(5,AV.own 1 (out++[v1]).length),(10,AV.sl (List.map Col.cells s.cols)),(11,iv (↑(List.map Col.cells s.cols).length:Int)),(12,iv (↑(i+1):Int))] by first|rfl|(simp;done)|(simp [X.cells,Qy.cells,V.cells,Col.cells,Rw.cells,Tb.cells,Fr.cells,Sch.cells,Tp.cells,Pl.cells];done)) (show ([Blk.box [AV.sl (List.map (fun n=>[iv n]) t1.l),iv (t1.pos:Int)],Blk.row Ty.Value (List.map V.cells out++[[iv v1.kind,iv v1.int,sv v1.text]]) false]:Heap)=[Blk.box t1.cells,Blk.row Ty.Value (List.map V.cells (out++[v1])) false] by first|rfl|(simp;done)|(simp [X.cells,Qy.cells,V.cells,Col.cells,Rw.cells,Tb.cells,Fr.cells,Sch.cells,Tp.cells,Pl.cells];done)) (gZ R hg)))⟩
   ·obtain ⟨b4,t4,c4⟩:=(zam t1 5 zof)
    rcases (Bool.eq_false_or_eq_true b4).symm with h5|h5
    ·obtain ⟨tZ,outZ,qZ,xZ,gZ⟩:=ih (i+1) t4 (out++[v1]) (by omega) zf3 (by omega);exact ⟨tZ,outZ,qZ,xZ,fun R hg=>zaa (wkl (p_1++[sb h2,sg h3,sl [0] c4,sb h5,sqx (AllLen [[iv v1.kind,iv v1.int,sv v1.text]] 3∧out.length=(List.map V.cells out).length∧(((List.map V.cells out).length+[[iv v1.kind,iv v1.int,sv v1.text]].length) * 32).le 140737488355328),si hw]) [0,5,10,11,12] 2 kr (zat (show ([(0,AV.p 0 0),(5,AV.own 1 (List.map V.cells out++[[iv v1.kind,iv v1.int,sv v1.text]]).length),(10,AV.sl (List.map Col.cells s.cols)),(11,iv (↑(List.map Col.cells s.cols).length:Int)),(12,iv (↑(i+1):Int))]:TS)=[(0,AV.p 0 0),(5,AV.own 1 (out++[v1]).length),(10,AV.sl (List.map Col.cells s.cols)),(11,iv (↑(List.map Col.cells s.cols).length:Int)),(12,iv (↑(i+1):Int))] by first|rfl|(simp;done)|(simp [X.cells,Qy.cells,V.cells,Col.cells,Rw.cells,Tb.cells,Fr.cells,Sch.cells,Tp.cells,Pl.cells];done)) (show ([Blk.box [AV.sl (List.map (fun n=>[iv n]) t4.l),iv (t4.pos:Int)],Blk.row Ty.Value (List.map V.cells out++[[iv v1.kind,iv v1.int,sv v1.text]]) false]:Heap)=[Blk.box t4.cells,Blk.row Ty.Value (List.map V.cells (out++[v1])) false] by first|rfl|(simp;done)|(simp [X.cells,Qy.cells,V.cells,Col.cells,Rw.cells,Tb.cells,Fr.cells,Sch.cells,Tp.cells,Pl.cells];done)) (gZ R hg)))⟩
    ·obtain ⟨tZ,outZ,qZ,xZ,gZ⟩:=ih (i+1) t4 (out++[V.mk 0 0 (ByteArray.mk #[])]) (by omega) zf3 (by omega);exact ⟨tZ,outZ,qZ,xZ,fun R hg=>zaa (wkl (p_1++[sb h2,sg h3,sl [0] c4,sb h5,sqx (AllLen [[iv 0,iv 0,sv (ByteArray.mk #[])]] 3∧out.length=(List.map V.cells out).length∧(((List.map V.cells out).length+[[iv 0,iv 0,sv (ByteArray.mk #[])]].length) * 32).le 140737488355328),si hw]) [0,5,10,11,12] 2 kr (zat (show ([(0,AV.p 0 0),(5,AV.own 1 (List.map V.cells out++[[iv 0,iv 0,sv (ByteArray.mk #[])]]).length),(10,AV.sl (List.map Col.cells s.cols)),(11,iv (↑(List.map Col.cells s.cols).length:Int)),(12,iv (↑(i+1):Int))]:TS)=[(0,AV.p 0 0),(5,AV.own 1 (out++[V.mk 0 0 (ByteArray.mk #[])]).length),(10,AV.sl (List.map Col.cells s.cols)),(11,iv (↑(List.map Col.cells s.cols).length:Int)),(12,iv (↑(i+1):Int))] by first|rfl|(simp;done)|(simp [X.cells,Qy.cells,V.cells,Col.cells,Rw.cells,Tb.cells,Fr.cells,Sch.cells,Tp.cells,Pl.cells];done)) (show ([Blk.box [AV.sl (List.map (fun n=>[iv n]) t4.l),iv (t4.pos:Int)],Blk.row Ty.Value (List.map V.cells out++[[iv 0,iv 0,sv (ByteArray.mk #[])]]) false]:Heap)=[Blk.box t4.cells,Blk.row Ty.Value (List.map V.cells (out++[V.mk 0 0 (ByteArray.mk #[])])) false] by first|rfl|(simp;done)|(simp [X.cells,Qy.cells,V.cells,Col.cells,Rw.cells,Tb.cells,Fr.cells,Sch.cells,Tp.cells,Pl.cells];done)) (gZ R hg)))⟩
  ·obtain ⟨b6,t6,c6⟩:=(zam t1 9 zof)
   cases h7:!b6
   ·cases h8:!x.notNull
    ·obtain ⟨tZ,outZ,qZ,xZ,gZ⟩:=ih (i+1) t6 (out++[v1]) (by omega) zf3 (by omega);exact ⟨tZ,outZ,qZ,xZ,fun R hg=>zaa (wkl (p_1++[sg h2,sl [0] c6,sb h7,sb h8,sqx (AllLen [[iv v1.kind,iv v1.int,sv v1.text]] 3∧out.length=(List.map V.cells out).length∧(((List.map V.cells out).length+[[iv v1.kind,iv v1.int,sv v1.text]].length) * 32).le 140737488355328),si hw]) [0,5,10,11,12] 2 kr (zat (show ([(0,AV.p 0 0),(5,AV.own 1 (List.map V.cells out++[[iv v1.kind,iv v1.int,sv v1.text]]).length),(10,AV.sl (List.map Col.cells s.cols)),(11,iv (↑(List.map Col.cells s.cols).length:Int)),(12,iv (↑(i+1):Int))]:TS)=[(0,AV.p 0 0),(5,AV.own 1 (out++[v1]).length),(10,AV.sl (List.map Col.cells s.cols)),(11,iv (↑(List.map Col.cells s.cols).length:Int)),(12,iv (↑(i+1):Int))] by first|rfl|(simp;done)|(simp [X.cells,Qy.cells,V.cells,Col.cells,Rw.cells,Tb.cells,Fr.cells,Sch.cells,Tp.cells,Pl.cells];done)) (show ([Blk.box [AV.sl (List.map (fun n=>[iv n]) t6.l),iv (t6.pos:Int)],Blk.row Ty.Value (List.map V.cells out++[[iv v1.kind,iv v1.int,sv v1.text]]) false]:Heap)=[Blk.box t6.cells,Blk.row Ty.Value (List.map V.cells (out++[v1])) false] by first|rfl|(simp;done)|(simp [X.cells,Qy.cells,V.cells,Col.cells,Rw.cells,Tb.cells,Fr.cells,Sch.cells,Tp.cells,Pl.cells];done)) (gZ R hg)))⟩
    ·obtain ⟨b9,t9,c9⟩:=(zam t6 5 zof)
     let p_2:List St:=p_1++[sg h2,sl [0] c6,sb h7,sg h8,sl [0] c9]
     rcases (Bool.eq_false_or_eq_true b9).symm with h10|h10
     ·obtain ⟨tZ,outZ,qZ,xZ,gZ⟩:=ih (i+1) t9 (out++[v1]) (by omega) zf3 (by omega);exact ⟨tZ,outZ,qZ,xZ,fun R hg=>zaa (wkl (p_2++[sb h10,sqx (AllLen [[iv v1.kind,iv v1.int,sv v1.text]] 3∧out.length=(List.map V.cells out).length∧(((List.map V.cells out).length+[[iv v1.kind,iv v1.int,sv v1.text]].length) * 32).le 140737488355328),si hw]) [0,5,10,11,12] 2 kr (zat (show ([(0,AV.p 0 0),(5,AV.own 1 (List.map V.cells out++[[iv v1.kind,iv v1.int,sv v1.text]]).length),(10,AV.sl (List.map Col.cells s.cols)),(11,iv (↑(List.map Col.cells s.cols).length:Int)),(12,iv (↑(i+1):Int))]:TS)=[(0,AV.p 0 0),(5,AV.own 1 (out++[v1]).length),(10,AV.sl (List.map Col.cells s.cols)),(11,iv (↑(List.map Col.cells s.cols).length:Int)),(12,iv (↑(i+1):Int))] by first|rfl|(simp;done)|(simp [X.cells,Qy.cells,V.cells,Col.cells,Rw.cells,Tb.cells,Fr.cells,Sch.cells,Tp.cells,Pl.cells];done)) (show ([Blk.box [AV.sl (List.map (fun n=>[iv n]) t9.l),iv (t9.pos:Int)],Blk.row Ty.Value (List.map V.cells out++[[iv v1.kind,iv v1.int,sv v1.text]]) false]:Heap)=[Blk.box t9.cells,Blk.row Ty.Value (List.map V.cells (out++[v1])) false] by first|rfl|(simp;done)|(simp [X.cells,Qy.cells,V.cells,Col.cells,Rw.cells,Tb.cells,Fr.cells,Sch.cells,Tp.cells,Pl.cells];done)) (gZ R hg)))⟩
     ·obtain ⟨tZ,outZ,qZ,xZ,gZ⟩:=ih (i+1) t9 (out++[V.mk 0 0 (ByteArray.mk #[])]) (by omega) zf3 (by omega);exact ⟨tZ,outZ,qZ,xZ,fun R hg=>zaa (wkl (p_2++[sb h10,sqx (AllLen [[iv 0,iv 0,sv (ByteArray.mk #[])]] 3∧out.length=(List.map V.cells out).length∧(((List.map V.cells out).length+[[iv 0,iv 0,sv (ByteArray.mk #[])]].length) * 32).le 140737488355328),si hw]) [0,5,10,11,12] 2 kr (zat (show ([(0,AV.p 0 0),(5,AV.own 1 (List.map V.cells out++[[iv 0,iv 0,sv (ByteArray.mk #[])]]).length),(10,AV.sl (List.map Col.cells s.cols)),(11,iv (↑(List.map Col.cells s.cols).length:Int)),(12,iv (↑(i+1):Int))]:TS)=[(0,AV.p 0 0),(5,AV.own 1 (out++[V.mk 0 0 (ByteArray.mk #[])]).length),(10,AV.sl (List.map Col.cells s.cols)),(11,iv (↑(List.map Col.cells s.cols).length:Int)),(12,iv (↑(i+1):Int))] by first|rfl|(simp;done)|(simp [X.cells,Qy.cells,V.cells,Col.cells,Rw.cells,Tb.cells,Fr.cells,Sch.cells,Tp.cells,Pl.cells];done)) (show ([Blk.box [AV.sl (List.map (fun n=>[iv n]) t9.l),iv (t9.pos:Int)],Blk.row Ty.Value (List.map V.cells out++[[iv 0,iv 0,sv (ByteArray.mk #[])]]) false]:Heap)=[Blk.box t9.cells,Blk.row Ty.Value (List.map V.cells (out++[V.mk 0 0 (ByteArray.mk #[])])) false] by first|rfl|(simp;done)|(simp [X.cells,Qy.cells,V.cells,Col.cells,Rw.cells,Tb.cells,Fr.cells,Sch.cells,Tp.cells,Pl.cells];done)) (gZ R hg)))⟩
   ·obtain ⟨a11,t11,q11,c11⟩:=(za8 t6)
    cases h12:!x.notNull
    ·obtain ⟨tZ,outZ,qZ,xZ,gZ⟩:=ih (i+1) t11 (out++[V.mk v1.kind a11 v1.text]) (by omega) zf3 (by omega);exact ⟨tZ,outZ,qZ,xZ,fun R hg=>zaa (wkl (p_1++[sg h2,sl [0] c6,sb h7,sl [0] c11,sb h12,sqx (AllLen [[iv v1.kind,iv a11,sv v1.text]] 3∧out.length=(List.map V.cells out).length∧(((List.map V.cells out).length+[[iv v1.kind,iv a11,sv v1.text]].length) * 32).le 140737488355328),si hw]) [0,5,10,11,12] 2 kr (zat (show ([(0,AV.p 0 0),(5,AV.own 1 (List.map V.cells out++[[iv v1.kind,iv a11,sv v1.text]]).length),(10,AV.sl (List.map Col.cells s.cols)),(11,iv (↑(List.map Col.cells s.cols).length:Int)),(12,iv (↑(i+1):Int))]:TS)=[(0,AV.p 0 0),(5,AV.own 1 (out++[V.mk v1.kind a11 v1.text]).length),(10,AV.sl (List.map Col.cells s.cols)),(11,iv (↑(List.map Col.cells s.cols).length:Int)),(12,iv (↑(i+1):Int))] by first|rfl|(simp;done)|(simp [X.cells,Qy.cells,V.cells,Col.cells,Rw.cells,Tb.cells,Fr.cells,Sch.cells,Tp.cells,Pl.cells];done)) (show ([Blk.box [AV.sl (List.map (fun n=>[iv n]) t11.l),iv (t11.pos:Int)],Blk.row Ty.Value (List.map V.cells out++[[iv v1.kind,iv a11,sv v1.text]]) false]:Heap)=[Blk.box t11.cells,Blk.row Ty.Value (List.map V.cells (out++[V.mk v1.kind a11 v1.text])) false] by first|rfl|(simp;done)|(simp [X.cells,Qy.cells,V.cells,Col.cells,Rw.cells,Tb.cells,Fr.cells,Sch.cells,Tp.cells,Pl.cells];done)) (gZ R hg)))⟩
    ·obtain ⟨b13,t13,c13⟩:=(zam t11 5 zof)
     let p_3:List St:=p_1++[sg h2,sl [0] c6,sb h7,sl [0] c11,sg h12,sl [0] c13]
     rcases (Bool.eq_false_or_eq_true b13).symm with h14|h14
     ·obtain ⟨tZ,outZ,qZ,xZ,gZ⟩:=ih (i+1) t13 (out++[V.mk v1.kind a11 v1.text]) (by omega) zf3 (by omega);exact ⟨tZ,outZ,qZ,xZ,fun R hg=>zaa (wkl (p_3++[sb h14,sqx (AllLen [[iv v1.kind,iv a11,sv v1.text]] 3∧out.length=(List.map V.cells out).length∧(((List.map V.cells out).length+[[iv v1.kind,iv a11,sv v1.text]].length) * 32).le 140737488355328),si hw]) [0,5,10,11,12] 2 kr (zat (show ([(0,AV.p 0 0),(5,AV.own 1 (List.map V.cells out++[[iv v1.kind,iv a11,sv v1.text]]).length),(10,AV.sl (List.map Col.cells s.cols)),(11,iv (↑(List.map Col.cells s.cols).length:Int)),(12,iv (↑(i+1):Int))]:TS)=[(0,AV.p 0 0),(5,AV.own 1 (out++[V.mk v1.kind a11 v1.text]).length),(10,AV.sl (List.map Col.cells s.cols)),(11,iv (↑(List.map Col.cells s.cols).length:Int)),(12,iv (↑(i+1):Int))] by first|rfl|(simp;done)|(simp [X.cells,Qy.cells,V.cells,Col.cells,Rw.cells,Tb.cells,Fr.cells,Sch.cells,Tp.cells,Pl.cells];done)) (show ([Blk.box [AV.sl (List.map (fun n=>[iv n]) t13.l),iv (t13.pos:Int)],Blk.row Ty.Value (List.map V.cells out++[[iv v1.kind,iv a11,sv v1.text]]) false]:Heap)=[Blk.box t13.cells,Blk.row Ty.Value (List.map V.cells (out++[V.mk v1.kind a11 v1.text])) false] by first|rfl|(simp;done)|(simp [X.cells,Qy.cells,V.cells,Col.cells,Rw.cells,Tb.cells,Fr.cells,Sch.cells,Tp.cells,Pl.cells];done)) (gZ R hg)))⟩
     ·obtain ⟨tZ,outZ,qZ,xZ,gZ⟩:=ih (i+1) t13 (out++[V.mk 0 0 (ByteArray.mk #[])]) (by omega) zf3 (by omega);exact ⟨tZ,outZ,qZ,xZ,fun R hg=>zaa (wkl (p_3++[sb h14,sqx (AllLen [[iv 0,iv 0,sv (ByteArray.mk #[])]] 3∧out.length=(List.map V.cells out).length∧(((List.map V.cells out).length+[[iv 0,iv 0,sv (ByteArray.mk #[])]].length) * 32).le 140737488355328),si hw]) [0,5,10,11,12] 2 kr (zat (show ([(0,AV.p 0 0),(5,AV.own 1 (List.map V.cells out++[[iv 0,iv 0,sv (ByteArray.mk #[])]]).length),(10,AV.sl (List.map Col.cells s.cols)),(11,iv (↑(List.map Col.cells s.cols).length:Int)),(12,iv (↑(i+1):Int))]:TS)=[(0,AV.p 0 0),(5,AV.own 1 (out++[V.mk 0 0 (ByteArray.mk #[])]).length),(10,AV.sl (List.map Col.cells s.cols)),(11,iv (↑(List.map Col.cells s.cols).length:Int)),(12,iv (↑(i+1):Int))] by first|rfl|(simp;done)|(simp [X.cells,Qy.cells,V.cells,Col.cells,Rw.cells,Tb.cells,Fr.cells,Sch.cells,Tp.cells,Pl.cells];done)) (show ([Blk.box [AV.sl (List.map (fun n=>[iv n]) t13.l),iv (t13.pos:Int)],Blk.row Ty.Value (List.map V.cells out++[[iv 0,iv 0,sv (ByteArray.mk #[])]]) false]:Heap)=[Blk.box t13.cells,Blk.row Ty.Value (List.map V.cells (out++[V.mk 0 0 (ByteArray.mk #[])])) false] by first|rfl|(simp;done)|(simp [X.cells,Qy.cells,V.cells,Col.cells,Rw.cells,Tb.cells,Fr.cells,Sch.cells,Tp.cells,Pl.cells];done)) (gZ R hg)))⟩
theorem zlC (t:Tp) (s:Sch) (hl:zad s.cols) (hc:∀ c∈s.cols,zfs c):∃ (r:List V) (t':Tp),zcU s.cols r∧zac E0 S.world_Tape_Row [.p 0 0,s.av] [.box t.cells] (vsl r) [.box t'.cells]:=by
 obtain ⟨t1,out1,q1,q1_1,g1⟩:=zfU t s zn6 zn6 0 t ([]) zn6 zn6
 exact ⟨out1,t1,(by first|assumption|trivial|(simp;done)|omega|(simp;omega)|(simp at *;omega)),wkcN At.world_Tape_Row [] [0,5,10,11,12] 1 [(.ot 5 Ty.Value,2)] kr (g1 _ (zaa (wkr [sqx (out1.length=(List.map V.cells out1).length),sb q1_1] kr)))⟩
def zal :(List Sch) :=
 [Sch.mk (ByteArray.mk #[108,111,103]) [Col.mk (ByteArray.mk #[110]) 1 false false,Col.mk (ByteArray.mk #[115]) 3 false false],Sch.mk (ByteArray.mk #[116]) [Col.mk (ByteArray.mk #[105,100]) 1 true true,Col.mk (ByteArray.mk #[110]) 1 false false,Col.mk (ByteArray.mk #[98]) 2 false false,Col.mk (ByteArray.mk #[115]) 3 false false],Sch.mk (ByteArray.mk #[117]) [Col.mk (ByteArray.mk #[105,100]) 1 true true,Col.mk (ByteArray.mk #[110]) 1 true false,Col.mk (ByteArray.mk #[109]) 1 false false]]
theorem zeH  :zac E0 S.world_Schemas [] [] (.sl (zal.map Sch.cells)) []:=by
 unfold zal
 exact (by (try simp only [X.av,Qy.av,V.av,Tb.av,Sch.av,Pl.av,xsl,fsl,vsl,tsl,List.map_append,List.map_cons,List.map_nil,V.cells,Col.cells,Rw.cells,Tb.cells,Fr.cells,Sch.cells,Pl.cells,za7,zaO,zaU,zaS,za0,X.cells,Qy.cells,X.args_mk,X.sub_mk,Qy.items_mk,Qy.wh_mk]);exact wk At.world_Schemas [] kr)
theorem zfV:zad zal:=by simp [zal]
noncomputable def ztV (n:Str) (i:Nat) :Cfg:=zar B.world_Schema 0 [(0,sv n),(2,.p 0 0),(5,.sl (zal.map Sch.cells)),(6,iv ((zal.map Sch.cells).length:Nat)),(7,iv (i:Nat))] [.box [sv ⟨#[]⟩,.nl]]
def zgm (n:Str):List (Sch)→Nat→Sch
 | [],i =>
  Sch.mk (ByteArray.mk #[]) []
 | x::r,i =>
  bif ByteArray.toList x.name==ByteArray.toList n then
   x
  else
   zgm n r (i+1)
theorem zmR (n:Str) (hs:zad zal):∀ (kk i:Nat),i+kk=(zal).length→Good E0 B.world_Schema [] (ztV n i ) (Shut 0 fun r h=>r=((zgm n ((zal).drop i) i ).av)∧h=[]):=by
 intro kk
 induction kk with
 | zero =>
  intro i  hi
  have h0:decide (((i:Nat):Int) < (((zal.map Sch.cells).length:Nat):Int))=false:=by simp;omega
  have e0:(zal).drop i=[]:=List.drop_of_length_le (by omega)
  rw [e0]
  simp only [zgm]
  refine zaa ?_
  exact wkr [sb h0] kr
 | succ kk ih =>
  intro i  hi
  obtain ⟨x,hx⟩:=zay (l:=zal) (i:=i) (by omega)
  have h0:decide (((i:Nat):Int) < (((zal.map Sch.cells).length:Nat):Int))=true:=by simp;omega
  have hw:=zao i (by first|omega|(simp only [zad,Few] at *;omega))
  rw [zaN hx]
  simp only [zgm]
  refine zaa ?_
  let p_1:List St:=[sb h0,se (zah Sch.cells hx rfl)]
  cases h1:ByteArray.toList x.name==ByteArray.toList n
  ·exact wkl (p_1++[sb h1,si hw]) [0,2,5,6,7] 1 kr (ih (i+1) (by omega) )
  ·exact wkr (p_1++[sb h1]) kr
def zaA (n:Str):Sch :=
 zgm n zal (0)
theorem zir (n:Str) (hs:zad zal):zac E0 S.world_Schema [sv n] [] ((zaA n).av) []:=by
 unfold zaA
 exact wkc At.world_Schema [sc zeH] [0,2,5,6,7] 1 kr (zmR n hs zal.length 0 (by simp))
theorem ztU (n:Int) (h1:decide (n < (0:Int))=false):Pure S.world_Num [iv n] (X.av (xLit ⟨1,n,⟨#[]⟩⟩)):=by
 exact wk At.world_Num [sb h1,sc (za1 (V.mk 1 n ⟨#[]⟩))] kr
def xNeg (a:X):X:=X.mk 4 0 false ⟨0,0,⟨#[]⟩⟩ ⟨#[]⟩ ⟨#[]⟩ [a] []
theorem c_Num1 (n:Int) (h1:decide (n < (0:Int))=true) (h2:-9223372036854775808 < n):Pure S.world_Num [iv n] (X.av (xNeg (xLit ⟨1,IntKind.i64.wrap (-n),⟨#[]⟩⟩))):=by
 have hk:=ztU (IntKind.i64.wrap (-n)) (by rw [IntKind.wrap_i64];simp at *;omega)
 unfold xNeg
 simp only [X.av,xLit,zaO,zaU,X.cells,X.args_mk,X.sub_mk]
 exact wk At.world_Num [sb h1,si (e:=IntKind.i64.wrap (-n)) rfl,sc hk] kr
def xNum (n:Int):X:=bif decide (n < 0) then xNeg (xLit ⟨1,IntKind.i64.wrap (-n),⟨#[]⟩⟩) else xLit ⟨1,n,⟨#[]⟩⟩
theorem zbM (n:Int) (h2:-9223372036854775808 < n):Pure S.world_Num [iv n] (X.av (xNum n)):=by
 unfold xNum
 cases h:decide (n < 0)
 ·exact ztU n h
 ·exact c_Num1 n h h2
def zbX (l:List V):(List V) :=
 l
theorem zdR (l:List V) (hl:zad l):zac E0 S.ref5_Copy [vsl l] [] (vsl (zbX l)) []:=by
 exact wk At.ref5_Copy [sqx ((List.map V.cells l).length=(List.map V.cells l).length),sqx (AllLen (List.map V.cells l) 3∧((List.map V.cells l).length * 32).le 140737488355328)] kr
def plIn (p:Pl) (s:Sch):Pl :=
 Pl.mk (p.frs++[Fr.mk s.name false s.cols []]) p.tbs
theorem zfa (p:Pl) (s:Sch) (hp:zad p.frs):zac E0 S.world_Inside [p.av,s.av] [] ((plIn p s).av) []:=by
 unfold plIn
 exact (by (try simp only [X.av,Qy.av,V.av,Tb.av,Sch.av,Pl.av,xsl,fsl,vsl,tsl,List.map_append,List.map_cons,List.map_nil,V.cells,Col.cells,Rw.cells,Tb.cells,Fr.cells,Sch.cells,Pl.cells,za7,zaO,zaU,zaS,za0,X.cells,Qy.cells,X.args_mk,X.sub_mk,Qy.items_mk,Qy.wh_mk]);exact wk At.world_Inside [sqx ((List.map Fr.cells p.frs++[[sv s.name,bv false,AV.sl (List.map Col.cells s.cols),AV.sl []]]).length=(List.map Fr.cells p.frs++[[sv s.name,bv false,AV.sl (List.map Col.cells s.cols),AV.sl []]]).length∧True∧True),sd [(2,[sqx (AllLen (List.map Fr.cells p.frs) 4∧((List.map Fr.cells p.frs).length * 72).le 140737488355328)]),(9,[sqx (AllLen [[sv s.name,bv false,AV.sl (List.map Col.cells s.cols),AV.sl []]] 4∧(List.map Fr.cells p.frs).length=(List.map Fr.cells p.frs).length∧(((List.map Fr.cells p.frs).length+[[sv s.name,bv false,AV.sl (List.map Col.cells s.cols),AV.sl []]].length) * 72).le 140737488355328)])]] kr)
end Go.AM
namespace Go.AM
set_option maxRecDepth 100000
set_option linter.unusedSimpArgs false
set_option linter.unusedVariables false
abbrev Few {α:Type} (l:List α):Prop:=l.length≤1000
abbrev zX:List AV:=[iv 0,iv 0,.bl false,iv 0,iv 0,sv ⟨#[]⟩,sv ⟨#[]⟩,sv ⟨#[]⟩,.nl,.nl]
def zog (x:X):Prop:=∃ a b,x=xCol a b
def zfi (l:List X):Prop:=∀ x∈l,zog x
theorem zfi.nil:zfi []:=fun _ h=>by cases h
theorem zfi.app {l m:List X} (h:zfi l) (hm:zfi m):zfi (l++m):=fun x hx=>(List.mem_append.1 hx).elim (h x) (hm x)
theorem zfi.col (a b:Str):zfi [xCol a b]:=fun x hx=>by simp only [List.mem_singleton] at hx;exact ⟨a,b,hx⟩
theorem zfi.at {l:List X} (h:zfi l) {i:Nat} {x:X} (hx:l[i]?=some x):zog x:=h x (List.mem_of_getElem? hx)
theorem zgh {n:Nat} (h:(((n:Nat):Int)==0)=false) (hb:n≤1000000000):Pos (n:Int):=by
 have:(n:Int)≠0:=by simpa using h
 exact ⟨by omega,by omega⟩
structure Pl.Ok (p:Pl):Prop where
 frs:Few p.frs
 cols:∀ f∈p.frs,Few f.cols
abbrev zT:List AV:=[sv ⟨#[]⟩,.nl,iv 0,.nl]
structure TabOk (t:Tb):Prop where
 rows:∀ r∈t.rows,zcU t.sch.cols r.vals
 len:t.rows.length≤1000
structure SchOk (s:Sch):Prop where
 few:Few s.cols
 cols:∀ c∈s.cols,zfs c
 ne:s.cols≠[]
abbrev zdG (n:Nat) (key:Int):Prop:=key < n
theorem SchOk.short {s:Sch} (h:SchOk s):zad s.cols:=by have:=h.few;simp only [Few] at this;simp only [zad];omega
def zaG (l:List V) (key:Int):V:=l.getD key.toNat V.null
theorem zdX (l:List V) (key:Int) (hk:decide (key < 0)=false) (h:key < l.length):ElAt (l.map V.cells) key (zaG l key).cells 3:=by
 have h0:0≤key:=by simpa using hk
 refine ⟨h0,?_,rfl⟩
 have:key.toNat < l.length:=by omega
 simp [zaG,List.getD_eq_getElem?_getD,List.getElem?_eq_getElem this]
abbrev zgs (s:Sch) (rows:List Rw):Prop:=∀ r∈rows,zcU s.cols r.vals
theorem zgs.len {s:Sch} {rows:List Rw} (h:zgs s rows) {i:Nat} {x:Rw} (hx:rows[i]?=some x):x.vals.length=s.cols.length:=(h x (List.mem_of_getElem? hx)).len
theorem zgs.push {s:Sch} {rows:List Rw} (h:zgs s rows) {x:Rw} (hx:zcU s.cols x.vals):zgs s (rows++[x]):=fun r hr=>(List.mem_append.1 hr).elim (h r) fun h=>by simp only [List.mem_singleton] at h;exact h ▸ hx
theorem zgu {x:Sch} (hx:x∈zal):SchOk x:=by
 simp only [zal,List.mem_cons,List.not_mem_nil,or_false] at hx
 rcases hx with rfl|rfl|rfl <;> exact ⟨by simp,by simp [zfs],by simp⟩
structure StoreOk (l:List Tb):Prop where
 len:l.length≤1000
 tabs:∀ t∈l,TabOk t∧SchOk t.sch
theorem StoreOk.push {l:List Tb} (h:StoreOk l) (hl:l.length+1≤1000) {t:Tb} (ht:TabOk t) (hs:SchOk t.sch):StoreOk (l++[t]) :=
 ⟨by simp;omega,fun x hx=>(List.mem_append.1 hx).elim (h.tabs x) fun h=>by simp only [List.mem_singleton] at h;exact h ▸ ⟨ht,hs⟩⟩
end Go.AM
namespace Go.AM
set_option maxRecDepth 100000
set_option linter.unusedSimpArgs false
set_option linter.unusedVariables false
abbrev Thin {α:Type} (k:Nat) (l:List α):Prop:=l.length≤k
theorem Thin.few {α:Type} {k:Nat} {l:List α} (h:Thin k l) (hk:k≤1000:=by decide):Few l:=Nat.le_trans h hk
theorem Thin.short {α:Type} {k:Nat} {l:List α} (h:Thin k l) (hk:k≤1000000000:=by decide):zad l:=Nat.le_trans h hk
def XOk:Nat→X→Prop
 | 0,_=>False
 | n+1,e=>e.val.Good∧(Thin 3 e.args∧Thin 1 e.sub)∧(∀ x∈e.args,XOk n x)∧∀ q∈e.sub,(Thin 8 q.items∧Thin 1 q.wh)∧(∀ x∈q.items,XOk n x)∧∀ x∈q.wh,XOk n x
theorem XOk.mono:∀ {n:Nat} {e:X},XOk n e→XOk (n+1) e
 | 0,_,h=>h.elim
 | n+1,e,⟨h1,h2,h3,h4⟩=>⟨h1,h2,fun x hx=>(h3 x hx).mono,fun q hq=>⟨(h4 q hq).1,fun x hx=>((h4 q hq).2.1 x hx).mono,fun x hx=>((h4 q hq).2.2 x hx).mono⟩⟩
theorem XOk.le {n m:Nat} {e:X} (h:XOk n e) (hm:n≤m):XOk m e:=by
 induction hm with
 | refl=>exact h
 | step _ ih=>exact ih.mono
theorem zu1 {n:Nat} {v:V} (h:v.Good):XOk (n+1) (xLit v):=⟨h,⟨by simp [xLit],by simp [xLit]⟩,fun x hx=>by simp [xLit] at hx,fun q hq=>by simp [xLit] at hq⟩
theorem zq7 {n:Nat} {x:X} (h:zog x):XOk (n+1) x:=by
 obtain ⟨a,b,rfl⟩:=h
 exact ⟨zaj,⟨by simp [xCol],by simp [xCol]⟩,fun x hx=>by simp [xCol] at hx,fun q hq=>by simp [xCol] at hq⟩
theorem zln {n:Nat} {k o:Int} {nt:Bool} {l:List X} (hl:Thin 3 l) (h:∀ x∈l,XOk n x):XOk (n+1) (X.mk k o nt ⟨0,0,⟨#[]⟩⟩ ⟨#[]⟩ ⟨#[]⟩ l []) :=
 ⟨zaj,⟨hl,by simp⟩,h,fun q hq=>by simp at hq⟩
theorem xok_1 {n:Nat} {k o:Int} {nt:Bool} {a:X} (h:XOk n a):XOk (n+1) (X.mk k o nt ⟨0,0,⟨#[]⟩⟩ ⟨#[]⟩ ⟨#[]⟩ [a] []) :=
 zln (by simp) fun x hx=>by simp only [List.mem_singleton] at hx;exact hx ▸ h
theorem xok_2 {n:Nat} {k o:Int} {nt:Bool} {a b:X} (h:XOk n a) (h2:XOk n b):XOk (n+1) (X.mk k o nt ⟨0,0,⟨#[]⟩⟩ ⟨#[]⟩ ⟨#[]⟩ [a,b] []) :=
 zln (by simp) fun x hx=>by simp only [List.mem_cons,List.not_mem_nil,or_false] at hx;rcases hx with rfl|rfl <;> assumption
theorem xok_3 {n:Nat} {k o:Int} {nt:Bool} {a b c:X} (h:XOk n a) (h2:XOk n b) (h3:XOk n c):XOk (n+1) (X.mk k o nt ⟨0,0,⟨#[]⟩⟩ ⟨#[]⟩ ⟨#[]⟩ [a,b,c] []) :=
 zln (by simp) fun x hx=>by simp only [List.mem_cons,List.not_mem_nil,or_false] at hx;rcases hx with rfl|rfl|rfl <;> assumption
theorem xok_q {n:Nat} {k:Int} {s:Bool} {i w:List X} {f:Str} (hi:Thin 8 i) (h1:∀ x∈i,XOk n x) (h2:∀ x∈w,XOk n x) (hw:Thin 1 w:=by simp):XOk (n+1) (X.mk k 0 false ⟨0,0,⟨#[]⟩⟩ ⟨#[]⟩ ⟨#[]⟩ [] [Qy.mk s i f w]) :=
 ⟨zaj,⟨by simp,by simp⟩,fun x hx=>by simp at hx,fun q hq=>by
  simp only [X.sub_mk,List.mem_singleton] at hq
  subst hq
  exact ⟨⟨hi,hw⟩,h1,h2⟩⟩
structure Pl.OkN (n:Nat) (p:Pl):Prop where
 frs:p.frs.length+n≤1000
 cols:∀ f∈p.frs,Few f.cols
 ne:p.tbs≠[]
 few:Few p.tbs
 tcols:∀ s∈p.tbs,Few s.cols
theorem Pl.OkN.few1 {n:Nat} {p:Pl} (h:p.OkN n):Few p.frs:=by have:=h.frs;simp only [Few];omega
theorem Pl.OkN.short {n:Nat} {p:Pl} (h:p.OkN n):zad p.frs:=by have:=h.frs;simp only [zad];omega
theorem Pl.OkN.less {n:Nat} {p:Pl} (h:p.OkN (n+1)):p.OkN n:=⟨by have:=h.frs;omega,h.cols,h.ne,h.few,h.tcols⟩
theorem Pl.OkN.pos {n:Nat} {p:Pl} (h:p.OkN n):Pos (((p.tbs.map Sch.cells).length:Nat):Int):=by
 have h1:=h.few
 have h2:0 < p.tbs.length:=List.length_pos_iff.2 h.ne
 simp only [Few] at h1
 simp only [Pos,List.length_map];omega
theorem Pl.OkN.ins {n:Nat} {p:Pl} (h:p.OkN (n+1)) {k:Nat} {s:Sch} (hs:p.tbs[k]?=some s):(plIn p s).OkN n:=by
 refine ⟨by have:=h.frs;simp [plIn];omega,fun f hf=>?_,h.ne,h.few,h.tcols⟩
 simp only [plIn,List.mem_append,List.mem_singleton] at hf
 rcases hf with hf|rfl
 ·exact h.cols f hf
 ·exact h.tcols s (List.mem_of_getElem? hs)
def opAt (k:Nat):Int:=[9,10,11,9,12,13].getD k 0
theorem zfA (k:Nat) (h:(k:Int) < 6):ElAt [[iv 9],[iv 10],[iv 11],[iv 9],[iv 12],[iv 13]] (k:Int) [iv (opAt k)] 1:=by
 have h:k=0∨k=1∨k=2∨k=3∨k=4∨k=5:=by omega
 rcases h with rfl|rfl|rfl|rfl|rfl|rfl <;> exact ⟨by decide,rfl,rfl⟩
end Go.AM
namespace Go.AM
set_option maxRecDepth 100000
set_option linter.unusedSimpArgs false
set_option linter.unusedVariables false
abbrev dpt (n:Nat):Int:=(n:Int) - 1
theorem dpt1 (n:Nat) (hn:n≤500):IntKind.i64.wrap (dpt (n+2) - 1)=dpt (n+1):=by rw [IntKind.wrap_i64];simp only [dpt];omega
theorem dpt2 (n:Nat) (hn:n≤500):IntKind.i64.wrap (dpt (n+2) - 2)=dpt n:=by rw [IntKind.wrap_i64];simp only [dpt];omega
end Go.AM
namespace Go.AM
set_option maxRecDepth 100000
set_option maxHeartbeats 1000000
set_option linter.unusedSimpArgs false
set_option linter.unusedVariables false
theorem zoc {p:Prop} (h:p:=by first|assumption|(simp;done)|(simp;omega)|omega|(simp at *;omega)):p:=h
theorem zop {p:Prop} (h:p:=by first|assumption|omega|(simp;done)|(simp;omega)):p:=h
def zbc:Fr:=⟨⟨#[]⟩,false,[],[]⟩
theorem zna {α:Type} {l:List α} {k:Nat} (d:α) (h:k < l.length):l[k]?=some (l.getD k d):=by
 rw [List.getD_eq_getElem?_getD,List.getElem?_eq_getElem h];rfl
noncomputable def L_sres (frs:List Fr) (q n:Str) (k:Nat) :Cfg:=zar B.scope_Resolve 0 [(0,fsl frs),(1,sv q),(2,sv n),(9,iv (pm1 k))] []
def sres (frs:List Fr) (q n:Str):Nat→Int × Int × Bool
 | 0 =>
  (0,0,false)
 | k+1 =>
  bif ByteArray.toList q==(ByteArray.mk #[]).toList then
   bif (frs.getD k zbc).strict then
    sres frs q n (k)
   else
    bif decide (0≤idxF (fun c=>colC c n) (Sch.mk (ByteArray.mk #[]) (frs.getD k zbc).cols).cols 0) then
     (pm1 (k+1),idxF (fun c=>colC c n) (Sch.mk (ByteArray.mk #[]) (frs.getD k zbc).cols).cols 0,true)
    else
     sres frs q n (k)
  else
   bif !ByteArray.toList (frs.getD k zbc).name==ByteArray.toList q then
    sres frs q n (k)
   else
    bif decide (0≤idxF (fun c=>colC c n) (Sch.mk (ByteArray.mk #[]) (frs.getD k zbc).cols).cols 0) then
     (pm1 (k+1),idxF (fun c=>colC c n) (Sch.mk (ByteArray.mk #[]) (frs.getD k zbc).cols).cols 0,true)
    else
     sres frs q n (k)
theorem zqq (frs:List Fr) (q n:Str) (hl:zad frs) (hc:∀ f∈frs,zad f.cols):∀ (k:Nat),k≤1000000000→k≤frs.length→Good E0 B.scope_Resolve [] (L_sres frs q n k ) (Shut 0 fun r h=>r=(.tup [iv (sres frs q n k ).1,iv (sres frs q n k ).2.1,bv (sres frs q n k ).2.2])∧h=[]):=by
 intro k
 induction k with
 | zero =>
  intro  hk hk2
  simp only [sres]
  refine zaa ?_
  exact wkr [sb (rfl:false=false)] kr
 | succ k ih =>
  intro  hk hk2
  have h0:decide ((0:Int)≤((k:Nat):Int))=true:=by simp
  have hw:=zo3 k (by omega)
  have hx:=zna (l:=frs) (k:=k) zbc (by omega);have hcx:=hc _ (List.mem_of_getElem? hx)
  simp only [sres]
  refine zaa ?_
  cases h1:ByteArray.toList q==(ByteArray.mk #[]).toList
  ·cases h2:!ByteArray.toList (frs.getD k zbc).name==ByteArray.toList q
   ·cases h3:decide (0≤idxF (fun c=>colC c n) (Sch.mk (ByteArray.mk #[]) (frs.getD k zbc).cols).cols 0)
    ·exact wkl [sb (rfl:true=true),se (zah Fr.cells hx rfl),sb h1,sg (congrArg Bool.not h1),sb h2,sc (zbt (Sch.mk (ByteArray.mk #[]) (frs.getD k zbc).cols) n zop),sb h3,si hw] [0,1,2,9] 0 kr (ih  (by omega) zoc)
    ·exact wkr [sb (rfl:true=true),se (zah Fr.cells hx rfl),sb h1,sg (congrArg Bool.not h1),sb h2,sc (zbt (Sch.mk (ByteArray.mk #[]) (frs.getD k zbc).cols) n zop),sb h3] kr
   ·exact wkl [sb (rfl:true=true),se (zah Fr.cells hx rfl),sb h1,sg (congrArg Bool.not h1),sb h2,si hw] [0,1,2,9] 0 kr (ih  (by omega) zoc)
  ·cases h4:(frs.getD k zbc).strict
   ·cases h5:decide (0≤idxF (fun c=>colC c n) (Sch.mk (ByteArray.mk #[]) (frs.getD k zbc).cols).cols 0)
    ·exact wkl [sb (rfl:true=true),se (zah Fr.cells hx rfl),sg h1,sg h4,sb (congrArg Bool.not h1),sc (zbt (Sch.mk (ByteArray.mk #[]) (frs.getD k zbc).cols) n zop),sb h5,si hw] [0,1,2,9] 0 kr (ih  (by omega) zoc)
    ·exact wkr [sb (rfl:true=true),se (zah Fr.cells hx rfl),sg h1,sg h4,sb (congrArg Bool.not h1),sc (zbt (Sch.mk (ByteArray.mk #[]) (frs.getD k zbc).cols) n zop),sb h5] kr
   ·exact wkl [sb (rfl:true=true),se (zah Fr.cells hx rfl),sg h1,sb h4,si hw] [0,1,2,9] 0 kr (ih  (by omega) zoc)
theorem zuO {α:Type} (f:α→List AV) (l:List α) (h:zad l):IntKind.i64.wrap ((((l.map f).length:Nat):Int) - 1)=pm1 l.length:=by
 rw [List.length_map];exact zo3 _ (by simp only [zad] at h;omega)
def zbw (frs:List Fr) (q n:Str):Int × Int × Bool :=
 sres frs q n (frs.length)
theorem zdo (frs:List Fr) (q n:Str) (hl:zad frs) (hc:∀ f∈frs,zad f.cols) (hw0:IntKind.i64.wrap ((((frs.map Fr.cells).length:Nat):Int) - 1)=pm1 frs.length):zac E0 S.scope_Resolve [fsl frs,sv q,sv n] [] (.tup [iv (zbw frs q n).1,iv (zbw frs q n).2.1,bv (zbw frs q n).2.2]) []:=by
 unfold zbw
 exact wkc At.scope_Resolve [si hw0] [0,1,2,9] 0 kr (by have ih:=zqq frs q n hl hc frs.length (by simp only [zad] at hl;omega) (Nat.le_refl _);exact ih)
def zc7 (frs:List Fr) (q n:Str) (k:Nat) (f:Fr) (els:Int × Int × Bool):List (Col)→Nat→Int × Int × Bool
 | [],j =>
  els
 | x::r,j =>
  bif ByteArray.toList x.name==ByteArray.toList n then
   (pm1 (k+1),(j:Int),true)
  else
   zc7 frs q n k f els r (j+1)
def rres (frs:List Fr) (q n:Str):Nat→Int × Int × Bool
 | 0 =>
  (0,0,false)
 | k+1 =>
  bif ByteArray.toList q==(ByteArray.mk #[]).toList then
   bif (frs.getD k zbc).strict then
    rres frs q n (k)
   else
    zc7 frs q n k (frs.getD k zbc) (rres frs q n k) (frs.getD k zbc).cols 0
  else
   bif !ByteArray.toList (frs.getD k zbc).name==ByteArray.toList q then
    rres frs q n (k)
   else
    zc7 frs q n k (frs.getD k zbc) (rres frs q n k) (frs.getD k zbc).cols 0
def zaX (frs:List Fr) (q n:Str):Int × Int × Bool :=
 rres frs q n (frs.length)
def ziY (tb:List Tb) (n:Str):List (Tb)→Nat→Sch × Bool
 | [],i =>
  (Sch.mk (ByteArray.mk #[]) [],false)
 | x::r,i =>
  bif ByteArray.toList x.sch.name==ByteArray.toList n then
   (x.sch,true)
  else
   ziY tb n r (i+1)
def zap (tb:List Tb) (n:Str):Sch × Bool :=
 ziY tb n tb (0)
def zas (frs:List Fr) (s:Sch) (v:List V):(List Fr) :=
 frs++[Fr.mk s.name false s.cols v]
def zfq (t w:Int):Bool :=
 bif t==0 then
  true
 else
  t==w
def zdJ (l:List Int) (want give:Int):List (Int)→Nat→Int × Int
 | [],i =>
  (give,0)
 | x::r,i =>
  bif !zfq x want then
   (0,5)
  else
   zdJ l want give r (i+1)
def zeS (l:List Int):List (Int)→Nat→(Int)→Int × Int
 | [],i,want =>
  zdJ l want 2 l 0
 | x::r,i,want =>
  bif x != 0 then
   zeS l r (i+1) (x)
  else
   zeS l r (i+1) (want)
def zbR (e:X) (l:List Int):Int × Int :=
 bif e.kind==6 then
  (2,0)
 else
  bif e.kind==3 then
   zdJ l 2 2 l 0
  else
   bif e.kind==5 then
    bif decide (e.op≤2) then
     zdJ l 2 2 l 0
    else
     bif e.kind==4 then
      zdJ l 1 1 l 0
     else
      bif decide (9≤e.op) then
       zdJ l 1 1 l 0
      else
       zeS l l 0 (-1)
   else
    bif e.kind==4 then
     zdJ l 1 1 l 0
    else
     zeS l l 0 (-1)
end Go.AM
namespace Go.AM
set_option maxRecDepth 100000
set_option maxHeartbeats 1000000
set_option linter.unusedSimpArgs false
set_option linter.unusedVariables false
def zgx (kind op:Int) (xs:List X) (qs:List Qy) (st:Bool) (it wh:List X):Bool :=
 bif kind==1 then
  bif (↑(zab xs).length:Int)==0 then
   (↑(zaf qs).length:Int)==0
  else
   false
 else
  bif kind==2 then
   bif (↑(zab xs).length:Int)==0 then
    (↑(zaf qs).length:Int)==0
   else
    false
  else
   bif kind==3 then
    bif (↑(zab xs).length:Int)==1 then
     (↑(zaf qs).length:Int)==0
    else
     false
   else
    bif kind==4 then
     bif (↑(zab xs).length:Int)==1 then
      (↑(zaf qs).length:Int)==0
     else
      false
    else
     bif kind==6 then
      bif (↑(zab xs).length:Int)==1 then
       (↑(zaf qs).length:Int)==0
      else
       false
     else
      bif kind==5 then
       bif decide (op < 1) then
        false
       else
        bif decide (13 < op) then
         false
        else
         bif (↑(zab xs).length:Int)==2 then
          (↑(zaf qs).length:Int)==0
         else
          false
      else
       bif kind==7 then
        bif (↑(zab xs).length:Int)==3 then
         (↑(zaf qs).length:Int)==0
        else
         false
       else
        bif kind==8 then
         bif (↑(zab xs).length:Int)==0 then
          bif (↑(zaf qs).length:Int)==1 then
           bif (↑(zab it).length:Int)==0 then
            decide ((↑(zab wh).length:Int)≤1)
           else
            false
          else
           false
         else
          false
        else
         bif kind==9 then
          bif (↑(zab xs).length:Int)==0 then
           bif (↑(zaf qs).length:Int)==1 then
            bif (↑(zab it).length:Int)==0 then
             decide ((↑(zab wh).length:Int)≤1)
            else
             false
           else
            false
          else
           false
         else
          bif kind==10 then
           bif (↑(zab xs).length:Int)==0 then
            bif (↑(zaf qs).length:Int)==1 then
             bif (↑(zab it).length:Int)==1 then
              decide ((↑(zab wh).length:Int)≤1)
             else
              false
            else
             false
           else
            false
          else
           bif kind==11 then
            bif (↑(zab xs).length:Int)==0 then
             bif (↑(zaf qs).length:Int)==1 then
              bif (↑(zab it).length:Int)==1 then
               decide ((↑(zab wh).length:Int)≤1)
              else
               false
             else
              false
            else
             false
           else
            bif kind==12 then
             bif (↑(zab xs).length:Int)==0 then
              bif (↑(zaf qs).length:Int)==1 then
               bif (↑(zab it).length:Int)==1 then
                decide ((↑(zab wh).length:Int)≤1)
               else
                false
              else
               false
             else
              false
            else
             false
def zkk (kind op:Int) (xs:List X):Bool :=
 bif kind==1 then
  bif (↑(zab xs).length:Int)==0 then
   (↑(zaf []).length:Int)==0
  else
   false
 else
  bif kind==2 then
   bif (↑(zab xs).length:Int)==0 then
    (↑(zaf []).length:Int)==0
   else
    false
  else
   bif kind==3 then
    bif (↑(zab xs).length:Int)==1 then
     (↑(zaf []).length:Int)==0
    else
     false
   else
    bif kind==4 then
     bif (↑(zab xs).length:Int)==1 then
      (↑(zaf []).length:Int)==0
     else
      false
    else
     bif kind==6 then
      bif (↑(zab xs).length:Int)==1 then
       (↑(zaf []).length:Int)==0
      else
       false
     else
      bif kind==5 then
       bif decide (op < 1) then
        false
       else
        bif decide (13 < op) then
         false
        else
         bif (↑(zab xs).length:Int)==2 then
          (↑(zaf []).length:Int)==0
         else
          false
      else
       bif kind==7 then
        bif (↑(zab xs).length:Int)==3 then
         (↑(zaf []).length:Int)==0
        else
         false
       else
        bif kind==8 then
         bif (↑(zab xs).length:Int)==0 then
          false
         else
          false
        else
         bif kind==9 then
          bif (↑(zab xs).length:Int)==0 then
           false
          else
           false
         else
          bif kind==10 then
           bif (↑(zab xs).length:Int)==0 then
            false
           else
            false
          else
           bif kind==11 then
            bif (↑(zab xs).length:Int)==0 then
             false
            else
             false
           else
            bif kind==12 then
             bif (↑(zab xs).length:Int)==0 then
              false
             else
              false
            else
             false
def zcP (e:X):Bool:=match e.sub with
 | []=>zkk e.kind e.op e.args
 | q::r=>zgx e.kind e.op e.args (q::r) q.star q.items q.wh
def zco (e:X):Bool:=match e.sub with
 | []=>za3 e.kind e.op e.args
 | q::r=>zaE e.kind e.op e.args (q::r) q.items q.wh
theorem zbd (e:X):Pure S.scope_Formed [e.av] (bv (zco e)):=by
 cases e with
 | mk kind op nt val tn nm xs qs =>
  cases qs with
  | nil=>exact zkT kind op xs nt val tn nm
  | cons q r=>cases q with
   | mk st it fm wh=>exact zk0 kind op xs _ it wh nt val tn nm st fm rfl
theorem zp2 (frs:List Fr) (q n:Str) (k:Nat) (f:Fr) (els:Int × Int × Bool):∀ (c:List Col) (j:Nat),(zc7 frs q n k f els c j=els)∨(∃ (i:Nat) (x:Col),zc7 frs q n k f els c j=(((k:Nat):Int),((j+i:Nat):Int),true)∧c[i]?=some x)
 | [],j=>.inl rfl
 | x::r,j=>by
  rcases zp2 frs q n k f els r (j+1) with h|⟨i,y,h,hy⟩
  ·simp only [zc7,Bool.cond_eq_ite]
   split
   ·exact .inr ⟨0,x,rfl,rfl⟩
   ·exact .inl h
  ·simp only [zc7,Bool.cond_eq_ite]
   split
   ·exact .inr ⟨0,x,rfl,rfl⟩
   ·exact .inr ⟨i+1,y,by rw [h];congr 2;omega,hy⟩
theorem zrd (frs:List Fr) (q n:Str):∀ (k:Nat),k≤frs.length→(rres frs q n k).2.2=true→∃ (i j:Nat) (f:Fr) (c:Col),rres frs q n k=((i:Int),(j:Int),true)∧frs[i]?=some f∧f.cols[j]?=some c
 | 0,_,h=>by simp [rres] at h
 | k+1,hk,h=>by
  have ih:=zrd frs q n k (by omega)
  have hx:=zna (l:=frs) (k:=k) zbc (by omega)
  have hi:=zp2 frs q n k (frs.getD k zbc) (rres frs q n k) (frs.getD k zbc).cols 0
  simp only [rres,Bool.cond_eq_ite] at h ⊢
  have key:(zc7 frs q n k (frs.getD k zbc) (rres frs q n k) (frs.getD k zbc).cols 0).2.2=true→∃ (i j:Nat) (f:Fr) (c:Col),zc7 frs q n k (frs.getD k zbc) (rres frs q n k) (frs.getD k zbc).cols 0=((i:Int),(j:Int),true)∧frs[i]?=some f∧f.cols[j]?=some c:=by
   intro h
   rcases hi with e|⟨i,y,e,hy⟩
   ·rw [e] at h ⊢;exact ih h
   ·exact ⟨k,0+i,_,y,e,hx,by simpa using hy⟩
  revert h
  repeat' split
  all_goals first|exact ih|exact key
end Go.AM
namespace Go.AM
set_option maxRecDepth 100000
set_option maxHeartbeats 1000000
set_option linter.unusedSimpArgs false
set_option linter.unusedVariables false
def cNull:Col:=⟨⟨#[]⟩,0,false,false⟩
def rFr (frs:List Fr) (q n:Str):Fr:=frs.getD (zaX frs q n).1.toNat zbc
def rCol (frs:List Fr) (q n:Str):Col:=(rFr frs q n).cols.getD (zaX frs q n).2.1.toNat cNull
theorem zfg {frs:List Fr} {q n:Str} (h:(zaX frs q n).2.2=true):∃ (i j:Nat),zaX frs q n=((i:Int),(j:Int),true)∧frs[i]?=some (rFr frs q n)∧(rFr frs q n).cols[j]?=some (rCol frs q n):=by
 have h':=h
 unfold zaX at h'
 obtain ⟨i,j,f,c,e,hf,hc⟩:=zrd frs q n frs.length (Nat.le_refl _) h'
 have e':zaX frs q n=((i:Int),(j:Int),true):=e
 have e1:rFr frs q n=f:=by simp [rFr,e',List.getD_eq_getElem?_getD,hf]
 have e2:rCol frs q n=c:=by simp [rCol,e1,e',List.getD_eq_getElem?_getD,hc]
 exact ⟨i,j,e',by rw [e1];exact hf,by rw [e1,e2];exact hc⟩
theorem el_rFr (frs:List Fr) (q n:Str) (h:(zaX frs q n).2.2=true):ElAt (frs.map Fr.cells) (zaX frs q n).1 (rFr frs q n).cells 4:=by
 obtain ⟨i,j,e,h1,h2⟩:=zfg h
 rw [show (zaX frs q n).1=(i:Int) by rw [e]]
 exact zah Fr.cells h1 rfl
theorem zu6 (frs:List Fr) (q n:Str) (h:(zaX frs q n).2.2=true):ElAt ((rFr frs q n).cols.map Col.cells) (zaX frs q n).2.1 (rCol frs q n).cells 4:=by
 obtain ⟨i,j,e,h1,h2⟩:=zfg h
 rw [show (zaX frs q n).2.1=(j:Int) by rw [e]]
 exact zah Col.cells h2 rfl
def zmp (f:X→Int × Int) (x:X):Int :=
 bif (f x).snd != 0 then
  (f x).snd
 else
  bif !zfq (f x).fst 2 then
   5
  else
   0
def rcond0 :Int :=
 0
def rtyL (f:X→Int × Int) (e:X) (frs:List Fr) (tb:List Tb):List (X)→Nat→(List Int)→Int × Int
 | [],i,l =>
  ((zbR e l).fst,(zbR e l).snd)
 | x::r,i,l =>
  bif (f x).snd != 0 then
   (0,(f x).snd)
  else
   rtyL f e frs tb r (i+1) (l++[(f x).fst])
def rtqL (f:X→Int × Int) (cond:Int) (e:X) (q:Qy) (ins:List Fr) (tb:List Tb):List (X)→Nat→(Int)→Int × Int
 | [],i,item =>
  bif cond != 0 then
   (0,cond)
  else
   bif e.kind==10 then
    bif !zfq item 1 then
     (0,5)
    else
     bif e.kind==8 then
      (2,0)
     else
      bif e.kind==11 then
       (item,0)
      else
       bif e.kind==12 then
        (item,0)
       else
        (1,0)
   else
    bif e.kind==8 then
     (2,0)
    else
     bif e.kind==11 then
      (item,0)
     else
      bif e.kind==12 then
       (item,0)
      else
       (1,0)
 | x::r,i,item =>
  bif (f x).snd != 0 then
   (0,(f x).snd)
  else
   rtqL f cond e q ins tb r (i+1) ((f x).fst)
end Go.AM
