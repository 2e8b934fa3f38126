/-
  Contracts of the program's functions, part 2.
-/
import Derived.Test.YtjbihenhlanepaaGreatDoorFsB
import Derived.Test.YtjbihenhlanepaaGreatDoorProg
import Derived.KernelRfl
import Derived.Laws.StructEq
set_option linter.unusedSimpArgs false
set_option linter.unusedVariables false
namespace Go.AM
theorem kr {p : Prop} (h : p := by kernel_rfl) : p := h
namespace S
abbrev law23_FireSteps:FuncId:=3
abbrev world_New:FuncId:=5
abbrev world_Tape_Store:FuncId:=6
abbrev world_Mod:FuncId:=7
abbrev world_Tape_Row:FuncId:=8
abbrev world_Schema:FuncId:=9
abbrev law23_note:FuncId:=10
abbrev world_Num:FuncId:=11
abbrev world_Lit:FuncId:=12
abbrev world_Bin:FuncId:=13
abbrev world_Col:FuncId:=14
abbrev fire_Item:FuncId:=15
abbrev ref1_Number:FuncId:=16
abbrev law23_known:FuncId:=17
abbrev world_Schemas:FuncId:=20
abbrev world_Tape_TableOf:FuncId:=21
abbrev world_Tape_Typed:FuncId:=22
abbrev world_Tape_Bool:FuncId:=23
abbrev world_Tape_Small:FuncId:=24
abbrev slices_IndexFunc_Trigger:FuncId:=25
abbrev fire_Item_c1:FuncId:=26
abbrev scope_Source:FuncId:=27
abbrev event_Find:FuncId:=28
abbrev trigger_Frames:FuncId:=29
abbrev trigger_Transitions:FuncId:=30
abbrev trigger_Matching:FuncId:=31
abbrev evaluate_True:FuncId:=32
abbrev slices_Concat_Table:FuncId:=33
abbrev deep_Tables:FuncId:=34
abbrev slices_Clone_int:FuncId:=35
abbrev statement_Run:FuncId:=36
abbrev world_Tape_Next:FuncId:=39
abbrev world_Tape_Number:FuncId:=40
abbrev world_Tape_Word:FuncId:=41
abbrev slices_IndexFunc_Table:FuncId:=42
abbrev scope_Source_c1:FuncId:=43
abbrev slices_Clone_Column:FuncId:=44
abbrev slices_IndexFunc_Delta:FuncId:=45
abbrev event_Find_c1:FuncId:=46
abbrev slices_Clone_Value:FuncId:=47
abbrev deep_Rows:FuncId:=48
abbrev trigger_transition:FuncId:=50
abbrev evaluate_Value:FuncId:=53
abbrev logic_Valid:FuncId:=54
abbrev logic_IsTrue:FuncId:=55
abbrev slices_Grow_Table:FuncId:=56
abbrev deep_list_api_Table:FuncId:=57
abbrev deep_Table:FuncId:=58
abbrev store_Find:FuncId:=59
abbrev dml_Candidates:FuncId:=60
abbrev dml_Assigned:FuncId:=61
abbrev before_Statement:FuncId:=62
abbrev before_Applicable:FuncId:=63
abbrev statement_run_rows:FuncId:=64
abbrev keys_Apply:FuncId:=65
abbrev deep_list_api_Row:FuncId:=69
abbrev deep_Row:FuncId:=70
abbrev slices_ContainsFunc_string:FuncId:=72
abbrev schema_Find:FuncId:=74
abbrev scope_Formed:FuncId:=75
abbrev scope_Resolve:FuncId:=76
abbrev evaluate_aggregate:FuncId:=77
abbrev evaluate_operation:FuncId:=78
abbrev value_Valid:FuncId:=79
abbrev value_Truth:FuncId:=80
abbrev deep_Schema:FuncId:=81
abbrev store_Find_c1:FuncId:=82
abbrev dml_target:FuncId:=83
abbrev dml_inserted:FuncId:=84
abbrev dml_Candidates_c1:FuncId:=85
abbrev dml_inside:FuncId:=86
abbrev dml_assigned:FuncId:=87
abbrev before_Applicable_c1:FuncId:=88
abbrev slices_Contains_string:FuncId:=89
abbrev deep_Trigger:FuncId:=90
abbrev slices_Contains_int:FuncId:=91
abbrev statement_run_row:FuncId:=92
abbrev keys_Valid:FuncId:=93
abbrev keys_fits:FuncId:=94
abbrev table_Duplicate:FuncId:=95
abbrev slices_Equal_Value:FuncId:=97
abbrev slices_IndexFunc_string:FuncId:=98
abbrev slices_IndexFunc_Column:FuncId:=99
abbrev schema_Find_c1:FuncId:=100
abbrev evaluate_selected:FuncId:=101
abbrev evaluate_aggregate_c1:FuncId:=102
abbrev evaluate_isNull:FuncId:=103
abbrev value_Number:FuncId:=104
abbrev evaluate_sum:FuncId:=105
abbrev slices_MinFunc_Value:FuncId:=106
abbrev value_Compare:FuncId:=107
abbrev slices_MaxFunc_Value:FuncId:=108
abbrev evaluate_truth:FuncId:=109
abbrev logic_Not:FuncId:=110
abbrev evaluate_between:FuncId:=111
abbrev evaluate_arithmetic:FuncId:=112
abbrev logic_And:FuncId:=113
abbrev logic_Or:FuncId:=114
abbrev evaluate_comparison:FuncId:=115
abbrev value_plain:FuncId:=116
abbrev syntax_ValidAction:FuncId:=117
abbrev slices_ContainsFunc_Value:FuncId:=119
abbrev slices_Clone_Frame:FuncId:=121
abbrev slices_Index_string:FuncId:=122
abbrev slices_Clone_string:FuncId:=123
abbrev slices_Clone_Rank:FuncId:=124
abbrev deep_Exprs:FuncId:=125
abbrev deep_list_api_Action:FuncId:=126
abbrev deep_Action:FuncId:=127
abbrev slices_Index_int:FuncId:=128
abbrev before_Row:FuncId:=129
abbrev table_Valid:FuncId:=130
abbrev keys_rows:FuncId:=131
abbrev table_Get:FuncId:=132
abbrev keys_Valid_c1:FuncId:=133
abbrev tuple_Fits:FuncId:=134
abbrev schema_KeyColumn:FuncId:=135
abbrev evaluate_find:FuncId:=136
abbrev evaluate_inside:FuncId:=137
abbrev arith_Sum:FuncId:=138
abbrev cmp_Or_int:FuncId:=139
abbrev cmp_Compare_int:FuncId:=140
abbrev cmp_Compare_int64:FuncId:=141
abbrev cmp_Compare_string:FuncId:=142
abbrev arith_Add:FuncId:=143
abbrev arith_Subtract:FuncId:=144
abbrev arith_Multiply:FuncId:=145
abbrev arith_Divide:FuncId:=146
abbrev arith_Modulo:FuncId:=147
abbrev logic_and:FuncId:=148
abbrev schema_ValidName:FuncId:=149
abbrev syntax_validRows:FuncId:=150
abbrev syntax_ValidQuery:FuncId:=151
abbrev syntax_validSets:FuncId:=152
abbrev syntax_condition:FuncId:=153
abbrev slices_IndexFunc_Value:FuncId:=156
abbrev deep_list_api_Expr:FuncId:=157
abbrev deep_Expr:FuncId:=158
abbrev deep_list_Lapi_Expr:FuncId:=159
abbrev deep_list_api_Query:FuncId:=160
abbrev deep_Query:FuncId:=161
abbrev deep_list_api_Set:FuncId:=162
abbrev deep_set:FuncId:=163
abbrev slices_Clone_Trigger:FuncId:=164
abbrev pick_Eligible:FuncId:=165
abbrev pick_Choose:FuncId:=166
abbrev before_row_fire:FuncId:=167
abbrev slices_Delete_Trigger:FuncId:=168
abbrev schema_Valid:FuncId:=169
abbrev schema_Fits:FuncId:=170
abbrev schema_KeyColumn_c1:FuncId:=171
abbrev evaluate_find_c1:FuncId:=172
abbrev math_bits_Add64:FuncId:=173
abbrev cmp_isNaN_int:FuncId:=174
abbrev cmp_isNaN_int64:FuncId:=175
abbrev cmp_isNaN_string:FuncId:=176
abbrev slices_ContainsFunc_Expr:FuncId:=177
abbrev syntax_validRows_c1:FuncId:=178
abbrev syntax_validExprs:FuncId:=179
abbrev syntax_source:FuncId:=180
abbrev syntax_ValidExpr:FuncId:=181
abbrev syntax_names:FuncId:=182
abbrev order_Precedes:FuncId:=183
abbrev before_row_set:FuncId:=184
abbrev slices_IndexFunc_Expr:FuncId:=185
abbrev slices_ContainsFunc_Expr_175:FuncId:=186
abbrev syntax_validExprs_c1:FuncId:=187
abbrev syntax_bare:FuncId:=188
abbrev syntax_column:FuncId:=189
abbrev syntax_inner:FuncId:=190
abbrev syntax_arguments:FuncId:=191
abbrev slices_Contains_Link:FuncId:=192
abbrev slices_IndexFunc_Expr_199:FuncId:=193
abbrev slices_Index_Link:FuncId:=194
abbrev g_world_words:Nat:=0
end S
namespace Ty
abbrev int64:TypeId:=2
abbrev int:TypeId:=3
abbrev bool:TypeId:=4
abbrev string:TypeId:=9
abbrev LValue:TypeId:=28
abbrev Row:TypeId:=35
abbrev LExpr:TypeId:=43
abbrev Trigger:TypeId:=46
abbrev Action:TypeId:=52
abbrev Value:TypeId:=54
abbrev Expr:TypeId:=56
abbrev Query:TypeId:=62
abbrev Set:TypeId:=64
abbrev Item:TypeId:=70
abbrev Table:TypeId:=72
abbrev Column:TypeId:=85
abbrev Frame:TypeId:=118
abbrev Pair:TypeId:=122
abbrev run:TypeId:=144
abbrev Rank:TypeId:=200
abbrev M_Value_bool:TypeId:=212
abbrev row:TypeId:=240
abbrev Link:TypeId:=265
abbrev M_int_bool:TypeId:=267
end Ty
def tabA:List TI:=[
 ⟨.scalar,0,0,[]⟩,
 ⟨.scalar,0,0,[]⟩,
 ⟨.int .i64,1,8,[(.v (.int .i64 0))]⟩,
 ⟨.int .i64,1,8,[(.v (.int .i64 0))]⟩,
 ⟨.bool,1,1,[.bl false]⟩,
 ⟨.int .u8,1,1,[(.v (.int .u8 0))]⟩,
 ⟨.int .u8,1,1,[(.v (.int .u8 0))]⟩,
 ⟨.struct [0,1,2,3],4,24,[(.v (.int .i64 0)),(.v (.int .i64 0)),.bl false,(.v (.int .u8 0))]⟩,
 ⟨.struct [0,1,2,3],4,24,[(.v (.int .i64 0)),(.v (.int .i64 0)),.bl false,(.v (.int .u8 0))]⟩,
 ⟨.str,1,16,[.v (.string ⟨#[]⟩)]⟩,
 ⟨.str,1,16,[.v (.string ⟨#[]⟩)]⟩,
 ⟨.str,1,16,[.v (.string ⟨#[]⟩)]⟩,
 ⟨.int .u64,1,8,[(.v (.int .u64 0))]⟩,
 ⟨.struct [0,1],2,24,[.v (.string ⟨#[]⟩),(.v (.int .u64 0))]⟩,
 ⟨.struct [0,1],2,24,[.v (.string ⟨#[]⟩),(.v (.int .u64 0))]⟩,
 ⟨.scalar,1,8,[.v (.pointer none)]⟩,
 ⟨.scalar,1,8,[.v (.pointer none)]⟩,
 ⟨.scalar,1,8,[.v (.pointer none)]⟩,
 ⟨.struct [0],1,8,[.v (.pointer none)]⟩,
 ⟨.struct [0],1,8,[.v (.pointer none)]⟩,
 ⟨.scalar,1,16,[.v .nilIface]⟩,
 ⟨.int .i32,1,4,[(.v (.int .i32 0))]⟩,
 ⟨.slice 3,1,24,[.nl]⟩,
 ⟨.scalar,1,8,[.v (.pointer none)]⟩,
 ⟨.scalar,0,0,[]⟩,
 ⟨.slice 72,1,24,[.nl]⟩,
 ⟨.scalar,0,0,[]⟩,
 ⟨.scalar,0,0,[]⟩,
 ⟨.slice 54,1,24,[.nl]⟩,
 ⟨.scalar,0,0,[]⟩,
 ⟨.slice 85,1,24,[.nl]⟩,
 ⟨.struct [0,1],2,40,[.v (.string ⟨#[]⟩),.nl]⟩,
 ⟨.struct [0,1],2,40,[.v (.string ⟨#[]⟩),.nl]⟩,
 ⟨.scalar,0,0,[]⟩,
 ⟨.struct [0,1],2,32,[(.v (.int .i64 0)),.nl]⟩,
 ⟨.struct [0,1],2,32,[(.v (.int .i64 0)),.nl]⟩,
 ⟨.slice 35,1,24,[.nl]⟩,
 ⟨.slice 122,1,24,[.nl]⟩,
 ⟨.struct [0,1,2,3],4,88,[.v (.string ⟨#[]⟩),.nl,.nl,.nl]⟩,
 ⟨.struct [0,1,2,3],4,88,[.v (.string ⟨#[]⟩),.nl,.nl,.nl]⟩,
 ⟨.slice 39,1,24,[.nl]⟩,
 ⟨.slice 9,1,24,[.nl]⟩,
 ⟨.slice 200,1,24,[.nl]⟩,
 ⟨.slice 56,1,24,[.nl]⟩,
 ⟨.slice 52,1,24,[.nl]⟩,
 ⟨.struct [0,1,2,3,4,5,6,7,8,9,10],11,200,[.v (.string ⟨#[]⟩),.v (.string ⟨#[]⟩),.bl false,(.v (.int .i64 0)),.nl,.bl false,.nl,.nl,.nl,.nl,.nl]⟩,
 ⟨.struct [0,1,2,3,4,5,6,7,8,9,10],11,200,[.v (.string ⟨#[]⟩),.v (.string ⟨#[]⟩),.bl false,(.v (.int .i64 0)),.nl,.bl false,.nl,.nl,.nl,.nl,.nl]⟩,
 ⟨.scalar,0,0,[]⟩,
 ⟨.slice 43,1,24,[.nl]⟩,
 ⟨.slice 62,1,24,[.nl]⟩,
 ⟨.slice 64,1,24,[.nl]⟩,
 ⟨.struct [0,1,2,3,4,5,6],7,136,[(.v (.int .i64 0)),.v (.string ⟨#[]⟩),.nl,.nl,.nl,.nl,.v (.string ⟨#[]⟩)]⟩,
 ⟨.struct [0,1,2,3,4,5,6],7,136,[(.v (.int .i64 0)),.v (.string ⟨#[]⟩),.nl,.nl,.nl,.nl,.v (.string ⟨#[]⟩)]⟩,
 ⟨.struct [0,1,2],3,32,[(.v (.int .i64 0)),(.v (.int .i64 0)),.v (.string ⟨#[]⟩)]⟩,
 ⟨.struct [0,1,2],3,32,[(.v (.int .i64 0)),(.v (.int .i64 0)),.v (.string ⟨#[]⟩)]⟩,
 ⟨.struct [0,1,2,3,6,7,8,9],10,136,[(.v (.int .i64 0)),(.v (.int .i64 0)),.bl false,(.v (.int .i64 0)),(.v (.int .i64 0)),.v (.string ⟨#[]⟩),.v (.string ⟨#[]⟩),.v (.string ⟨#[]⟩),.nl,.nl]⟩,
 ⟨.struct [0,1,2,3,6,7,8,9],10,136,[(.v (.int .i64 0)),(.v (.int .i64 0)),.bl false,(.v (.int .i64 0)),(.v (.int .i64 0)),.v (.string ⟨#[]⟩),.v (.string ⟨#[]⟩),.v (.string ⟨#[]⟩),.nl,.nl]⟩,
 ⟨.scalar,0,0,[]⟩,
 ⟨.scalar,0,0,[]⟩,
 ⟨.scalar,0,0,[]⟩,
 ⟨.scalar,0,0,[]⟩,
 ⟨.struct [0,1,2,3],4,72,[.bl false,.nl,.v (.string ⟨#[]⟩),.nl]⟩,
 ⟨.struct [0,1,2,3],4,72,[.bl false,.nl,.v (.string ⟨#[]⟩),.nl]⟩,
 ⟨.struct [0,1],11,152,[.v (.string ⟨#[]⟩),(.v (.int .i64 0)),(.v (.int .i64 0)),.bl false,(.v (.int .i64 0)),(.v (.int .i64 0)),.v (.string ⟨#[]⟩),.v (.string ⟨#[]⟩),.v (.string ⟨#[]⟩),.nl,.nl]⟩,
 ⟨.struct [0,1],11,152,[.v (.string ⟨#[]⟩),(.v (.int .i64 0)),(.v (.int .i64 0)),.bl false,(.v (.int .i64 0)),(.v (.int .i64 0)),.v (.string ⟨#[]⟩),.v (.string ⟨#[]⟩),.v (.string ⟨#[]⟩),.nl,.nl]⟩,
 ⟨.int .i64,1,8,[(.v (.int .i64 0))]⟩,
 ⟨.scalar,0,0,[]⟩,
 ⟨.scalar,0,0,[]⟩,
 ⟨.slice 46,1,24,[.nl]⟩,
 ⟨.struct [0,1,2,3],4,72,[.v (.string ⟨#[]⟩),(.v (.int .i64 0)),.nl,.nl]⟩,
 ⟨.struct [0,1,2,3],4,72,[.v (.string ⟨#[]⟩),(.v (.int .i64 0)),.nl,.nl]⟩,
 ⟨.struct [0,2,3],4,72,[.v (.string ⟨#[]⟩),.nl,(.v (.int .i64 0)),.nl]⟩,
 ⟨.struct [0,2,3],4,72,[.v (.string ⟨#[]⟩),.nl,(.v (.int .i64 0)),.nl]⟩,
 ⟨.scalar,0,0,[]⟩,
 ⟨.scalar,0,0,[]⟩,
 ⟨.scalar,0,0,[]⟩,
 ⟨.scalar,0,0,[]⟩,
 ⟨.scalar,0,0,[]⟩,
 ⟨.scalar,0,0,[]⟩,
 ⟨.struct [0,1],2,32,[.nl,(.v (.int .i64 0))]⟩,
 ⟨.struct [0,1],2,32,[.nl,(.v (.int .i64 0))]⟩,
 ⟨.slice 32,1,24,[.nl]⟩,
 ⟨.scalar,0,0,[]⟩,
 ⟨.scalar,0,0,[]⟩,
 ⟨.struct [0,1,2,3],4,32,[.v (.string ⟨#[]⟩),(.v (.int .i64 0)),.bl false,.bl false]⟩,
 ⟨.struct [0,1,2,3],4,32,[.v (.string ⟨#[]⟩),(.v (.int .i64 0)),.bl false,.bl false]⟩,
 ⟨.scalar,0,0,[]⟩,
 ⟨.scalar,0,0,[]⟩,
 ⟨.scalar,0,0,[]⟩,
 ⟨.slice 265,1,24,[.nl]⟩,
 ⟨.scalar,0,0,[]⟩,
 ⟨.scalar,0,0,[]⟩,
 ⟨.scalar,0,0,[]⟩,
 ⟨.scalar,0,0,[]⟩,
 ⟨.scalar,0,0,[]⟩,
 ⟨.scalar,0,0,[]⟩,
 ⟨.slice 118,1,24,[.nl]⟩,
 ⟨.scalar,0,0,[]⟩,
 ⟨.scalar,0,0,[]⟩,
 ⟨.scalar,0,0,[]⟩,
 ⟨.scalar,0,0,[]⟩,
 ⟨.scalar,0,0,[]⟩,
 ⟨.scalar,0,0,[]⟩,
 ⟨.scalar,0,0,[]⟩,
 ⟨.scalar,0,0,[]⟩,
 ⟨.scalar,0,0,[]⟩,
 ⟨.scalar,0,0,[]⟩,
 ⟨.scalar,0,0,[]⟩,
 ⟨.scalar,0,0,[]⟩,
 ⟨.scalar,0,0,[]⟩,
 ⟨.scalar,0,0,[]⟩,
 ⟨.scalar,0,0,[]⟩,
 ⟨.scalar,0,0,[]⟩,
 ⟨.scalar,0,0,[]⟩,
 ⟨.scalar,0,0,[]⟩,
 ⟨.scalar,0,0,[]⟩,
 ⟨.scalar,0,0,[]⟩,
 ⟨.struct [0,1,2,3],4,72,[.v (.string ⟨#[]⟩),.bl false,.nl,.nl]⟩,
 ⟨.struct [0,1,2,3],4,72,[.v (.string ⟨#[]⟩),.bl false,.nl,.nl]⟩,
 ⟨.scalar,0,0,[]⟩,
 ⟨.scalar,0,0,[]⟩,
 ⟨.struct [0,1,2],3,56,[(.v (.int .i64 0)),.nl,.nl]⟩,
 ⟨.struct [0,1,2],3,56,[(.v (.int .i64 0)),.nl,.nl]⟩,
 ⟨.scalar,0,0,[]⟩,
 ⟨.scalar,0,0,[]⟩,
 ⟨.scalar,0,0,[]⟩,
 ⟨.scalar,0,0,[]⟩,
 ⟨.scalar,0,0,[]⟩,
 ⟨.scalar,0,0,[]⟩,
 ⟨.slice 25,1,24,[.nl]⟩,
 ⟨.scalar,0,0,[]⟩,
 ⟨.scalar,0,0,[]⟩,
 ⟨.scalar,0,0,[]⟩,
 ⟨.scalar,0,0,[]⟩,
 ⟨.slice 28,1,24,[.nl]⟩,
 ⟨.struct [0,1,2],3,72,[.nl,.nl,.nl]⟩,
 ⟨.struct [0,1,2],3,72,[.nl,.nl,.nl]⟩,
 ⟨.scalar,0,0,[]⟩,
 ⟨.scalar,0,0,[]⟩,
 ⟨.scalar,0,0,[]⟩,
 ⟨.scalar,0,0,[]⟩,
 ⟨.scalar,0,0,[]⟩,
 ⟨.scalar,1,8,[.v (.pointer none)]⟩,
 ⟨.struct [0,1,2,3,5,6],7,160,[.nl,.nl,.nl,.v (.string ⟨#[]⟩),.nl,.nl,.nl]⟩,
 ⟨.struct [0,1,2,3,5,6],7,160,[.nl,.nl,.nl,.v (.string ⟨#[]⟩),.nl,.nl,.nl]⟩,
 ⟨.scalar,0,0,[]⟩,
 ⟨.scalar,1,8,[.v (.pointer none)]⟩,
 ⟨.scalar,0,0,[]⟩,
 ⟨.scalar,0,0,[]⟩,
 ⟨.scalar,0,0,[]⟩,
 ⟨.scalar,0,0,[]⟩,
 ⟨.scalar,0,0,[]⟩,
 ⟨.array 6 9,6,96,[.v (.string ⟨#[]⟩),.v (.string ⟨#[]⟩),.v (.string ⟨#[]⟩),.v (.string ⟨#[]⟩),.v (.string ⟨#[]⟩),.v (.string ⟨#[]⟩)]⟩,
 ⟨.scalar,0,0,[]⟩,
 ⟨.scalar,0,0,[]⟩,
 ⟨.scalar,0,0,[]⟩,
 ⟨.scalar,0,0,[]⟩,
 ⟨.scalar,0,0,[]⟩,
 ⟨.scalar,0,0,[]⟩,
 ⟨.scalar,0,0,[]⟩,
 ⟨.scalar,0,0,[]⟩,
 ⟨.scalar,0,0,[]⟩,
 ⟨.scalar,0,0,[]⟩,
 ⟨.scalar,0,0,[]⟩,
 ⟨.scalar,0,0,[]⟩,
 ⟨.scalar,0,0,[]⟩,
 ⟨.scalar,0,0,[]⟩,
 ⟨.scalar,0,0,[]⟩,
 ⟨.scalar,0,0,[]⟩,
 ⟨.scalar,0,0,[]⟩,
 ⟨.scalar,0,0,[]⟩,
 ⟨.scalar,0,0,[]⟩,
 ⟨.scalar,0,0,[]⟩,
 ⟨.scalar,0,0,[]⟩,
 ⟨.scalar,0,0,[]⟩,
 ⟨.scalar,0,0,[]⟩,
 ⟨.scalar,0,0,[]⟩,
 ⟨.scalar,0,0,[]⟩,
 ⟨.scalar,0,0,[]⟩,
 ⟨.scalar,0,0,[]⟩,
 ⟨.scalar,0,0,[]⟩,
 ⟨.scalar,0,0,[]⟩,
 ⟨.scalar,0,0,[]⟩,
 ⟨.scalar,0,0,[]⟩,
 ⟨.scalar,0,0,[]⟩,
 ⟨.scalar,0,0,[]⟩,
 ⟨.scalar,0,0,[]⟩,
 ⟨.scalar,0,0,[]⟩,
 ⟨.scalar,0,0,[]⟩,
 ⟨.scalar,0,0,[]⟩,
 ⟨.scalar,0,0,[]⟩,
 ⟨.scalar,0,0,[]⟩,
 ⟨.scalar,0,0,[]⟩,
 ⟨.scalar,0,0,[]⟩,
 ⟨.scalar,0,0,[]⟩,
 ⟨.scalar,0,0,[]⟩,
 ⟨.scalar,0,0,[]⟩,
 ⟨.scalar,0,0,[]⟩,
 ⟨.scalar,0,0,[]⟩,
 ⟨.struct [0,1,2,3],4,48,[.v (.string ⟨#[]⟩),.v (.string ⟨#[]⟩),(.v (.int .i64 0)),(.v (.int .i64 0))]⟩,
 ⟨.struct [0,1,2,3],4,48,[.v (.string ⟨#[]⟩),.v (.string ⟨#[]⟩),(.v (.int .i64 0)),(.v (.int .i64 0))]⟩,
 ⟨.scalar,0,0,[]⟩,
 ⟨.scalar,0,0,[]⟩,
 ⟨.scalar,0,0,[]⟩,
 ⟨.scalar,0,0,[]⟩,
 ⟨.scalar,0,0,[]⟩,
 ⟨.scalar,0,0,[]⟩,
 ⟨.scalar,0,0,[]⟩,
 ⟨.scalar,0,0,[]⟩,
 ⟨.scalar,0,0,[]⟩,
 ⟨.scalar,0,0,[]⟩,
 ⟨.scalar,0,0,[]⟩,
 ⟨.map 54 4,1,8,[.v (.map none)]⟩,
 ⟨.scalar,0,0,[]⟩,
 ⟨.scalar,0,0,[]⟩,
 ⟨.scalar,0,0,[]⟩,
 ⟨.slice 2,1,24,[.nl]⟩,
 ⟨.scalar,0,0,[]⟩,
 ⟨.scalar,0,0,[]⟩,
 ⟨.scalar,0,0,[]⟩,
 ⟨.scalar,0,0,[]⟩,
 ⟨.scalar,0,0,[]⟩,
 ⟨.scalar,0,0,[]⟩,
 ⟨.scalar,0,0,[]⟩,
 ⟨.array 9 4,9,9,[.bl false,.bl false,.bl false,.bl false,.bl false,.bl false,.bl false,.bl false,.bl false]⟩,
 ⟨.scalar,0,0,[]⟩,
 ⟨.scalar,0,0,[]⟩,
 ⟨.scalar,0,0,[]⟩,
 ⟨.scalar,0,0,[]⟩,
 ⟨.scalar,0,0,[]⟩,
 ⟨.scalar,0,0,[]⟩,
 ⟨.scalar,0,0,[]⟩,
 ⟨.scalar,0,0,[]⟩,
 ⟨.scalar,0,0,[]⟩,
 ⟨.scalar,0,0,[]⟩,
 ⟨.scalar,0,0,[]⟩,
 ⟨.scalar,0,0,[]⟩,
 ⟨.scalar,0,0,[]⟩,
 ⟨.scalar,1,8,[.v (.pointer none)]⟩,
 ⟨.struct [0,2,3,4],5,112,[.v (.string ⟨#[]⟩),.nl,.nl,.nl,.nl]⟩,
 ⟨.struct [0,2,3,4],5,112,[.v (.string ⟨#[]⟩),.nl,.nl,.nl,.nl]⟩,
 ⟨.scalar,0,0,[]⟩,
 ⟨.slice 70,1,24,[.nl]⟩,
 ⟨.scalar,0,0,[]⟩,
 ⟨.scalar,0,0,[]⟩,
 ⟨.scalar,0,0,[]⟩,
 ⟨.scalar,0,0,[]⟩,
 ⟨.scalar,0,0,[]⟩,
 ⟨.scalar,0,0,[]⟩,
 ⟨.scalar,0,0,[]⟩,
 ⟨.int .u64,1,8,[(.v (.int .u64 0))]⟩,
 ⟨.scalar,0,0,[]⟩,
 ⟨.scalar,0,0,[]⟩,
 ⟨.int .u64,1,8,[(.v (.int .u64 0))]⟩,
 ⟨.scalar,0,0,[]⟩,
 ⟨.slice 5,1,24,[.nl]⟩,
 ⟨.scalar,0,0,[]⟩,
 ⟨.scalar,0,0,[]⟩,
 ⟨.scalar,0,0,[]⟩,
 ⟨.scalar,0,0,[]⟩,
 ⟨.scalar,0,0,[]⟩,
 ⟨.scalar,0,0,[]⟩,
 ⟨.scalar,0,0,[]⟩,
 ⟨.scalar,0,0,[]⟩,
 ⟨.struct [0,1],2,32,[.v (.string ⟨#[]⟩),.v (.string ⟨#[]⟩)]⟩,
 ⟨.struct [0,1],2,32,[.v (.string ⟨#[]⟩),.v (.string ⟨#[]⟩)]⟩,
 ⟨.scalar,0,0,[]⟩,
 ⟨.map 3 4,1,8,[.v (.map none)]⟩,
 ⟨.scalar,0,0,[]⟩,
 ⟨.struct [0,1,2,3],4,40,[.v (.pointer none),.v (.pointer none),.v (.pointer none),.v (.string ⟨#[]⟩)]⟩,
 ⟨.struct [0,1,2,3],4,40,[.v (.pointer none),.v (.pointer none),.v (.pointer none),.v (.string ⟨#[]⟩)]⟩,
 ⟨.scalar,0,0,[]⟩,
 ⟨.scalar,0,0,[]⟩,
 ⟨.scalar,0,0,[]⟩,
 ⟨.scalar,0,0,[]⟩,
 ⟨.int .u32,1,4,[(.v (.int .u32 0))]⟩,
 ⟨.int .u8,1,1,[(.v (.int .u8 0))]⟩,
 ⟨.int .u8,1,1,[(.v (.int .u8 0))]⟩,
 ⟨.scalar,0,0,[]⟩,
 ⟨.scalar,1,8,[.v (.pointer none)]⟩,
 ⟨.int .i32,1,4,[(.v (.int .i32 0))]⟩,
 ⟨.int .i32,1,4,[(.v (.int .i32 0))]⟩,
 ⟨.struct [0,1,2,3,4,5,6,7,8,9,10],11,48,[(.v (.int .u64 0)),(.v (.int .u64 0)),(.v (.int .u32 0)),(.v (.int .u8 0)),(.v (.int .u8 0)),(.v (.int .u8 0)),(.v (.int .u8 0)),.v .nilFunc,.v (.pointer none),(.v (.int .i32 0)),(.v (.int .i32 0))]⟩,
 ⟨.struct [0,1,2,3,4,5,6,7,8,9,10],11,48,[(.v (.int .u64 0)),(.v (.int .u64 0)),(.v (.int .u32 0)),(.v (.int .u8 0)),(.v (.int .u8 0)),(.v (.int .u8 0)),(.v (.int .u8 0)),.v .nilFunc,.v (.pointer none),(.v (.int .i32 0)),(.v (.int .i32 0))]⟩,
 ⟨.scalar,0,0,[]⟩]
theorem zwx:zj3 Proofs.Tryz.prog tabA tabA.length=true:=by kernel_rfl
theorem mix_ok:Proofs.Tryz.prog.follows .mixedOrders=true:=by kernel_rfl
namespace B
noncomputable abbrev law23_FireSteps:Func:=Proofs.Tryz.f3
noncomputable abbrev world_New:Func:=Proofs.Tryz.f5
noncomputable abbrev world_Tape_Store:Func:=Proofs.Tryz.f6
noncomputable abbrev world_Mod:Func:=Proofs.Tryz.f7
noncomputable abbrev world_Tape_Row:Func:=Proofs.Tryz.f8
noncomputable abbrev world_Schema:Func:=Proofs.Tryz.f9
noncomputable abbrev law23_note:Func:=Proofs.Tryz.f10
noncomputable abbrev world_Num:Func:=Proofs.Tryz.f11
noncomputable abbrev world_Lit:Func:=Proofs.Tryz.f12
noncomputable abbrev world_Bin:Func:=Proofs.Tryz.f13
noncomputable abbrev world_Col:Func:=Proofs.Tryz.f14
noncomputable abbrev fire_Item:Func:=Proofs.Tryz.f15
noncomputable abbrev ref1_Number:Func:=Proofs.Tryz.f16
noncomputable abbrev law23_known:Func:=Proofs.Tryz.f17
noncomputable abbrev world_Schemas:Func:=Proofs.Tryz.f20
noncomputable abbrev world_Tape_TableOf:Func:=Proofs.Tryz.f21
noncomputable abbrev world_Tape_Typed:Func:=Proofs.Tryz.f22
noncomputable abbrev world_Tape_Bool:Func:=Proofs.Tryz.f23
noncomputable abbrev world_Tape_Small:Func:=Proofs.Tryz.f24
noncomputable abbrev slices_IndexFunc_Trigger:Func:=Proofs.Tryz.f25
noncomputable abbrev fire_Item_c1:Func:=Proofs.Tryz.f26
noncomputable abbrev scope_Source:Func:=Proofs.Tryz.f27
noncomputable abbrev event_Find:Func:=Proofs.Tryz.f28
noncomputable abbrev trigger_Frames:Func:=Proofs.Tryz.f29
noncomputable abbrev trigger_Transitions:Func:=Proofs.Tryz.f30
noncomputable abbrev trigger_Matching:Func:=Proofs.Tryz.f31
noncomputable abbrev evaluate_True:Func:=Proofs.Tryz.f32
noncomputable abbrev slices_Concat_Table:Func:=Proofs.Tryz.f33
noncomputable abbrev deep_Tables:Func:=Proofs.Tryz.f34
noncomputable abbrev slices_Clone_int:Func:=Proofs.Tryz.f35
noncomputable abbrev statement_Run:Func:=Proofs.Tryz.f36
noncomputable abbrev world_Tape_Next:Func:=Proofs.Tryz.f39
noncomputable abbrev world_Tape_Number:Func:=Proofs.Tryz.f40
noncomputable abbrev world_Tape_Word:Func:=Proofs.Tryz.f41
noncomputable abbrev slices_IndexFunc_Table:Func:=Proofs.Tryz.f42
noncomputable abbrev scope_Source_c1:Func:=Proofs.Tryz.f43
noncomputable abbrev slices_Clone_Column:Func:=Proofs.Tryz.f44
noncomputable abbrev slices_IndexFunc_Delta:Func:=Proofs.Tryz.f45
noncomputable abbrev event_Find_c1:Func:=Proofs.Tryz.f46
noncomputable abbrev slices_Clone_Value:Func:=Proofs.Tryz.f47
noncomputable abbrev deep_Rows:Func:=Proofs.Tryz.f48
noncomputable abbrev trigger_transition:Func:=Proofs.Tryz.f50
noncomputable abbrev evaluate_Value:Func:=Proofs.Tryz.f53
noncomputable abbrev logic_Valid:Func:=Proofs.Tryz.f54
noncomputable abbrev logic_IsTrue:Func:=Proofs.Tryz.f55
noncomputable abbrev slices_Grow_Table:Func:=Proofs.Tryz.f56
noncomputable abbrev deep_list_api_Table:Func:=Proofs.Tryz.f57
noncomputable abbrev deep_Table:Func:=Proofs.Tryz.f58
noncomputable abbrev store_Find:Func:=Proofs.Tryz.f59
noncomputable abbrev dml_Candidates:Func:=Proofs.Tryz.f60
noncomputable abbrev dml_Assigned:Func:=Proofs.Tryz.f61
noncomputable abbrev before_Statement:Func:=Proofs.Tryz.f62
noncomputable abbrev before_Applicable:Func:=Proofs.Tryz.f63
noncomputable abbrev statement_run_rows:Func:=Proofs.Tryz.f64
noncomputable abbrev keys_Apply:Func:=Proofs.Tryz.f65
noncomputable abbrev deep_list_api_Row:Func:=Proofs.Tryz.f69
noncomputable abbrev deep_Row:Func:=Proofs.Tryz.f70
noncomputable abbrev slices_ContainsFunc_string:Func:=Proofs.Tryz.f72
noncomputable abbrev schema_Find:Func:=Proofs.Tryz.f74
noncomputable abbrev scope_Formed:Func:=Proofs.Tryz.f75
noncomputable abbrev scope_Resolve:Func:=Proofs.Tryz.f76
noncomputable abbrev evaluate_aggregate:Func:=Proofs.Tryz.f77
noncomputable abbrev evaluate_operation:Func:=Proofs.Tryz.f78
noncomputable abbrev value_Valid:Func:=Proofs.Tryz.f79
noncomputable abbrev value_Truth:Func:=Proofs.Tryz.f80
noncomputable abbrev deep_Schema:Func:=Proofs.Tryz.f81
noncomputable abbrev store_Find_c1:Func:=Proofs.Tryz.f82
noncomputable abbrev dml_target:Func:=Proofs.Tryz.f83
noncomputable abbrev dml_inserted:Func:=Proofs.Tryz.f84
noncomputable abbrev dml_Candidates_c1:Func:=Proofs.Tryz.f85
noncomputable abbrev dml_inside:Func:=Proofs.Tryz.f86
noncomputable abbrev dml_assigned:Func:=Proofs.Tryz.f87
noncomputable abbrev before_Applicable_c1:Func:=Proofs.Tryz.f88
noncomputable abbrev slices_Contains_string:Func:=Proofs.Tryz.f89
noncomputable abbrev deep_Trigger:Func:=Proofs.Tryz.f90
noncomputable abbrev slices_Contains_int:Func:=Proofs.Tryz.f91
noncomputable abbrev statement_run_row:Func:=Proofs.Tryz.f92
noncomputable abbrev keys_Valid:Func:=Proofs.Tryz.f93
noncomputable abbrev keys_fits:Func:=Proofs.Tryz.f94
noncomputable abbrev table_Duplicate:Func:=Proofs.Tryz.f95
noncomputable abbrev slices_Equal_Value:Func:=Proofs.Tryz.f97
noncomputable abbrev slices_IndexFunc_string:Func:=Proofs.Tryz.f98
noncomputable abbrev slices_IndexFunc_Column:Func:=Proofs.Tryz.f99
noncomputable abbrev schema_Find_c1:Func:=Proofs.Tryz.f100
noncomputable abbrev evaluate_selected:Func:=Proofs.Tryz.f101
noncomputable abbrev evaluate_aggregate_c1:Func:=Proofs.Tryz.f102
noncomputable abbrev evaluate_isNull:Func:=Proofs.Tryz.f103
noncomputable abbrev value_Number:Func:=Proofs.Tryz.f104
noncomputable abbrev evaluate_sum:Func:=Proofs.Tryz.f105
noncomputable abbrev slices_MinFunc_Value:Func:=Proofs.Tryz.f106
noncomputable abbrev value_Compare:Func:=Proofs.Tryz.f107
noncomputable abbrev slices_MaxFunc_Value:Func:=Proofs.Tryz.f108
noncomputable abbrev evaluate_truth:Func:=Proofs.Tryz.f109
noncomputable abbrev logic_Not:Func:=Proofs.Tryz.f110
noncomputable abbrev evaluate_between:Func:=Proofs.Tryz.f111
noncomputable abbrev evaluate_arithmetic:Func:=Proofs.Tryz.f112
noncomputable abbrev logic_And:Func:=Proofs.Tryz.f113
noncomputable abbrev logic_Or:Func:=Proofs.Tryz.f114
noncomputable abbrev evaluate_comparison:Func:=Proofs.Tryz.f115
noncomputable abbrev value_plain:Func:=Proofs.Tryz.f116
noncomputable abbrev syntax_ValidAction:Func:=Proofs.Tryz.f117
noncomputable abbrev slices_ContainsFunc_Value:Func:=Proofs.Tryz.f119
noncomputable abbrev slices_Clone_Frame:Func:=Proofs.Tryz.f121
noncomputable abbrev slices_Index_string:Func:=Proofs.Tryz.f122
noncomputable abbrev slices_Clone_string:Func:=Proofs.Tryz.f123
noncomputable abbrev slices_Clone_Rank:Func:=Proofs.Tryz.f124
noncomputable abbrev deep_Exprs:Func:=Proofs.Tryz.f125
noncomputable abbrev deep_list_api_Action:Func:=Proofs.Tryz.f126
noncomputable abbrev deep_Action:Func:=Proofs.Tryz.f127
noncomputable abbrev slices_Index_int:Func:=Proofs.Tryz.f128
noncomputable abbrev before_Row:Func:=Proofs.Tryz.f129
noncomputable abbrev table_Valid:Func:=Proofs.Tryz.f130
noncomputable abbrev keys_rows:Func:=Proofs.Tryz.f131
noncomputable abbrev table_Get:Func:=Proofs.Tryz.f132
noncomputable abbrev keys_Valid_c1:Func:=Proofs.Tryz.f133
noncomputable abbrev tuple_Fits:Func:=Proofs.Tryz.f134
noncomputable abbrev schema_KeyColumn:Func:=Proofs.Tryz.f135
noncomputable abbrev evaluate_find:Func:=Proofs.Tryz.f136
noncomputable abbrev evaluate_inside:Func:=Proofs.Tryz.f137
noncomputable abbrev arith_Sum:Func:=Proofs.Tryz.f138
noncomputable abbrev cmp_Or_int:Func:=Proofs.Tryz.f139
noncomputable abbrev cmp_Compare_int:Func:=Proofs.Tryz.f140
noncomputable abbrev cmp_Compare_int64:Func:=Proofs.Tryz.f141
noncomputable abbrev cmp_Compare_string:Func:=Proofs.Tryz.f142
noncomputable abbrev arith_Add:Func:=Proofs.Tryz.f143
noncomputable abbrev arith_Subtract:Func:=Proofs.Tryz.f144
noncomputable abbrev arith_Multiply:Func:=Proofs.Tryz.f145
noncomputable abbrev arith_Divide:Func:=Proofs.Tryz.f146
noncomputable abbrev arith_Modulo:Func:=Proofs.Tryz.f147
noncomputable abbrev logic_and:Func:=Proofs.Tryz.f148
noncomputable abbrev schema_ValidName:Func:=Proofs.Tryz.f149
noncomputable abbrev syntax_validRows:Func:=Proofs.Tryz.f150
noncomputable abbrev syntax_ValidQuery:Func:=Proofs.Tryz.f151
noncomputable abbrev syntax_validSets:Func:=Proofs.Tryz.f152
noncomputable abbrev syntax_condition:Func:=Proofs.Tryz.f153
noncomputable abbrev slices_IndexFunc_Value:Func:=Proofs.Tryz.f156
noncomputable abbrev deep_list_api_Expr:Func:=Proofs.Tryz.f157
noncomputable abbrev deep_Expr:Func:=Proofs.Tryz.f158
noncomputable abbrev deep_list_Lapi_Expr:Func:=Proofs.Tryz.f159
noncomputable abbrev deep_list_api_Query:Func:=Proofs.Tryz.f160
noncomputable abbrev deep_Query:Func:=Proofs.Tryz.f161
noncomputable abbrev deep_list_api_Set:Func:=Proofs.Tryz.f162
noncomputable abbrev deep_set:Func:=Proofs.Tryz.f163
noncomputable abbrev slices_Clone_Trigger:Func:=Proofs.Tryz.f164
noncomputable abbrev pick_Eligible:Func:=Proofs.Tryz.f165
noncomputable abbrev pick_Choose:Func:=Proofs.Tryz.f166
noncomputable abbrev before_row_fire:Func:=Proofs.Tryz.f167
noncomputable abbrev slices_Delete_Trigger:Func:=Proofs.Tryz.f168
noncomputable abbrev schema_Valid:Func:=Proofs.Tryz.f169
noncomputable abbrev schema_Fits:Func:=Proofs.Tryz.f170
noncomputable abbrev schema_KeyColumn_c1:Func:=Proofs.Tryz.f171
noncomputable abbrev evaluate_find_c1:Func:=Proofs.Tryz.f172
noncomputable abbrev math_bits_Add64:Func:=Proofs.Tryz.f173
noncomputable abbrev cmp_isNaN_int:Func:=Proofs.Tryz.f174
noncomputable abbrev cmp_isNaN_int64:Func:=Proofs.Tryz.f175
noncomputable abbrev cmp_isNaN_string:Func:=Proofs.Tryz.f176
noncomputable abbrev slices_ContainsFunc_Expr:Func:=Proofs.Tryz.f177
noncomputable abbrev syntax_validRows_c1:Func:=Proofs.Tryz.f178
noncomputable abbrev syntax_validExprs:Func:=Proofs.Tryz.f179
noncomputable abbrev syntax_source:Func:=Proofs.Tryz.f180
noncomputable abbrev syntax_ValidExpr:Func:=Proofs.Tryz.f181
noncomputable abbrev syntax_names:Func:=Proofs.Tryz.f182
noncomputable abbrev order_Precedes:Func:=Proofs.Tryz.f183
noncomputable abbrev before_row_set:Func:=Proofs.Tryz.f184
noncomputable abbrev slices_IndexFunc_Expr:Func:=Proofs.Tryz.f185
noncomputable abbrev slices_ContainsFunc_Expr_175:Func:=Proofs.Tryz.f186
noncomputable abbrev syntax_validExprs_c1:Func:=Proofs.Tryz.f187
noncomputable abbrev syntax_bare:Func:=Proofs.Tryz.f188
noncomputable abbrev syntax_column:Func:=Proofs.Tryz.f189
noncomputable abbrev syntax_inner:Func:=Proofs.Tryz.f190
noncomputable abbrev syntax_arguments:Func:=Proofs.Tryz.f191
noncomputable abbrev slices_Contains_Link:Func:=Proofs.Tryz.f192
noncomputable abbrev slices_IndexFunc_Expr_199:Func:=Proofs.Tryz.f193
noncomputable abbrev slices_Index_Link:Func:=Proofs.Tryz.f194
end B
namespace At
theorem law23_FireSteps:Proofs.Tryz.prog.funcs[S.law23_FireSteps]?=some B.law23_FireSteps:=Proofs.Tryz.func3
theorem world_New:Proofs.Tryz.prog.funcs[S.world_New]?=some B.world_New:=Proofs.Tryz.func5
theorem world_Tape_Store:Proofs.Tryz.prog.funcs[S.world_Tape_Store]?=some B.world_Tape_Store:=Proofs.Tryz.func6
theorem world_Mod:Proofs.Tryz.prog.funcs[S.world_Mod]?=some B.world_Mod:=Proofs.Tryz.func7
theorem world_Tape_Row:Proofs.Tryz.prog.funcs[S.world_Tape_Row]?=some B.world_Tape_Row:=Proofs.Tryz.func8
theorem world_Schema:Proofs.Tryz.prog.funcs[S.world_Schema]?=some B.world_Schema:=Proofs.Tryz.func9
theorem law23_note:Proofs.Tryz.prog.funcs[S.law23_note]?=some B.law23_note:=Proofs.Tryz.func10
theorem world_Num:Proofs.Tryz.prog.funcs[S.world_Num]?=some B.world_Num:=Proofs.Tryz.func11
theorem world_Lit:Proofs.Tryz.prog.funcs[S.world_Lit]?=some B.world_Lit:=Proofs.Tryz.func12
theorem world_Bin:Proofs.Tryz.prog.funcs[S.world_Bin]?=some B.world_Bin:=Proofs.Tryz.func13
theorem world_Col:Proofs.Tryz.prog.funcs[S.world_Col]?=some B.world_Col:=Proofs.Tryz.func14
theorem fire_Item:Proofs.Tryz.prog.funcs[S.fire_Item]?=some B.fire_Item:=Proofs.Tryz.func15
theorem ref1_Number:Proofs.Tryz.prog.funcs[S.ref1_Number]?=some B.ref1_Number:=Proofs.Tryz.func16
theorem law23_known:Proofs.Tryz.prog.funcs[S.law23_known]?=some B.law23_known:=Proofs.Tryz.func17
theorem world_Schemas:Proofs.Tryz.prog.funcs[S.world_Schemas]?=some B.world_Schemas:=Proofs.Tryz.func20
theorem world_Tape_TableOf:Proofs.Tryz.prog.funcs[S.world_Tape_TableOf]?=some B.world_Tape_TableOf:=Proofs.Tryz.func21
theorem world_Tape_Typed:Proofs.Tryz.prog.funcs[S.world_Tape_Typed]?=some B.world_Tape_Typed:=Proofs.Tryz.func22
theorem world_Tape_Bool:Proofs.Tryz.prog.funcs[S.world_Tape_Bool]?=some B.world_Tape_Bool:=Proofs.Tryz.func23
theorem world_Tape_Small:Proofs.Tryz.prog.funcs[S.world_Tape_Small]?=some B.world_Tape_Small:=Proofs.Tryz.func24
theorem slices_IndexFunc_Trigger:Proofs.Tryz.prog.funcs[S.slices_IndexFunc_Trigger]?=some B.slices_IndexFunc_Trigger:=Proofs.Tryz.func25
theorem fire_Item_c1:Proofs.Tryz.prog.funcs[S.fire_Item_c1]?=some B.fire_Item_c1:=Proofs.Tryz.func26
theorem scope_Source:Proofs.Tryz.prog.funcs[S.scope_Source]?=some B.scope_Source:=Proofs.Tryz.func27
theorem event_Find:Proofs.Tryz.prog.funcs[S.event_Find]?=some B.event_Find:=Proofs.Tryz.func28
theorem trigger_Frames:Proofs.Tryz.prog.funcs[S.trigger_Frames]?=some B.trigger_Frames:=Proofs.Tryz.func29
theorem trigger_Transitions:Proofs.Tryz.prog.funcs[S.trigger_Transitions]?=some B.trigger_Transitions:=Proofs.Tryz.func30
theorem trigger_Matching:Proofs.Tryz.prog.funcs[S.trigger_Matching]?=some B.trigger_Matching:=Proofs.Tryz.func31
theorem evaluate_True:Proofs.Tryz.prog.funcs[S.evaluate_True]?=some B.evaluate_True:=Proofs.Tryz.func32
theorem slices_Concat_Table:Proofs.Tryz.prog.funcs[S.slices_Concat_Table]?=some B.slices_Concat_Table:=Proofs.Tryz.func33
theorem deep_Tables:Proofs.Tryz.prog.funcs[S.deep_Tables]?=some B.deep_Tables:=Proofs.Tryz.func34
theorem slices_Clone_int:Proofs.Tryz.prog.funcs[S.slices_Clone_int]?=some B.slices_Clone_int:=Proofs.Tryz.func35
theorem statement_Run:Proofs.Tryz.prog.funcs[S.statement_Run]?=some B.statement_Run:=Proofs.Tryz.func36
theorem world_Tape_Next:Proofs.Tryz.prog.funcs[S.world_Tape_Next]?=some B.world_Tape_Next:=Proofs.Tryz.func39
theorem world_Tape_Number:Proofs.Tryz.prog.funcs[S.world_Tape_Number]?=some B.world_Tape_Number:=Proofs.Tryz.func40
theorem world_Tape_Word:Proofs.Tryz.prog.funcs[S.world_Tape_Word]?=some B.world_Tape_Word:=Proofs.Tryz.func41
theorem slices_IndexFunc_Table:Proofs.Tryz.prog.funcs[S.slices_IndexFunc_Table]?=some B.slices_IndexFunc_Table:=Proofs.Tryz.func42
theorem scope_Source_c1:Proofs.Tryz.prog.funcs[S.scope_Source_c1]?=some B.scope_Source_c1:=Proofs.Tryz.func43
theorem slices_Clone_Column:Proofs.Tryz.prog.funcs[S.slices_Clone_Column]?=some B.slices_Clone_Column:=Proofs.Tryz.func44
theorem slices_IndexFunc_Delta:Proofs.Tryz.prog.funcs[S.slices_IndexFunc_Delta]?=some B.slices_IndexFunc_Delta:=Proofs.Tryz.func45
theorem event_Find_c1:Proofs.Tryz.prog.funcs[S.event_Find_c1]?=some B.event_Find_c1:=Proofs.Tryz.func46
theorem slices_Clone_Value:Proofs.Tryz.prog.funcs[S.slices_Clone_Value]?=some B.slices_Clone_Value:=Proofs.Tryz.func47
theorem deep_Rows:Proofs.Tryz.prog.funcs[S.deep_Rows]?=some B.deep_Rows:=Proofs.Tryz.func48
theorem trigger_transition:Proofs.Tryz.prog.funcs[S.trigger_transition]?=some B.trigger_transition:=Proofs.Tryz.func50
theorem evaluate_Value:Proofs.Tryz.prog.funcs[S.evaluate_Value]?=some B.evaluate_Value:=Proofs.Tryz.func53
theorem logic_Valid:Proofs.Tryz.prog.funcs[S.logic_Valid]?=some B.logic_Valid:=Proofs.Tryz.func54
theorem logic_IsTrue:Proofs.Tryz.prog.funcs[S.logic_IsTrue]?=some B.logic_IsTrue:=Proofs.Tryz.func55
theorem slices_Grow_Table:Proofs.Tryz.prog.funcs[S.slices_Grow_Table]?=some B.slices_Grow_Table:=Proofs.Tryz.func56
theorem deep_list_api_Table:Proofs.Tryz.prog.funcs[S.deep_list_api_Table]?=some B.deep_list_api_Table:=Proofs.Tryz.func57
theorem deep_Table:Proofs.Tryz.prog.funcs[S.deep_Table]?=some B.deep_Table:=Proofs.Tryz.func58
theorem store_Find:Proofs.Tryz.prog.funcs[S.store_Find]?=some B.store_Find:=Proofs.Tryz.func59
theorem dml_Candidates:Proofs.Tryz.prog.funcs[S.dml_Candidates]?=some B.dml_Candidates:=Proofs.Tryz.func60
theorem dml_Assigned:Proofs.Tryz.prog.funcs[S.dml_Assigned]?=some B.dml_Assigned:=Proofs.Tryz.func61
theorem before_Statement:Proofs.Tryz.prog.funcs[S.before_Statement]?=some B.before_Statement:=Proofs.Tryz.func62
theorem before_Applicable:Proofs.Tryz.prog.funcs[S.before_Applicable]?=some B.before_Applicable:=Proofs.Tryz.func63
theorem statement_run_rows:Proofs.Tryz.prog.funcs[S.statement_run_rows]?=some B.statement_run_rows:=Proofs.Tryz.func64
theorem keys_Apply:Proofs.Tryz.prog.funcs[S.keys_Apply]?=some B.keys_Apply:=Proofs.Tryz.func65
theorem deep_list_api_Row:Proofs.Tryz.prog.funcs[S.deep_list_api_Row]?=some B.deep_list_api_Row:=Proofs.Tryz.func69
theorem deep_Row:Proofs.Tryz.prog.funcs[S.deep_Row]?=some B.deep_Row:=Proofs.Tryz.func70
theorem slices_ContainsFunc_string:Proofs.Tryz.prog.funcs[S.slices_ContainsFunc_string]?=some B.slices_ContainsFunc_string:=Proofs.Tryz.func72
theorem schema_Find:Proofs.Tryz.prog.funcs[S.schema_Find]?=some B.schema_Find:=Proofs.Tryz.func74
theorem scope_Formed:Proofs.Tryz.prog.funcs[S.scope_Formed]?=some B.scope_Formed:=Proofs.Tryz.func75
theorem scope_Resolve:Proofs.Tryz.prog.funcs[S.scope_Resolve]?=some B.scope_Resolve:=Proofs.Tryz.func76
theorem evaluate_aggregate:Proofs.Tryz.prog.funcs[S.evaluate_aggregate]?=some B.evaluate_aggregate:=Proofs.Tryz.func77
theorem evaluate_operation:Proofs.Tryz.prog.funcs[S.evaluate_operation]?=some B.evaluate_operation:=Proofs.Tryz.func78
theorem value_Valid:Proofs.Tryz.prog.funcs[S.value_Valid]?=some B.value_Valid:=Proofs.Tryz.func79
theorem value_Truth:Proofs.Tryz.prog.funcs[S.value_Truth]?=some B.value_Truth:=Proofs.Tryz.func80
theorem deep_Schema:Proofs.Tryz.prog.funcs[S.deep_Schema]?=some B.deep_Schema:=Proofs.Tryz.func81
theorem store_Find_c1:Proofs.Tryz.prog.funcs[S.store_Find_c1]?=some B.store_Find_c1:=Proofs.Tryz.func82
theorem dml_target:Proofs.Tryz.prog.funcs[S.dml_target]?=some B.dml_target:=Proofs.Tryz.func83
theorem dml_inserted:Proofs.Tryz.prog.funcs[S.dml_inserted]?=some B.dml_inserted:=Proofs.Tryz.func84
theorem dml_Candidates_c1:Proofs.Tryz.prog.funcs[S.dml_Candidates_c1]?=some B.dml_Candidates_c1:=Proofs.Tryz.func85
theorem dml_inside:Proofs.Tryz.prog.funcs[S.dml_inside]?=some B.dml_inside:=Proofs.Tryz.func86
theorem dml_assigned:Proofs.Tryz.prog.funcs[S.dml_assigned]?=some B.dml_assigned:=Proofs.Tryz.func87
theorem before_Applicable_c1:Proofs.Tryz.prog.funcs[S.before_Applicable_c1]?=some B.before_Applicable_c1:=Proofs.Tryz.func88
theorem slices_Contains_string:Proofs.Tryz.prog.funcs[S.slices_Contains_string]?=some B.slices_Contains_string:=Proofs.Tryz.func89
theorem deep_Trigger:Proofs.Tryz.prog.funcs[S.deep_Trigger]?=some B.deep_Trigger:=Proofs.Tryz.func90
theorem slices_Contains_int:Proofs.Tryz.prog.funcs[S.slices_Contains_int]?=some B.slices_Contains_int:=Proofs.Tryz.func91
theorem statement_run_row:Proofs.Tryz.prog.funcs[S.statement_run_row]?=some B.statement_run_row:=Proofs.Tryz.func92
theorem keys_Valid:Proofs.Tryz.prog.funcs[S.keys_Valid]?=some B.keys_Valid:=Proofs.Tryz.func93
theorem keys_fits:Proofs.Tryz.prog.funcs[S.keys_fits]?=some B.keys_fits:=Proofs.Tryz.func94
theorem table_Duplicate:Proofs.Tryz.prog.funcs[S.table_Duplicate]?=some B.table_Duplicate:=Proofs.Tryz.func95
theorem slices_Equal_Value:Proofs.Tryz.prog.funcs[S.slices_Equal_Value]?=some B.slices_Equal_Value:=Proofs.Tryz.func97
theorem slices_IndexFunc_string:Proofs.Tryz.prog.funcs[S.slices_IndexFunc_string]?=some B.slices_IndexFunc_string:=Proofs.Tryz.func98
theorem slices_IndexFunc_Column:Proofs.Tryz.prog.funcs[S.slices_IndexFunc_Column]?=some B.slices_IndexFunc_Column:=Proofs.Tryz.func99
theorem schema_Find_c1:Proofs.Tryz.prog.funcs[S.schema_Find_c1]?=some B.schema_Find_c1:=Proofs.Tryz.func100
theorem evaluate_selected:Proofs.Tryz.prog.funcs[S.evaluate_selected]?=some B.evaluate_selected:=Proofs.Tryz.func101
theorem evaluate_aggregate_c1:Proofs.Tryz.prog.funcs[S.evaluate_aggregate_c1]?=some B.evaluate_aggregate_c1:=Proofs.Tryz.func102
theorem evaluate_isNull:Proofs.Tryz.prog.funcs[S.evaluate_isNull]?=some B.evaluate_isNull:=Proofs.Tryz.func103
theorem value_Number:Proofs.Tryz.prog.funcs[S.value_Number]?=some B.value_Number:=Proofs.Tryz.func104
theorem evaluate_sum:Proofs.Tryz.prog.funcs[S.evaluate_sum]?=some B.evaluate_sum:=Proofs.Tryz.func105
theorem slices_MinFunc_Value:Proofs.Tryz.prog.funcs[S.slices_MinFunc_Value]?=some B.slices_MinFunc_Value:=Proofs.Tryz.func106
theorem value_Compare:Proofs.Tryz.prog.funcs[S.value_Compare]?=some B.value_Compare:=Proofs.Tryz.func107
theorem slices_MaxFunc_Value:Proofs.Tryz.prog.funcs[S.slices_MaxFunc_Value]?=some B.slices_MaxFunc_Value:=Proofs.Tryz.func108
theorem evaluate_truth:Proofs.Tryz.prog.funcs[S.evaluate_truth]?=some B.evaluate_truth:=Proofs.Tryz.func109
theorem logic_Not:Proofs.Tryz.prog.funcs[S.logic_Not]?=some B.logic_Not:=Proofs.Tryz.func110
theorem evaluate_between:Proofs.Tryz.prog.funcs[S.evaluate_between]?=some B.evaluate_between:=Proofs.Tryz.func111
theorem evaluate_arithmetic:Proofs.Tryz.prog.funcs[S.evaluate_arithmetic]?=some B.evaluate_arithmetic:=Proofs.Tryz.func112
theorem logic_And:Proofs.Tryz.prog.funcs[S.logic_And]?=some B.logic_And:=Proofs.Tryz.func113
theorem logic_Or:Proofs.Tryz.prog.funcs[S.logic_Or]?=some B.logic_Or:=Proofs.Tryz.func114
theorem evaluate_comparison:Proofs.Tryz.prog.funcs[S.evaluate_comparison]?=some B.evaluate_comparison:=Proofs.Tryz.func115
theorem value_plain:Proofs.Tryz.prog.funcs[S.value_plain]?=some B.value_plain:=Proofs.Tryz.func116
theorem syntax_ValidAction:Proofs.Tryz.prog.funcs[S.syntax_ValidAction]?=some B.syntax_ValidAction:=Proofs.Tryz.func117
theorem slices_ContainsFunc_Value:Proofs.Tryz.prog.funcs[S.slices_ContainsFunc_Value]?=some B.slices_ContainsFunc_Value:=Proofs.Tryz.func119
theorem slices_Clone_Frame:Proofs.Tryz.prog.funcs[S.slices_Clone_Frame]?=some B.slices_Clone_Frame:=Proofs.Tryz.func121
theorem slices_Index_string:Proofs.Tryz.prog.funcs[S.slices_Index_string]?=some B.slices_Index_string:=Proofs.Tryz.func122
theorem slices_Clone_string:Proofs.Tryz.prog.funcs[S.slices_Clone_string]?=some B.slices_Clone_string:=Proofs.Tryz.func123
theorem slices_Clone_Rank:Proofs.Tryz.prog.funcs[S.slices_Clone_Rank]?=some B.slices_Clone_Rank:=Proofs.Tryz.func124
theorem deep_Exprs:Proofs.Tryz.prog.funcs[S.deep_Exprs]?=some B.deep_Exprs:=Proofs.Tryz.func125
theorem deep_list_api_Action:Proofs.Tryz.prog.funcs[S.deep_list_api_Action]?=some B.deep_list_api_Action:=Proofs.Tryz.func126
theorem deep_Action:Proofs.Tryz.prog.funcs[S.deep_Action]?=some B.deep_Action:=Proofs.Tryz.func127
theorem slices_Index_int:Proofs.Tryz.prog.funcs[S.slices_Index_int]?=some B.slices_Index_int:=Proofs.Tryz.func128
theorem before_Row:Proofs.Tryz.prog.funcs[S.before_Row]?=some B.before_Row:=Proofs.Tryz.func129
theorem table_Valid:Proofs.Tryz.prog.funcs[S.table_Valid]?=some B.table_Valid:=Proofs.Tryz.func130
theorem keys_rows:Proofs.Tryz.prog.funcs[S.keys_rows]?=some B.keys_rows:=Proofs.Tryz.func131
theorem table_Get:Proofs.Tryz.prog.funcs[S.table_Get]?=some B.table_Get:=Proofs.Tryz.func132
theorem keys_Valid_c1:Proofs.Tryz.prog.funcs[S.keys_Valid_c1]?=some B.keys_Valid_c1:=Proofs.Tryz.func133
theorem tuple_Fits:Proofs.Tryz.prog.funcs[S.tuple_Fits]?=some B.tuple_Fits:=Proofs.Tryz.func134
theorem schema_KeyColumn:Proofs.Tryz.prog.funcs[S.schema_KeyColumn]?=some B.schema_KeyColumn:=Proofs.Tryz.func135
theorem evaluate_find:Proofs.Tryz.prog.funcs[S.evaluate_find]?=some B.evaluate_find:=Proofs.Tryz.func136
theorem evaluate_inside:Proofs.Tryz.prog.funcs[S.evaluate_inside]?=some B.evaluate_inside:=Proofs.Tryz.func137
theorem arith_Sum:Proofs.Tryz.prog.funcs[S.arith_Sum]?=some B.arith_Sum:=Proofs.Tryz.func138
theorem cmp_Or_int:Proofs.Tryz.prog.funcs[S.cmp_Or_int]?=some B.cmp_Or_int:=Proofs.Tryz.func139
theorem cmp_Compare_int:Proofs.Tryz.prog.funcs[S.cmp_Compare_int]?=some B.cmp_Compare_int:=Proofs.Tryz.func140
theorem cmp_Compare_int64:Proofs.Tryz.prog.funcs[S.cmp_Compare_int64]?=some B.cmp_Compare_int64:=Proofs.Tryz.func141
theorem cmp_Compare_string:Proofs.Tryz.prog.funcs[S.cmp_Compare_string]?=some B.cmp_Compare_string:=Proofs.Tryz.func142
theorem arith_Add:Proofs.Tryz.prog.funcs[S.arith_Add]?=some B.arith_Add:=Proofs.Tryz.func143
theorem arith_Subtract:Proofs.Tryz.prog.funcs[S.arith_Subtract]?=some B.arith_Subtract:=Proofs.Tryz.func144
theorem arith_Multiply:Proofs.Tryz.prog.funcs[S.arith_Multiply]?=some B.arith_Multiply:=Proofs.Tryz.func145
theorem arith_Divide:Proofs.Tryz.prog.funcs[S.arith_Divide]?=some B.arith_Divide:=Proofs.Tryz.func146
theorem arith_Modulo:Proofs.Tryz.prog.funcs[S.arith_Modulo]?=some B.arith_Modulo:=Proofs.Tryz.func147
theorem logic_and:Proofs.Tryz.prog.funcs[S.logic_and]?=some B.logic_and:=Proofs.Tryz.func148
theorem schema_ValidName:Proofs.Tryz.prog.funcs[S.schema_ValidName]?=some B.schema_ValidName:=Proofs.Tryz.func149
theorem syntax_validRows:Proofs.Tryz.prog.funcs[S.syntax_validRows]?=some B.syntax_validRows:=Proofs.Tryz.func150
theorem syntax_ValidQuery:Proofs.Tryz.prog.funcs[S.syntax_ValidQuery]?=some B.syntax_ValidQuery:=Proofs.Tryz.func151
theorem syntax_validSets:Proofs.Tryz.prog.funcs[S.syntax_validSets]?=some B.syntax_validSets:=Proofs.Tryz.func152
theorem syntax_condition:Proofs.Tryz.prog.funcs[S.syntax_condition]?=some B.syntax_condition:=Proofs.Tryz.func153
theorem slices_IndexFunc_Value:Proofs.Tryz.prog.funcs[S.slices_IndexFunc_Value]?=some B.slices_IndexFunc_Value:=Proofs.Tryz.func156
theorem deep_list_api_Expr:Proofs.Tryz.prog.funcs[S.deep_list_api_Expr]?=some B.deep_list_api_Expr:=Proofs.Tryz.func157
theorem deep_Expr:Proofs.Tryz.prog.funcs[S.deep_Expr]?=some B.deep_Expr:=Proofs.Tryz.func158
theorem deep_list_Lapi_Expr:Proofs.Tryz.prog.funcs[S.deep_list_Lapi_Expr]?=some B.deep_list_Lapi_Expr:=Proofs.Tryz.func159
theorem deep_list_api_Query:Proofs.Tryz.prog.funcs[S.deep_list_api_Query]?=some B.deep_list_api_Query:=Proofs.Tryz.func160
theorem deep_Query:Proofs.Tryz.prog.funcs[S.deep_Query]?=some B.deep_Query:=Proofs.Tryz.func161
theorem deep_list_api_Set:Proofs.Tryz.prog.funcs[S.deep_list_api_Set]?=some B.deep_list_api_Set:=Proofs.Tryz.func162
theorem deep_set:Proofs.Tryz.prog.funcs[S.deep_set]?=some B.deep_set:=Proofs.Tryz.func163
theorem slices_Clone_Trigger:Proofs.Tryz.prog.funcs[S.slices_Clone_Trigger]?=some B.slices_Clone_Trigger:=Proofs.Tryz.func164
theorem pick_Eligible:Proofs.Tryz.prog.funcs[S.pick_Eligible]?=some B.pick_Eligible:=Proofs.Tryz.func165
theorem pick_Choose:Proofs.Tryz.prog.funcs[S.pick_Choose]?=some B.pick_Choose:=Proofs.Tryz.func166
theorem before_row_fire:Proofs.Tryz.prog.funcs[S.before_row_fire]?=some B.before_row_fire:=Proofs.Tryz.func167
theorem slices_Delete_Trigger:Proofs.Tryz.prog.funcs[S.slices_Delete_Trigger]?=some B.slices_Delete_Trigger:=Proofs.Tryz.func168
theorem schema_Valid:Proofs.Tryz.prog.funcs[S.schema_Valid]?=some B.schema_Valid:=Proofs.Tryz.func169
theorem schema_Fits:Proofs.Tryz.prog.funcs[S.schema_Fits]?=some B.schema_Fits:=Proofs.Tryz.func170
theorem schema_KeyColumn_c1:Proofs.Tryz.prog.funcs[S.schema_KeyColumn_c1]?=some B.schema_KeyColumn_c1:=Proofs.Tryz.func171
theorem evaluate_find_c1:Proofs.Tryz.prog.funcs[S.evaluate_find_c1]?=some B.evaluate_find_c1:=Proofs.Tryz.func172
theorem math_bits_Add64:Proofs.Tryz.prog.funcs[S.math_bits_Add64]?=some B.math_bits_Add64:=Proofs.Tryz.func173
theorem cmp_isNaN_int:Proofs.Tryz.prog.funcs[S.cmp_isNaN_int]?=some B.cmp_isNaN_int:=Proofs.Tryz.func174
theorem cmp_isNaN_int64:Proofs.Tryz.prog.funcs[S.cmp_isNaN_int64]?=some B.cmp_isNaN_int64:=Proofs.Tryz.func175
theorem cmp_isNaN_string:Proofs.Tryz.prog.funcs[S.cmp_isNaN_string]?=some B.cmp_isNaN_string:=Proofs.Tryz.func176
theorem slices_ContainsFunc_Expr:Proofs.Tryz.prog.funcs[S.slices_ContainsFunc_Expr]?=some B.slices_ContainsFunc_Expr:=Proofs.Tryz.func177
theorem syntax_validRows_c1:Proofs.Tryz.prog.funcs[S.syntax_validRows_c1]?=some B.syntax_validRows_c1:=Proofs.Tryz.func178
theorem syntax_validExprs:Proofs.Tryz.prog.funcs[S.syntax_validExprs]?=some B.syntax_validExprs:=Proofs.Tryz.func179
theorem syntax_source:Proofs.Tryz.prog.funcs[S.syntax_source]?=some B.syntax_source:=Proofs.Tryz.func180
theorem syntax_ValidExpr:Proofs.Tryz.prog.funcs[S.syntax_ValidExpr]?=some B.syntax_ValidExpr:=Proofs.Tryz.func181
theorem syntax_names:Proofs.Tryz.prog.funcs[S.syntax_names]?=some B.syntax_names:=Proofs.Tryz.func182
theorem order_Precedes:Proofs.Tryz.prog.funcs[S.order_Precedes]?=some B.order_Precedes:=Proofs.Tryz.func183
theorem before_row_set:Proofs.Tryz.prog.funcs[S.before_row_set]?=some B.before_row_set:=Proofs.Tryz.func184
theorem slices_IndexFunc_Expr:Proofs.Tryz.prog.funcs[S.slices_IndexFunc_Expr]?=some B.slices_IndexFunc_Expr:=Proofs.Tryz.func185
theorem slices_ContainsFunc_Expr_175:Proofs.Tryz.prog.funcs[S.slices_ContainsFunc_Expr_175]?=some B.slices_ContainsFunc_Expr_175:=Proofs.Tryz.func186
theorem syntax_validExprs_c1:Proofs.Tryz.prog.funcs[S.syntax_validExprs_c1]?=some B.syntax_validExprs_c1:=Proofs.Tryz.func187
theorem syntax_bare:Proofs.Tryz.prog.funcs[S.syntax_bare]?=some B.syntax_bare:=Proofs.Tryz.func188
theorem syntax_column:Proofs.Tryz.prog.funcs[S.syntax_column]?=some B.syntax_column:=Proofs.Tryz.func189
theorem syntax_inner:Proofs.Tryz.prog.funcs[S.syntax_inner]?=some B.syntax_inner:=Proofs.Tryz.func190
theorem syntax_arguments:Proofs.Tryz.prog.funcs[S.syntax_arguments]?=some B.syntax_arguments:=Proofs.Tryz.func191
theorem slices_Contains_Link:Proofs.Tryz.prog.funcs[S.slices_Contains_Link]?=some B.slices_Contains_Link:=Proofs.Tryz.func192
theorem slices_IndexFunc_Expr_199:Proofs.Tryz.prog.funcs[S.slices_IndexFunc_Expr_199]?=some B.slices_IndexFunc_Expr_199:=Proofs.Tryz.func193
theorem slices_Index_Link:Proofs.Tryz.prog.funcs[S.slices_Index_Link]?=some B.slices_Index_Link:=Proofs.Tryz.func194
end At
end Go.AM
namespace Go.AM
theorem Rel.nilRow {E:Env0} {h:Heap} {β:List Con} {S:Addr→Prop} {w:World} (r:Rel E h β S w) (e:TypeId) (a:Option Addr) :
  Ext h β S w (h++[Blk.row e [] false]) (β++[.nil a]) S w∧Rel E (h++[Blk.row e [] false]) (β++[.nil a]) S w :=
 r.newRow e [] false (.nil a) ⟨rfl,rfl,rfl,Nat.le_refl _,fun _ _=>rfl⟩ (fun g hg=>by cases hg) rfl
theorem zjj {T:TypeId→TI} {h:Heap} {β:List Con} {S:Addr→Prop} {w:World} {v:Value} (hv:RelV T h β w S .nl v):∃ a,v=.slice a 0 0:=by
 cases hv with
 | d _ _ hd=>cases hd
 | nl a=>exact ⟨a,rfl⟩
theorem Rel.ownNil {E:Env0} {h:Heap} {β:List Con} {S:Addr→Prop} {w:World} (r:Rel E h β S w) (e:TypeId) (a:Option Addr) :
  RelV E.T (h++[Blk.row e [] false]) (β++[.nil a]) w S (.own h.length 0) (.slice a 0 0) :=
 .own _ _ _ e [] false (getElem?_append_new _ _) (Nat.le_refl _) (fun _=>by rw [← r.len,getElem?_append_new];rfl) rfl
theorem zu8 {E:Env0} {fn:Func} {h0:Heap} {c:Cfg} {R:AV→Heap→Prop} (t:Nat) (e:TypeId) (hc:look c.ts t=.nl)
  (hg:Good E fn h0 ⟨c.n,c.todo,(t,.own c.h.length 0)::c.ts,c.h++[Blk.row e [] false]⟩ R):Good E fn h0 c R:=by
 intro β0 S0 w0 β S w tmps hb0 hn x0 r rt
 have ht:=rt t
 rw [hc] at ht
 obtain ⟨a,ha⟩:=zjj ht
 obtain ⟨x1,r1⟩:=r.nilRow e a
 refine hg β0 S0 w0 _ S w tmps hb0 hn (x0.trans x1) r1 fun t'=>?_
 simp only [look]
 cases hb:Nat.beq t t' with
 | true =>
  have:=Nat.eq_of_beq_eq_true hb
  subst this
  simp only
  rw [ha]
  exact r.ownNil e a
 | false=>exact (rt t').ext x1
theorem zcv {E:Env0} {fn:Func} {h0 H:Heap} {c:Cfg} {R:AV→Heap→Prop} (e:TypeId) (hg:Good E fn h0 c fun r h=>r=.nl∧h=H)
  (hR:R (.own H.length 0) (H++[Blk.row e [] false])):Good E fn h0 c R:=by
 intro β0 S0 w0 β S w tmps hb0 hn x0 r rt
 refine zc6 (zoL fun en w' hp=>?_) _ _ _ _ (hg β0 S0 w0 β S w tmps hb0 hn x0 r rt)
 obtain ⟨y,h',β',S',v,he,⟨rfl,rfl⟩,r',x',hv⟩:=hp
 obtain ⟨a,rfl⟩:=zjj hv
 obtain ⟨x1,r1⟩:=r'.nilRow e a
 exact ⟨_,_,_,S',_,he,hR,r1,x'.trans x1,r'.ownNil e a⟩
theorem zeO {h:Heap} {β:List Con} {S:Addr→Prop} {w:World} {b:Nat} {cs:List AV} (hb:h[b]?=some (.box cs)) (cs':List AV):Ext h β S w (h.set b (.box cs')) β S w :=
 { Ext.refl h β S w with
  box:=fun b' cs1 h1=>by
   by_cases hbb:b=b'
   ·subst hbb
    exact ⟨cs',by rw [List.getElem?_set_self (List.getElem?_eq_some_iff.1 hb).1]⟩
   ·exact ⟨cs1,by rw [List.getElem?_set_ne hbb];exact h1⟩
  row:=fun b' e xs sh h1=>by
   have hbb:b≠b':=fun e=>by subst e;rw [hb] at h1;cases h1
   exact ⟨xs,sh,by rw [List.getElem?_set_ne hbb];exact h1,Nat.le_refl _,fun _=>rfl⟩
  mp:=fun b' es h1=>by
   have hbb:b≠b':=fun e=>by subst e;rw [hb] at h1;cases h1
   exact ⟨es,by rw [List.getElem?_set_ne hbb];exact h1⟩ }
theorem Rel.setBox {E:Env0} {h:Heap} {β:List Con} {S:Addr→Prop} {w:World} (r:Rel E h β S w) {b:Nat} {cs:List AV} (hb:h[b]?=some (.box cs)) (cs':List AV)
  (hc:∀ (g:Nat) (vs:List Value) (t:TypeId),β[b]?=some (.box g)→w.heap[g]?=some (.cells vs.toArray t (0,0))→cs.length=vs.length→(∀ (i:Nat) (x:AV) (y:Value),cs[i]?=some x→vs[i]?=some y→RelV E.T h β w S x y∧y.oneCell'=true) →
   cs'.length=vs.length∧∀ (i:Nat) (x:AV) (y:Value),cs'[i]?=some x→vs[i]?=some y→RelV E.T h β w S x y∧y.oneCell'=true):Rel E (h.set b (.box cs')) β S w:=by
 have x:=zeO (β:=β) (S:=S) (w:=w) hb cs'
 have ne:∀ {b':Nat} {e:TypeId} {xs:List (List AV)} {sh:Bool},(h.set b (.box cs'))[b']?=some (.row e xs sh)→b≠b'∧h[b']?=some (.row e xs sh):=by
  intro b' e xs sh h1
  by_cases hbb:b=b'
  ·subst hbb
   rw [List.getElem?_set_self (List.getElem?_eq_some_iff.1 hb).1] at h1
   cases h1
  ·rw [List.getElem?_set_ne hbb] at h1
   exact ⟨hbb,h1⟩
 have nem:∀ {b':Nat} {es:List (AV × AV)},(h.set b (.box cs'))[b']?=some (.mp es)→h[b']?=some (.mp es):=by
  intro b' es h1
  by_cases hbb:b=b'
  ·subst hbb
   rw [List.getElem?_set_self (List.getElem?_eq_some_iff.1 hb).1] at h1
   cases h1
  ·rw [List.getElem?_set_ne hbb] at h1
   exact h1
 refine { r with len:=by simpa using r.len,box:=?_,row:=fun b' e xs sh h1=>r.row b' e xs sh (ne h1).2,mp:=fun b' es h1=>r.mp b' es (nem h1),free:=?_ }
 ·intro b' cs1 h1
  by_cases hbb:b=b'
  ·subst hbb
   rw [List.getElem?_set_self (List.getElem?_eq_some_iff.1 hb).1] at h1
   cases h1
   obtain ⟨g,vs,t,h2,h3,h4,h5⟩:=r.box b cs hb
   obtain ⟨h6,h7⟩:=hc g vs t h2 h3 h4 h5
   exact ⟨g,vs,t,h2,h3,h6,fun i y z hy hz=>⟨(h7 i y z hy hz).1.ext x,(h7 i y z hy hz).2⟩⟩
  ·rw [List.getElem?_set_ne hbb] at h1
   obtain ⟨g,vs,t,h2,h3,h4,h5⟩:=r.box b' cs1 h1
   exact ⟨g,vs,t,h2,h3,h4,fun i y z hy hz=>⟨(h5 i y z hy hz).1.ext x,(h5 i y z hy hz).2⟩⟩
 ·intro b' k g a h1 h2 h3 h4
  obtain ⟨e,xs,h5,h6⟩:=r.free b' k g a h1 h2 h3 h4
  have hbb:b≠b':=fun e=>by subst e;rw [hb] at h5;cases h5
  exact ⟨e,xs,by rw [List.getElem?_set_ne hbb];exact h5,h6⟩
theorem zqQ {E:Env0} {fn:Func} {h0:Heap} {c:Cfg} {R:AV→Heap→Prop} (b i:Nat) (e:TypeId) {cs:List AV} (hb:c.h[b]?=some (.box cs)) (hi:cs[i]?=some .nl)
  (hg:Good E fn h0 ⟨c.n,c.todo,c.ts,(c.h++[Blk.row e [] false]).set b (.box (cs.set i (.own c.h.length 0)))⟩ R):Good E fn h0 c R:=by
 intro β0 S0 w0 β S w tmps hb0 hn x0 r rt
 obtain ⟨g,vs,t,h2,h3,h4,h5⟩:=r.box b cs hb
 have hil:i < vs.length:=by rw [← h4];exact (List.getElem?_eq_some_iff.1 hi).1
 have hv:=h5 i .nl vs[i] hi (by simp [hil])
 obtain ⟨a,ha⟩:=zjj hv.1
 obtain ⟨x1,r1⟩:=r.nilRow e a
 have hb1:(c.h++[Blk.row e [] false])[b]?=some (.box cs):=by rw [List.getElem?_append_left (List.getElem?_eq_some_iff.1 hb).1];exact hb
 have x2:=zeO (β:=β++[.nil a]) (S:=S) (w:=w) hb1 (cs.set i (.own c.h.length 0))
 have r2:=r1.setBox hb1 (cs.set i (.own c.h.length 0)) (fun g' vs' t' e2 e3 e4 e5=>by
  refine ⟨by simpa using e4,fun j x y hx hy=>?_⟩
  by_cases hij:i=j
  ·subst hij
   rw [List.getElem?_set_self (List.getElem?_eq_some_iff.1 hi).1] at hx
   cases hx
   have:=e5 i .nl y hi hy
   refine ⟨?_,this.2⟩
   have hg:(β++[Con.nil a])[b]?=some (.box g):=x1.con b g h2
   rw [hg] at e2
   cases e2
   rw [h3] at e3
   have hvs:vs=vs':=by
    have e6:vs.toArray=vs'.toArray:=by injection e3 with e3;injection e3
    simpa using congrArg Array.toList e6
   subst hvs
   have:y=vs[i]:=by
    rw [List.getElem?_eq_getElem hil] at hy
    cases hy
    rfl
   rw [this,ha]
   exact r.ownNil e a
  ·rw [List.getElem?_set_ne hij] at hx
   exact e5 j x y hx hy)
 exact hg β0 S0 w0 _ S w tmps hb0 hn ((x0.trans x1).trans x2) r2 fun t'=>((rt t').ext x1).ext x2
theorem zbb {E:Env0} {fn:Func} {h0:Heap} {c c':Cfg} {R:AV→Heap→Prop} (t:Nat) (e:TypeId) (live:List Nat) (m:Nat) (hc:look c.ts t=.nl) (hm:Nat.ble h0.length m=true)
  (he:cut live m ⟨c.n,c.todo,(t,.own c.h.length 0)::c.ts,c.h++[Blk.row e [] false]⟩=c') (hg:Good E fn h0 c' R):Good E fn h0 c R :=
 zu8 t e hc (zdc live m (Nat.le_of_ble_eq_true hm) (he ▸ hg))
theorem zdN {E:Env0} {fn:Func} {h0:Heap} {c c':Cfg} {R:AV→Heap→Prop} (b i:Nat) (e:TypeId) (live:List Nat) (m:Nat) {cs:List AV} (hb:c.h[b]?=some (.box cs)) (hi:cs[i]?=some .nl) (hm:Nat.ble h0.length m=true)
  (he:cut live m ⟨c.n,c.todo,c.ts,(c.h++[Blk.row e [] false]).set b (.box (cs.set i (.own c.h.length 0)))⟩=c') (hg:Good E fn h0 c' R):Good E fn h0 c R :=
 zqQ b i e hb hi (zdc live m (Nat.le_of_ble_eq_true hm) (he ▸ hg))
theorem zsj {E:Env0} {fn:Func} {h0:Heap} {c c':Cfg} {R:AV→Heap→Prop} (t:Nat) (b:Bool) (live:List Nat) (m:Nat) (hc:look c.ts t=.bl b) (hm:Nat.ble h0.length m=true)
  (he:cut live m ⟨c.n,c.todo,(t,.v (.bool b))::c.ts,c.h⟩=c') (hg:Good E fn h0 c' R):Good E fn h0 c R:=by
 have hg':=zdc live m (Nat.le_of_ble_eq_true hm) (he ▸ hg)
 intro β0 S0 w0 β S w tmps hb0 hn x0 r rt
 refine hg' β0 S0 w0 β S w tmps hb0 hn x0 r fun t'=>?_
 simp only [look]
 cases hb:Nat.beq t t' with
 | true =>
  have:=Nat.eq_of_beq_eq_true hb
  subst this
  have ht:=rt t
  rw [hc] at ht
  rw [ht.bl_inv]
  exact zb7 _
 | false=>exact rt t'
theorem zlK {E:Env0} {fn:Func} {h0:Heap} {c c':Cfg} {R:AV→Heap→Prop} (t:Nat) {v:AV} {q:Prop} (live:List Nat) (m:Nat) (hc:look c.ts t=v) (hq:frzO c.h v=q) (ho:q) (hm:Nat.ble h0.length m=true)
  (he:cut live m ⟨c.n,c.todo,(t,frz c.h v)::c.ts,share c.h (frzM v)⟩=c') (hg:Good E fn h0 c' R):Good E fn h0 c R:=by
 have hg':=zdc live m (Nat.le_of_ble_eq_true hm) (he ▸ hg)
 intro β0 S0 w0 β S w tmps hb0 hn x0 r rt
 have hv:=rt t
 rw [hc] at hv
 obtain ⟨S',⟨x1,r1⟩,d1⟩:=zmW E v c.h β S w _ r hv (by rw [hq];exact ho)
 refine hg' β0 S0 w0 β S' w tmps hb0 hn (x0.trans x1) r1 fun t'=>?_
 simp only [look]
 cases hb:Nat.beq t t' with
 | true =>
  have:=Nat.eq_of_beq_eq_true hb
  subst this
  exact .d _ _ d1
 | false=>exact (rt t').ext x1
theorem zmK {E:Env0} {fn:Func} {h0:Heap} {c c':Cfg} {R:AV→Heap→Prop} (t b n:Nat) (live:List Nat) (m:Nat) (hc:look c.ts t=.own b n) (hm:Nat.ble h0.length m=true)
  (he:cut live m ⟨c.n,c.todo,(t,.os b n 0 n)::c.ts,c.h⟩=c') (hg:Good E fn h0 c' R):Good E fn h0 c R:=by
 have hg':=zdc live m (Nat.le_of_ble_eq_true hm) (he ▸ hg)
 intro β0 S0 w0 β S w tmps hb0 hn x0 r rt
 refine hg' β0 S0 w0 β S w tmps hb0 hn x0 r fun t'=>?_
 simp only [look]
 cases hb:Nat.beq t t' with
 | true =>
  have:=Nat.eq_of_beq_eq_true hb
  subst this
  have ht:=rt t
  rw [hc] at ht
  exact r.own_os ht
 | false=>exact rt t'
def zt2 (E:Env0) (c:Cfg):Option (Nat × List (List AV) × Bool):=match c.todo with
 | .ops all (o::_)::_=>match ziC all o c.ts&&zaH c.n o.dst,o.op with
  | true,.binOp op t x (.const (.slice none 0 0)) _=>match (E.T t).kind,ev E.G c.ts x,op with
   | .slice _,.own b n,.eql=>match c.h[b]? with
    | some (.row _ xs _)=>some (n,xs,true)
    | _=>none
   | .slice _,.own b n,.neq=>match c.h[b]? with
    | some (.row _ xs _)=>some (n,xs,false)
    | _=>none
   | _,_,_=>none
  | _,_=>none
 | _=>none
theorem zuN {E:Env0} (ht:zaC E) {fn:Func} {h0:Heap} {c:Cfg} {R:AV→Heap→Prop} {n:Nat} {xs:List (List AV)} {e:Bool} (hc:zt2 E c=some (n,xs,e)) (hnx:n=xs.length) (hg:∀ b:Bool,(xs≠[]→b=false)→Good E fn h0 (zbs c (b==e)) R):Good E fn h0 c R:=by
 intro β0 S0 w0 β S w tmps hb0 hn x0 r rt
 obtain ⟨nn,todo,ts,h⟩:=c
 simp only at hn x0 r rt ⊢
 unfold zt2 at hc
 simp only at hc
 split at hc
 ·rename_i all o rest k
  split at hc
  ·rename_i op t x ty hchk hop
   simp only [Bool.and_eq_true] at hchk
   obtain ⟨hgo,hd⟩:=hchk
   have hx:=zaL (ds:=[]) r rt x
   simp only [kont,Exit.then]
   have fin:∀ (el:TypeId) (b:Nat) (e':TypeId) (sh:Bool) (hk:(E.T t).kind=.slice el) (he:ev E.G ts x=.own b n) (hb:h[b]?=some (.row e' xs sh)) (hop2:op=if e then .eql else .neq),wpList E.P all.toArray (kont E.P k (bodyPost E.P fn (Post E h0 β0 S0 w0 R))) (o::rest) ⟨tmps,[]⟩ w:=by
    intro el b e' sh hk he hb hop2
    rw [he] at hx
    obtain ⟨ti,dd,z,tok⟩:=ht.at_ (zaw (by rw [hk];simp):E.T t≠_)
    obtain ⟨rfl,_⟩:=tok.slice_ hk
    refine wpList_step fun K hK=>?_
    rw [if_pos (zkv rt hgo)]
    generalize hev:Act.eval ⟨tmps,[]⟩ x=y at hx
    obtain ⟨A,len,cap,rfl,hA⟩:∃ A len cap,y=.slice A len cap∧(xs≠[]→A.isNone=false):=by
     cases hx with
     | d _ _ hd1=>cases hd1
     | own _ _ _ e2 xs2 sh2 hb2 _ hy _ =>
      rw [hb] at hb2
      cases hb2
      have hcur:=hy hnx
      obtain ⟨kk,k1,hrow⟩:=r.row b e' xs sh hb
      rw [k1] at hcur
      cases kk with
      | mp _=>exact hrow.elim
      | box _=>exact hrow.elim
      | nil a =>
       have hx0:xs=[]:=hrow
       simp only [Option.bind_some,Con.cur,Option.some.injEq] at hcur
       exact ⟨a,0,0,hcur.symm,fun hne=>absurd hx0 hne⟩
      | row gg cap =>
       simp only [Option.bind_some,Con.cur,Option.some.injEq] at hcur
       exact ⟨_,_,_,hcur.symm,fun _=>rfl⟩
    have hrun:(execOp (Act.eval ⟨tmps,[]⟩) o).run E.P w=.ok (.value (.bool (A.isNone==e))) w:=by
     have h1:=zjw E.P op t x (.const (.slice none 0 0)) A none len 0 cap 0 w
     have h2:=zfm (P:=E.P) w tok.und A len cap
     have hcst:Act.eval ⟨tmps,[]⟩ (.const (.slice none 0 0))=.slice none 0 0:=rfl
     cases e
     ·simp only [Bool.false_eq_true,if_false] at hop2
      subst hop2
      simp only [execOp,hop,hev,hcst,Sem.run_bind,h1,Result.andThen_ok,binOp,h2,Sem.run_pure]
      cases A.isNone <;> rfl
     ·simp only [if_true] at hop2
      subst hop2
      simp only [execOp,hop,hev,hcst,Sem.run_bind,h1,Result.andThen_ok,binOp,h2,Sem.run_pure]
      cases A.isNone <;> rfl
    unfold Oper.wp
    rw [hrun,Oper.upon_value,zbH]
    refine hK _ _ ?_
    have:=hg A.isNone hA β0 S0 w0 β S w (Act.put ⟨tmps,[]⟩ o.dst (.bool (A.isNone==e))).tmps hb0 (by simp only [zbs];rw [zb1];exact hn) x0 r (rt.put (by rw [hn];exact hd) (zb7 _))
    simp only [zbs,kont,Exit.then] at this
    exact this
   split at hc
   ·rename_i el b n' hk he
    split at hc
    ·rename_i e' xs' sh hb
     simp only [Option.some.injEq,Prod.mk.injEq] at hc
     obtain ⟨rfl,rfl,rfl⟩:=hc
     exact fin el b e' sh hk he hb rfl
    ·cases hc
   ·rename_i el b n' hk he
    split at hc
    ·rename_i e' xs' sh hb
     simp only [Option.some.injEq,Prod.mk.injEq] at hc
     obtain ⟨rfl,rfl,rfl⟩:=hc
     exact fin el b e' sh hk he hb rfl
    ·cases hc
   ·cases hc
  ·cases hc
 ·cases hc
theorem zoB {E:Env0} {fn:Func} {h0:Heap} {c c':Cfg} {R:AV→Heap→Prop} (b i:Nat) (x:Bool) (live:List Nat) (m:Nat) {cs:List AV} (hb:c.h[b]?=some (.box cs)) (hi:cs[i]?=some (.bl x)) (hm:Nat.ble h0.length m=true)
  (he:cut live m ⟨c.n,c.todo,c.ts,c.h.set b (.box (cs.set i (.v (.bool x))))⟩=c') (hg:Good E fn h0 c' R):Good E fn h0 c R:=by
 have hg':=zdc live m (Nat.le_of_ble_eq_true hm) (he ▸ hg)
 intro β0 S0 w0 β S w tmps hb0 hn x0 r rt
 have x2:=zeO (β:=β) (S:=S) (w:=w) hb (cs.set i (.v (.bool x)))
 have r2:=r.setBox hb (cs.set i (.v (.bool x))) (fun g' vs' t' e2 e3 e4 e5=>by
  refine ⟨by simpa using e4,fun j x' y hx hy=>?_⟩
  by_cases hij:i=j
  ·subst hij
   rw [List.getElem?_set_self (List.getElem?_eq_some_iff.1 hi).1] at hx
   cases hx
   have:=e5 i (.bl x) y hi hy
   refine ⟨?_,this.2⟩
   rw [this.1.bl_inv]
   exact zb7 _
  ·rw [List.getElem?_set_ne hij] at hx
   exact e5 j x' y hx hy)
 exact hg' β0 S0 w0 β S w tmps hb0 hn (x0.trans x2) r2 fun t'=>(rt t').ext x2
theorem zan {E:Env0} {fn:Func} {h0:Heap} {n:Nat} {todo:List It} {ts ts':TS} {h h':Heap} {R:AV→Heap→Prop} (e1:ts=ts') (e2:h=h') (hg:Good E fn h0 ⟨n,todo,ts',h'⟩ R):Good E fn h0 ⟨n,todo,ts,h⟩ R:=by
 subst e1;subst e2;exact hg
end Go.AM
namespace Go.AM
structure St where
 o:List Orc
 p:List Prop
 h:allP p
def orcs:List St→List Orc
 | []=>[]
 | s::r=>s.o++orcs r
def zbe:List St→List Prop
 | []=>[]
 | s::r=>s.p++zbe r
theorem zpw:∀ {a b:List Prop},allP a→allP b→allP (a++b)
 | [],_,_,hb=>hb
 | [_],[],ha,_=>ha
 | [_],_::_,ha,hb=>⟨ha,hb⟩
 | _::q::r,_,ha,hb=>⟨ha.1,zpw (a:=q::r) ha.2 hb⟩
theorem zaZ:∀ l:List St,allP (zbe l)
 | []=>trivial
 | s::r=>zpw s.h (zaZ r)
def sb {c b:Bool} (h:c=b):St:=⟨[.b b],[c=b],h⟩
def si {e n:Int} (h:e=n):St:=⟨[.i n],[e=n],h⟩
def se {xs:List (List AV)} {i:Int} {c:List AV} {n:Nat} (h:ElAt xs i c n):St:=⟨[.el c],[ElAt xs i c n],h⟩
def sa {cs:List AV} {i:Int} {n:Nat} {c:List AV} {k:Nat} (h:ArrAt cs i n c k):St:=⟨[.el c],[ArrAt cs i n c k],h⟩
def sy {s:ByteArray} {i n:Int} (h:ByteAt s i n):St:=⟨[.i n],[ByteAt s i n],h⟩
def sc {E:Env0} {f:FuncId} {args:List AV} {r:AV} {h':Heap} (h:zaa E f args [] r h'):St:=⟨[.call [] r h'],[zaa E f args [] r h'],h⟩
def sl {E:Env0} {f:FuncId} {args:List AV} {hl:Heap} {r:AV} {h':Heap} (lend:List Nat) (h:zaa E f args hl r h'):St:=⟨[.call lend r h'],[zaa E f args hl r h'],h⟩
def sln {E:Env0} {f:FuncId} {args:List AV} {hl:Heap} {r:AV} {h':Heap} (lend:List Nat) (h:zaa E f args hl r h'):St:=⟨[.calln lend r h'],[zaa E f args hl r h'],h⟩
def sk {E:Env0} {f:FuncId} {args:List AV} {hl:Heap} {r:AV} {h':Heap} {p:Prop} (hp:p) (lend:List Nat) (h:zaa E f args hl r h'):St:=⟨[.call lend r h'],[p∧zaa E f args hl r h'],⟨hp,h⟩⟩
theorem conv {E:Env0} {f:FuncId} {args args':List AV} {hl hl':Heap} {r:AV} {h':Heap} (h:zaa E f args' hl' r h') (e1:args=args') (e2:hl=hl'):zaa E f args hl r h':=by
 subst e1;subst e2;exact h
def sq {p:Prop} (h:p):St:=⟨[],[p],h⟩
def sx (o:Orc) {p:Prop} (h:p):St:=⟨[o],[p],h⟩
def sg {c b:Bool} (h:c=b):St:=⟨[.b b],[c=b∧True],⟨h,trivial⟩⟩
def so {c b:Bool} (h:c=b) (s:St):St:=⟨.b b::s.o,[c=b∧allP s.p],⟨h,s.h⟩⟩
def zoQ:List (Nat × List St)→List (Nat × List Orc)
 | []=>[]
 | (i,l)::r=>(i,orcs l)::zoQ r
def zmQ:List (Nat × List St)→List St
 | []=>[]
 | (_,l)::r=>l++zmQ r
def sd (l:List (Nat × List St)):St:=⟨[.draw (zoQ l)],[allP (zbe (zmQ l))],zaZ _⟩
def zsh (p:Prop) (ts:TS) (h:Heap):Nat→Prop
 | 0=>True
 | n+1=>(p∧ts=ts∧h=h)∧zsh p ts h n
theorem zp7 {p:Prop} (hp:p) (ts:TS) (h:Heap):∀ n,zsh p ts h n
 | 0=>trivial
 | n+1=>⟨⟨hp,rfl,rfl⟩,zp7 hp ts h n⟩
def sdm (l:List (Nat × List St)) (n:Nat) (ts:TS) (h:Heap):St:=⟨[.draw (zoQ l)],[allP (zbe (zmQ l))∧zsh (allP (zbe (zmQ l))) ts h (n+1)],⟨zaZ _,zp7 (zaZ _) ts h _⟩⟩
theorem walk {E : Env0} (ht : zaC E) (hmix : E.P.follows .mixedOrders = true) {f : FuncId} {fn : Func} {c : Code} {args : List AV} {r y : AV} (hf : E.P.funcs[f]? = some fn) (hb : fn.body = some c) (hname : (fn.name == "runtime.NumGoroutine") = false)
  (hn:Nat.ble args.length fn.ntmps=true) (n:Nat) (l:List St) (hfin:fin (mk E) fn 0 n ⟨fn.ntmps,[.code c],zbZ 0 args,[]⟩ (orcs l)=some (zbe l,y,[])) (hr:y=r):zaa E f args [] r [] :=
 zgl ht hmix hf hb hname hn n (orcs l) hfin (zaZ l) ⟨hr,rfl⟩
theorem walkH {E : Env0} (ht : zaC E) (hmix : E.P.follows .mixedOrders = true) {f : FuncId} {fn : Func} {c : Code} {args : List AV} {h : Heap} {r y : AV} {H H' : Heap} (hf : E.P.funcs[f]? = some fn) (hb : fn.body = some c) (hname : (fn.name == "runtime.NumGoroutine") = false)
  (hn:Nat.ble args.length fn.ntmps=true) (n:Nat) (l:List St) (hfin:fin (mk E) fn h.length n ⟨fn.ntmps,[.code c],zbZ 0 args,h⟩ (orcs l)=some (zbe l,y,H)) (hr:y=r∧H=H'):zaa E f args h r H' :=
 zgl ht hmix hf hb hname hn n (orcs l) hfin (zaZ l) hr
def upto (E:Env) (live:List Nat) (m n:Nat) (c:Cfg) (os:List Orc):List Prop × Cfg:=match run E n c os with
 | (q,c',_)=>(q,cut live m c')
theorem zcb {E:Env0} (ht:zaC E) (hmix:E.P.follows .mixedOrders=true) {fn:Func} {R:AV→Heap→Prop} {h0:Heap} {c c':Cfg} (n:Nat) (l:List St) (live:List Nat) (m:Nat) (hm:Nat.ble h0.length m=true)
  (hu:upto (mk E) live m n c (orcs l)=(zbe l,c')) (hg:Good E fn h0 c' R):Good E fn h0 c R:=by
 unfold upto at hu
 have h1:(run (mk E) n c (orcs l)).1=zbe l:=by
  have:=congrArg Prod.fst hu
  exact this
 have h2:cut live m (run (mk E) n c (orcs l)).2.1=c':=congrArg Prod.snd hu
 exact zli ht hmix n (orcs l) live m hm h1 h2 (zaZ l) hg
theorem zd9 {E:Env0} (ht:zaC E) (hmix:E.P.follows .mixedOrders=true) {fn:Func} {R:AV→Heap→Prop} {h0:Heap} {c:Cfg} {y:AV} {H:Heap} {m:Nat} (n:Nat) (l:List St)
  (hfin:fin (mk E) fn m n c (orcs l)=some (zbe l,y,H)) (hR:R y H):Good E fn h0 c (Shut m R) :=
 zi2 ht hmix n (orcs l) hfin (zaZ l) hR
theorem zcm {E:Env0} (ht:zaC E) (hmix:E.P.follows .mixedOrders=true) {fn:Func} {R:AV→Heap→Prop} {h0:Heap} {c:Cfg} {y:AV} {H:Heap} (n:Nat) (l:List St)
  (hfin:finK (mk E) fn n c (orcs l)=some (zbe l,y,H)) (hR:R y H):Good E fn h0 c R :=
 zn4 ht hmix n (orcs l) hfin (zaZ l) hR
theorem zuF {E:Env0} (ht:zaC E) (hmix:E.P.follows .mixedOrders=true) {f:FuncId} {fn:Func} {c:Code} {args:List AV} {h:Heap} {R:AV→Heap→Prop} (hf:E.P.funcs[f]?=some fn) (hb:fn.body=some c)
  (hname : (fn.name == "runtime.NumGoroutine") = false) (hn : Nat.ble args.length fn.ntmps = true) (n : Nat) (l : List St) (live : List Nat) (m : Nat) {c' : Cfg} (hm : Nat.ble h.length m = true)
  (hu:upto (mk E) live m n ⟨fn.ntmps,[.code c],zbZ 0 args,h⟩ (orcs l)=(zbe l,c')) (hg:Good E fn h c' R):zbI E f args h R :=
 zaN hf hb hname (Nat.le_of_ble_eq_true hn) (zcb ht hmix n l live m hm hu hg)
theorem zfo {E:Env0} (ht:zaC E) (hmix:E.P.follows .mixedOrders=true) {f:FuncId} {fn:Func} {c:Code} {args:List AV} {h:Heap} {R:AV→Heap→Prop} (hf:E.P.funcs[f]?=some fn) (hb:fn.body=some c)
  (hname : (fn.name == "runtime.NumGoroutine") = false) (hn : Nat.ble args.length fn.ntmps = true) (n : Nat) (l : List St) (live : List Nat) (m : Nat) {c' : Cfg} (hm : Nat.ble h.length m = true)
  (hu:upto (mk E) live m n ⟨fn.ntmps,[.code c],zbZ 0 args,h⟩ (orcs l)=(zbe l,c')) (hg:Good E fn h c' (Shut h.length R)):zbI E f args h R :=
 zdl (zaN hf hb hname (Nat.le_of_ble_eq_true hn) (zcb ht hmix n l live m hm hu hg))
end Go.AM
namespace Go.AM
open Go.RowKit
theorem zrz {x:Value} {k:IntKind} (h:shp x=.int k):∃ a,x=.int k a:=by
 cases x <;> simp [shp] at h
 rename_i k' n;subst h;exact ⟨n,rfl⟩
def zk4 (t:TI):Shp→Bool
 | .int _=>match t.kind with|.int _=>Nat.beq t.size 1&&!t.isAgg|_=>false
 | .str=>match t.kind with|.str=>Nat.beq t.size 1&&!t.isAgg|_=>false
 | .bool=>match t.kind with|.bool=>Nat.beq t.size 1&&!t.isAgg|_=>false
 | .other=>false
def flat (T:TypeId→TI):Nat→List Field→List Shp→Bool
 | _,[],[]=>true
 | i, f :: fs, s :: ss => (f.name != "_") && Nat.beq f.offset i && zk4 (T f.type) s && flat T (i + 1) fs ss
 | _,_,_=>false
theorem eqCell {E:Env0} (ht:zaC E) {t:TypeId} {x y:Value} {r:Bool} (d:Nat) (hs:zk4 (E.T t) (shp x)=true) (he:zdp x y=some r) (w:World):(Op.equalIn (d+1) t x y).run E.P w=.ok r w:=by
 cases x <;> simp [shp,zk4] at hs
 case bool a =>
  split at hs
  ·rename_i hk
   obtain ⟨i,dd,z,tok⟩:=ht.at_ (t:=t) (by intro h;rw [h] at hk;cases hk)
   cases y <;> simp [zdp] at he
   subst he
   have:=tok.bool_ hk
   subst this
   exact run_equalIn_bool' w d t _ _ tok.und
  ·cases hs
 case int k a =>
  split at hs
  ·rename_i k' hk
   obtain ⟨i,dd,z,tok⟩:=ht.at_ (t:=t) (by intro h;rw [h] at hk;cases hk)
   cases y <;> simp [zdp] at he
   obtain ⟨rfl,rfl⟩:=he
   have:=tok.int_ hk
   subst this
   exact run_equalIn_int w d t _ _ _ _ tok.und
  ·cases hs
 case string a =>
  split at hs
  ·rename_i hk
   obtain ⟨i,dd,z,tok⟩:=ht.at_ (t:=t) (by intro h;rw [h] at hk;cases hk)
   cases y <;> simp [zdp] at he
   subst he
   have:=tok.str_ hk
   subst this
   rw [run_equalIn_string w d t _ _ tok.und,beq_toListBytes]
  ·cases hs
theorem zm8 {t:TI} {s:Shp} (h:zk4 t s=true):t.size=1∧t.isAgg=false∧t≠⟨.scalar,0,0,[]⟩:=by
 unfold zk4 at h
 split at h <;> try cases h
 all_goals
  split at h
  ·rename_i hk
   simp only [Bool.and_eq_true,Bool.not_eq_true'] at h
   exact ⟨Nat.eq_of_beq_eq_true h.1,h.2,by intro h';rw [h'] at hk;cases hk⟩
  ·cases h
theorem zlM {E:Env0} (ht:zaC E) (d:Nat) (w:World):∀ (fs:List Field) (px py xs ys:List Value) (r:Bool),px.length=py.length→flat E.T px.length fs (xs.map shp)=true→zbd xs ys=some r →
  (Op.eqFields (d+1) (px++xs).toArray (py++ys).toArray fs).run E.P w=.ok r w
 | [],px,py,xs,ys,r,hp,hf,he=>by
  cases xs with
  | cons x xs=>simp [flat] at hf
  | nil =>
   cases ys <;> simp [zbd] at he
   subst he
   rfl
 | f::fs,px,py,[],ys,r,hp,hf,he=>by simp [flat] at hf
 | f::fs,px,py,x::xs,[],r,hp,hf,he=>by simp [zbd] at he
 | f::fs,px,py,x::xs,y::ys,r,hp,hf,he=>by
  simp only [List.map_cons,flat,Bool.and_eq_true,bne_iff_ne] at hf
  obtain ⟨⟨⟨hn,ho⟩,hs⟩,hrest⟩:=hf
  have ho:=Nat.eq_of_beq_eq_true ho
  simp only [zbd] at he
  split at he
  ·rename_i a b h1 h2
   simp only [Option.some.injEq] at he
   subst he
   obtain ⟨hsz,hagg,hne⟩:=zm8 hs
   obtain ⟨i,dd,z,tok⟩:=ht.at_ hne
   have p1:=zg8 tok w (px++x::xs) f.offset (by rw [hsz,ho];simp)
   have p2:=zg8 tok w (py++y::ys) f.offset (by rw [hsz,ho,hp];simp)
   rw [hsz,ho] at p1
   rw [hsz,ho,hp] at p2
   simp only [List.drop_left,List.take_succ_cons,List.take_zero,ze2,hagg] at p1 p2
   have p3:=eqCell ht d hs h1 w
   have ih:=zlM ht d w fs (px++[x]) (py++[y]) xs ys b (by simp [hp]) (by simpa using hrest) h2
   simp only [List.append_assoc,List.singleton_append] at ih
   simp only [Op.eqFields,ne_eq,hn,not_false_eq_true,if_true,Sem.run_bind,ho]
   rw [p1,Result.andThen_ok,hp,p2,Result.andThen_ok]
   simp only [List.headD_cons]
   rw [p3,Result.andThen_ok]
   cases a
   ·rfl
   ·simpa using ih
  ·cases he
theorem ztZ {E:Env0} (ht:zaC E) {t:TypeId} {fs:Array Field} {ss:List Shp} (hu:E.P.underlying t=some (.struct fs)) (hp:E.P.stoodInHeld t=false) (hg:E.P.eqGuardType E.P.depth t=false) (hf:flat E.T 0 fs.toList ss=true) :
  StructEq E.P t ss:=by
 refine ⟨hg,fun w xs ys r hs he=>?_⟩
 have hfo:E.P.fieldsOf t=fs:=by simp [Program.fieldsOf,hu]
 have h1:=run_equalIn_struct (P:=E.P) w 9999 t xs.toArray ys.toArray (by rw [hfo];exact hu) hp
 rw [hfo] at h1
 have h2:=zlM ht 9998 w fs.toList [] [] xs ys r rfl (by rw [hs];exact hf) he
 simp only [List.nil_append] at h2
 unfold Op.equal Op.maxDepth
 rw [h1]
 exact h2
end Go.AM
namespace Go.AM
abbrev Str:=ByteArray
def zeF (l:List UInt8):Str:=⟨l.toArray⟩
abbrev iv (n:Int):AV:=.v (.int .i64 n)
abbrev bv (b:Bool):AV:=.v (.bool b)
abbrev sv (s:Str):AV:=.v (.string s)
def zdZ:List Str:=[zeF [],zeF [97],zeF [98],zeF [105,116,39,115],zeF [90,32,122],zeF [126]]
def globs (g:Nat):Option (List AV) :=
 match Nat.beq g S.g_world_words with
 | true=>some (zdZ.map sv)
 | false=>none
noncomputable def E0:Env0:=⟨Proofs.Tryz.prog,zji tabA,globs⟩
theorem E0ok:zaC E0:=zu6 zwx
theorem mix0:E0.P.follows .mixedOrders=true:=mix_ok
structure V where
 kind:Int
 int:Int
 text:Str
def V.cells (v:V):List AV:=[iv v.kind,iv v.int,sv v.text]
abbrev V.av (v:V):AV:=.agg v.cells
def V.null:V:=⟨0,0,⟨#[]⟩⟩
mutual
inductive X where
 | mk (kind op:Int) (not:Bool) (val:V) (table name:Str) (args:List X) (sub:List Qy)
inductive Qy where
 | mk (star:Bool) (items:List X) (frm:Str) (wh:List X)
end
def X.kind:X→Int|.mk k _ _ _ _ _ _ _=>k
def X.op:X→Int|.mk _ o _ _ _ _ _ _=>o
def X.not:X→Bool|.mk _ _ n _ _ _ _ _=>n
def X.val:X→V|.mk _ _ _ v _ _ _ _=>v
def X.table:X→Str|.mk _ _ _ _ t _ _ _=>t
def X.name:X→Str|.mk _ _ _ _ _ m _ _=>m
def X.args:X→List X|.mk _ _ _ _ _ _ xs _=>xs
def X.sub:X→List Qy|.mk _ _ _ _ _ _ _ qs=>qs
def Qy.star:Qy→Bool|.mk s _ _ _=>s
def Qy.items:Qy→List X|.mk _ i _ _=>i
def Qy.frm:Qy→Str|.mk _ _ f _=>f
def Qy.wh:Qy→List X|.mk _ _ _ w=>w
@[simp] theorem X.kind_mk (k o:Int) (n:Bool) (v:V) (t m:Str) (xs:List X) (qs:List Qy):(X.mk k o n v t m xs qs).kind=k:=rfl
@[simp] theorem X.op_mk (k o:Int) (n:Bool) (v:V) (t m:Str) (xs:List X) (qs:List Qy):(X.mk k o n v t m xs qs).op=o:=rfl
@[simp] theorem X.not_mk (k o:Int) (n:Bool) (v:V) (t m:Str) (xs:List X) (qs:List Qy):(X.mk k o n v t m xs qs).not=n:=rfl
@[simp] theorem X.val_mk (k o:Int) (n:Bool) (v:V) (t m:Str) (xs:List X) (qs:List Qy):(X.mk k o n v t m xs qs).val=v:=rfl
@[simp] theorem X.table_mk (k o:Int) (n:Bool) (v:V) (t m:Str) (xs:List X) (qs:List Qy):(X.mk k o n v t m xs qs).table=t:=rfl
@[simp] theorem X.name_mk (k o:Int) (n:Bool) (v:V) (t m:Str) (xs:List X) (qs:List Qy):(X.mk k o n v t m xs qs).name=m:=rfl
@[simp] theorem X.args_mk (k o:Int) (n:Bool) (v:V) (t m:Str) (xs:List X) (qs:List Qy):(X.mk k o n v t m xs qs).args=xs:=rfl
@[simp] theorem X.sub_mk (k o:Int) (n:Bool) (v:V) (t m:Str) (xs:List X) (qs:List Qy):(X.mk k o n v t m xs qs).sub=qs:=rfl
@[simp] theorem Qy.star_mk (s:Bool) (i:List X) (f:Str) (w:List X):(Qy.mk s i f w).star=s:=rfl
@[simp] theorem Qy.items_mk (s:Bool) (i:List X) (f:Str) (w:List X):(Qy.mk s i f w).items=i:=rfl
@[simp] theorem Qy.frm_mk (s:Bool) (i:List X) (f:Str) (w:List X):(Qy.mk s i f w).frm=f:=rfl
@[simp] theorem Qy.wh_mk (s:Bool) (i:List X) (f:Str) (w:List X):(Qy.mk s i f w).wh=w:=rfl
mutual
def X.raw:X→List AV
 | .mk k o n v t m xs qs=>[iv k,iv o,bv n,iv v.kind,iv v.int,sv v.text,sv t,sv m,.sl (zad xs),.sl (zag qs)]
def Qy.raw:Qy→List AV
 | .mk s is f w=>[bv s,.sl (zad is),sv f,.sl (zad w)]
def zad:List X→List (List AV)
 | []=>[]
 | x::r=>X.raw x::zad r
def zag:List Qy→List (List AV)
 | []=>[]
 | x::r=>Qy.raw x::zag r
end
def X.cells (x:X):List AV:=[iv x.kind,iv x.op,bv x.not,iv x.val.kind,iv x.val.int,sv x.val.text,sv x.table,sv x.name,.sl (zad x.args),.sl (zag x.sub)]
def Qy.cells (x:Qy):List AV:=[bv x.star,.sl (zad x.items),sv x.frm,.sl (zad x.wh)]
theorem X.raw_eq (x:X):x.raw=x.cells:=by cases x;simp [X.raw,X.cells,X.kind,X.op,X.not,X.val,X.table,X.name,X.args,X.sub]
theorem Qy.raw_eq (x:Qy):x.raw=x.cells:=by cases x;simp [Qy.raw,Qy.cells,Qy.star,Qy.items,Qy.frm,Qy.wh]
theorem zdT:∀ l:List X,zad l=l.map X.cells
 | []=>by simp [zad]
 | x::r=>by simp [zad,zdT r,X.raw_eq]
theorem zdM:∀ l:List Qy,zag l=l.map Qy.cells
 | []=>by simp [zag]
 | x::r=>by simp [zag,zdM r,Qy.raw_eq]
@[simp] theorem zaO:zad []=[]:=zdT []
@[simp] theorem zaI (x:X) (r:List X):zad (x::r)=x.cells::zad r:=by simp [zdT]
@[simp] theorem zaW (a b:List X):zad (a++b)=zad a++zad b:=by simp [zdT]
@[simp] theorem zf7 (a:List X):(zad a).length=a.length:=by simp [zdT]
@[simp] theorem zaT:zag []=[]:=zdM []
@[simp] theorem zaM (x:Qy) (r:List Qy):zag (x::r)=x.cells::zag r:=by simp [zdM]
@[simp] theorem zef (a:List Qy):(zag a).length=a.length:=by simp [zdM]
@[simp] theorem X.cells_length (x:X):x.cells.length=10:=rfl
@[simp] theorem Qy.cells_length (x:Qy):x.cells.length=4:=rfl
abbrev X.av (x:X):AV:=.agg x.cells
abbrev Qy.av (x:Qy):AV:=.agg x.cells
structure Col where
 name:Str
 type:Int
 notNull:Bool
 key:Bool
def Col.cells (c:Col):List AV:=[sv c.name,iv c.type,bv c.notNull,bv c.key]
structure Sch where
 name:Str
 cols:List Col
def Sch.cells (s:Sch):List AV:=[sv s.name,.sl (s.cols.map Col.cells)]
abbrev Sch.av (s:Sch):AV:=.agg s.cells
structure Rw where
 id:Int
 vals:List V
def Rw.cells (r:Rw):List AV:=[iv r.id,.sl (r.vals.map V.cells)]
structure Tb where
 sch:Sch
 next:Int
 rows:List Rw
def Tb.cells (t:Tb):List AV:=[sv t.sch.name,.sl (t.sch.cols.map Col.cells),iv t.next,.sl (t.rows.map Rw.cells)]
abbrev Tb.av (t:Tb):AV:=.agg t.cells
structure Fr where
 name:Str
 strict:Bool
 cols:List Col
 vals:List V
def Fr.cells (f:Fr):List AV:=[sv f.name,bv f.strict,.sl (f.cols.map Col.cells),.sl (f.vals.map V.cells)]
abbrev vsl (l:List V):AV:=.sl (l.map V.cells)
abbrev fsl (l:List Fr):AV:=.sl (l.map Fr.cells)
abbrev tsl (l:List Tb):AV:=.sl (l.map Tb.cells)
abbrev xsl (l:List X):AV:=.sl (zad l)
abbrev Pure (f:FuncId) (args:List AV) (r:AV):Prop:=zaa E0 f args [] r []
theorem zb4 {f : FuncId} {fn : Func} {c : Code} {args : List AV} {r : AV} (hf : E0.P.funcs[f]? = some fn) (hb : fn.body = some c) (hname : (fn.name == "runtime.NumGoroutine") = false) (hn : Nat.ble args.length fn.ntmps = true)
  (n:Nat) (os:List Orc) {q:List Prop} (hfin:fin (mk E0) fn 0 n ⟨fn.ntmps,[.code c],zbZ 0 args,[]⟩ os=some (q,r,[])) (hq:allP q):Pure f args r :=
 zgl E0ok mix0 hf hb hname hn n os hfin hq ⟨rfl,rfl⟩
@[simp] theorem V.cells_length (x:V):x.cells.length=3:=rfl
@[simp] theorem Col.cells_length (x:Col):x.cells.length=4:=rfl
@[simp] theorem Sch.cells_length (x:Sch):x.cells.length=2:=rfl
@[simp] theorem Rw.cells_length (x:Rw):x.cells.length=2:=rfl
@[simp] theorem Tb.cells_length (x:Tb):x.cells.length=4:=rfl
@[simp] theorem Fr.cells_length (x:Fr):x.cells.length=4:=rfl
theorem zcC {l:List X} {i:Nat} {x:X} (h:l[i]?=some x):ElAt (zad l) (i:Int) x.cells 10 :=
 ⟨by omega,by simp [zdT,h],rfl⟩
theorem zaV {l:List Qy} {i:Nat} {x:Qy} (h:l[i]?=some x):ElAt (zag l) (i:Int) x.cells 4 :=
 ⟨by omega,by simp [zdM,h],rfl⟩
theorem zaf {α:Type} (f:α→List AV) {l:List α} {i:Nat} {x:α} (h:l[i]?=some x) {n:Nat} (hn:(f x).length=n):ElAt (l.map f) (i:Int) (f x) n :=
 ⟨by omega,by simp [h],hn⟩
theorem zdx {α:Type} (f:α→List AV) {l:List α} {n i:Nat} {x:α} (hn:n=l.length) (h:l[i]?=some x):OwnEl (l.map f) n i (f x) :=
 ⟨by simp [hn],by simp [h]⟩
theorem zak (i:Nat) (h:i < 9223372036854775807):IntKind.i64.wrap ((i:Int)+1)=((i+1:Nat):Int):=by
 rw [IntKind.wrap_i64];omega
theorem zcG {t:Int} {n:Nat} (h1:t=(n:Int)) (h2:n≤9223372036854775807):IntKind.i64.wrap t=(n:Int):=by
 rw [h1,IntKind.wrap_i64];omega
def pm1:Nat→Int
 | 0=>-1
 | k+1=>(k:Int)
theorem pm1_eq (k:Nat):pm1 k=(k:Int) - 1:=by cases k <;> simp [pm1]
theorem zps (k:Nat) (h:k < 9223372036854775806):IntKind.i64.wrap ((k:Int) - 1)=pm1 k:=by
 rw [pm1_eq,IntKind.wrap_i64];omega
theorem zaR {α:Type} {l:List α} {i:Nat} {x:α} (h:l[i]?=some x):l.drop i=x::l.drop (i+1):=by
 obtain ⟨h1,h2⟩:=List.getElem?_eq_some_iff.mp h
 rw [List.drop_eq_getElem_cons h1,h2]
theorem zee {α:Type} {l:List α} {i:Nat} {x:α} (h:l[i]?=some x):i < l.length:=(List.getElem?_eq_some_iff.mp h).1
theorem zav {α:Type} {l:List α} {i:Nat} (h:i < l.length):∃ x,l[i]?=some x:=⟨l[i],by simp [h]⟩
structure Tp where
 l:List Int
 pos:Nat
 ok:l.length≤500
def Tp.cells (t:Tp):List AV:=[.sl (t.l.map fun n=>[iv n]),iv t.pos]
structure Pl where
 frs:List Fr
 tbs:List Sch
def Pl.cells (p:Pl):List AV:=[.sl (p.frs.map Fr.cells),.sl (p.tbs.map Sch.cells)]
abbrev Pl.av (p:Pl):AV:=.agg p.cells
abbrev ssl (l:List Str):AV:=.sl (l.map fun s=>[sv s])
structure Se where
 col:Str
 ex:X
def Se.cells (s:Se):List AV:=sv s.col::s.ex.cells
structure Ac where
 kind:Int
 table:Str
 rows:List (List X)
 query:List Qy
 sets:List Se
 wh:List X
 text:Str
def Ac.cells (a:Ac):List AV:=[iv a.kind,sv a.table,.sl (a.rows.map fun r=>[.sl (zad r)]),.sl (zag a.query),.sl (a.sets.map Se.cells),.sl (zad a.wh),sv a.text]
abbrev Ac.av (a:Ac):AV:=.agg a.cells
structure Rk where
 table:Str
 col:Str
 low:Int
 high:Int
def Rk.cells (r:Rk):List AV:=[sv r.table,sv r.col,iv r.low,iv r.high]
structure Tg where
 name:Str
 table:Str
 before:Bool
 event:Int
 of:List Str
 each:Bool
 prec:List Str
 foll:List Str
 rank:List Rk
 when_:List X
 acts:List Ac
def Tg.cells (t:Tg):List AV:=[sv t.name,sv t.table,bv t.before,iv t.event,ssl t.of,bv t.each,ssl t.prec,ssl t.foll,.sl (t.rank.map Rk.cells),.sl (zad t.when_),.sl (t.acts.map Ac.cells)]
abbrev Tg.av (t:Tg):AV:=.agg t.cells
@[simp] theorem Se.cells_length (x:Se):x.cells.length=11:=rfl
@[simp] theorem Ac.cells_length (x:Ac):x.cells.length=7:=rfl
@[simp] theorem Rk.cells_length (x:Rk):x.cells.length=4:=rfl
@[simp] theorem Tg.cells_length (x:Tg):x.cells.length=11:=rfl
theorem za9:StructEq E0.P Ty.Value [.int .i64,.int .i64,.str] :=
 ztZ E0ok (fs:=E0.P.fieldsOf Ty.Value) kr kr kr kr
end Go.AM
namespace Go.AM
noncomputable def runF (fn:Func) (args:List AV) (h:Heap) (os:List Orc):Option (List Prop × AV × Heap) :=
 match fn.body, (fn.name == "runtime.NumGoroutine"), Nat.ble args.length fn.ntmps with
 | some c,false,true=>fin (mk E0) fn h.length 3000 ⟨fn.ntmps,[.code c],zbZ 0 args,h⟩ os
 | _,_,_=>none
noncomputable def zjr (fn:Func) (args:List AV) (h:Heap) (live:List Nat) (m:Nat) (os:List Orc):Option (List Prop × Cfg) :=
 match fn.body, (fn.name == "runtime.NumGoroutine"), Nat.ble args.length fn.ntmps, Nat.ble h.length m with
 | some c,false,true,true=>some (upto (mk E0) live m 3000 ⟨fn.ntmps,[.code c],zbZ 0 args,h⟩ os)
 | _,_,_,_=>none
noncomputable def zjf (h0:Heap) (live:List Nat) (m:Nat) (c:Cfg) (os:List Orc):Option (List Prop × Cfg) :=
 match Nat.ble h0.length m with
 | true=>some (upto (mk E0) live m 3000 c os)
 | false=>none
theorem wk {f:FuncId} {fn:Func} {args:List AV} {h H:Heap} {r:AV} (hf:E0.P.funcs[f]?=some fn) (l:List St) (hfin:runF fn args h (orcs l)=some (zbe l,r,H)):zaa E0 f args h r H:=by
 unfold runF at hfin
 split at hfin
 ·rename_i c hb hn ha
  exact zgl E0ok mix0 hf hb hn ha 3000 (orcs l) hfin (zaZ l) ⟨rfl,rfl⟩
 ·cases hfin
theorem wkc {f:FuncId} {fn:Func} {args:List AV} {h:Heap} {R:AV→Heap→Prop} {c':Cfg} (hf:E0.P.funcs[f]?=some fn) (l:List St) (live:List Nat) (m:Nat) (hu:zjr fn args h live m (orcs l)=some (zbe l,c'))
  (hg:Good E0 fn h c' (Shut h.length R)):zbI E0 f args h R:=by
 unfold zjr at hu
 split at hu
 ·rename_i c hb hn ha hm
  exact zfo E0ok mix0 hf hb hn ha 3000 l live m hm (Option.some.inj hu) hg
 ·cases hu
theorem wkl {fn:Func} {R:AV→Heap→Prop} {h0:Heap} {c c':Cfg} (l:List St) (live:List Nat) (m:Nat) (hu:zjf h0 live m c (orcs l)=some (zbe l,c')) (hg:Good E0 fn h0 c' R):Good E0 fn h0 c R:=by
 unfold zjf at hu
 split at hu
 ·rename_i hm
  exact zcb E0ok mix0 3000 l live m hm (Option.some.inj hu) hg
 ·cases hu
theorem wkr {fn:Func} {h0:Heap} {c:Cfg} {r:AV} {H:Heap} {m:Nat} (l:List St) (hfin:fin (mk E0) fn m 3000 c (orcs l)=some (zbe l,r,H)):Good E0 fn h0 c (Shut m fun y h=>y=r∧h=H) :=
 zd9 E0ok mix0 3000 l hfin ⟨rfl,rfl⟩
noncomputable def runFK (fn:Func) (args:List AV) (h:Heap) (os:List Orc):Option (List Prop × AV × Heap) :=
 match fn.body, (fn.name == "runtime.NumGoroutine"), Nat.ble args.length fn.ntmps with
 | some c,false,true=>finK (mk E0) fn 3000 ⟨fn.ntmps,[.code c],zbZ 0 args,h⟩ os
 | _,_,_=>none
theorem wkK {f:FuncId} {fn:Func} {args:List AV} {h H:Heap} {r:AV} (hf:E0.P.funcs[f]?=some fn) (l:List St) (hfin:runFK fn args h (orcs l)=some (zbe l,r,H)):zaa E0 f args h r H:=by
 unfold runFK at hfin
 split at hfin
 ·rename_i c hb hn ha
  exact zqX E0ok mix0 hf hb hn ha 3000 (orcs l) hfin (zaZ l) ⟨rfl,rfl⟩
 ·cases hfin
def pickS (l:List (Nat × List St)) (i:Nat):List St:=match l with
 | []=>[]
 | (j,s)::r=>match Nat.beq j i with
  | true=>s
  | false=>pickS r i
def pickL (l:List (Nat × List St)):List Nat→List St
 | []=>[]
 | i::r=>pickS l i++pickL l r
def zsq (l:List (Nat × List St)) (ts:TS) (h:Heap):List (List Nat)→Prop
 | []=>True
 | o::r=>(allP (zbe (pickL l o))∧ts=ts∧h=h)∧zsq l ts h r
theorem zpM (l:List (Nat × List St)) (ts:TS) (h:Heap):∀ o,zsq l ts h o
 | []=>trivial
 | _::r=>⟨⟨zaZ _,rfl,rfl⟩,zpM l ts h r⟩
def sdp (l:List (Nat × List St)) (os:List (List Nat)) (ts:TS) (h:Heap):St:=⟨[.draw (zoQ l)],[allP (zbe (zmQ l))∧zsq l ts h os],⟨zaZ _,zpM l ts h os⟩⟩
theorem wkS {f:FuncId} {fn:Func} {args:List AV} {h H H':Heap} {r y:AV} (hf:E0.P.funcs[f]?=some fn) (l:List St) (hfin:runF fn args h (orcs l)=some (zbe l,y,H)) (e:y=r∧H=H'):zaa E0 f args h r H':=by
 obtain ⟨rfl,rfl⟩:=e
 exact wk hf l hfin
theorem wkrS {fn:Func} {h0:Heap} {c:Cfg} {r y:AV} {H H':Heap} {m:Nat} (l:List St) (hfin:fin (mk E0) fn m 3000 c (orcs l)=some (zbe l,y,H)) (e:y=r∧H=H'):Good E0 fn h0 c (Shut m fun y h=>y=r∧h=H'):=by
 obtain ⟨rfl,rfl⟩:=e
 exact wkr l hfin
theorem owed {p:Prop} (h:p:=by first|assumption|(simp;done)|(simp;omega)|omega|rfl|(refine ⟨⟨?_⟩,?_⟩ <;> first|(simp;done)|(simp;omega)|omega)|(refine ⟨⟨?_⟩,?_,?_⟩ <;> first|(simp;done)|(simp;omega)|omega)|(refine ⟨?_,?_,?_⟩ <;> first|(simp;done)|(simp;omega)|omega)|(refine ⟨?_,⟨?_⟩,?_,?_⟩ <;> first|(simp;done)|(simp;omega)|omega)|(constructor <;> first|(simp;done)|(simp;omega)|omega|(simp at *;omega))):p:=h
def sqx (p:Prop) (h:p:=by first|assumption|(simp;done)|(simp;omega)|omega|rfl|(refine ⟨⟨?_⟩,?_⟩ <;> first|(simp;done)|(simp;omega)|omega)|(refine ⟨⟨?_⟩,?_,?_⟩ <;> first|(simp;done)|(simp;omega)|omega)|(refine ⟨?_,?_,?_⟩ <;> first|(simp;done)|(simp;omega)|omega)|(refine ⟨?_,⟨?_⟩,?_,?_⟩ <;> first|(simp;done)|(simp;omega)|omega)|(constructor <;> first|(simp;done)|(simp;omega)|omega|(simp at *;omega))):St:=sq h
def skx (p:Prop) {E:Env0} {f:FuncId} {args:List AV} {hl:Heap} {r:AV} {h':Heap} (lend:List Nat) (h:zaa E f args hl r h') (hp:p:=by first|assumption|(simp;done)|(simp;omega)|omega|rfl|(refine ⟨⟨?_⟩,?_⟩ <;> first|(simp;done)|(simp;omega)|omega)|(refine ⟨⟨?_⟩,?_,?_⟩ <;> first|(simp;done)|(simp;omega)|omega)|(refine ⟨?_,?_,?_⟩ <;> first|(simp;done)|(simp;omega)|omega)|(refine ⟨?_,⟨?_⟩,?_,?_⟩ <;> first|(simp;done)|(simp;omega)|omega)|(constructor <;> first|(simp;done)|(simp;omega)|omega|(simp at *;omega))):St:=sk hp lend h
end Go.AM
namespace Go.AM
set_option maxRecDepth 100000
def cmpI (a b:Int):Int:=if a < b then -1 else if b < a then 1 else 0
def ltS (a b:Str):Bool:=Op.bytesLess a.toList b.toList
def eqS (a b:Str):Bool:=a.toList==b.toList
def cmpS (a b:Str):Int:=if ltS a b then -1 else if !(ltS a b || eqS a b) then 1 else 0
theorem zcq (n:Int):Pure S.cmp_isNaN_int [iv n] (bv (n != n)) :=
 zb4 At.cmp_isNaN_int rfl kr kr 100 [] (q:=[]) kr trivial
theorem zb6 (n:Int):Pure S.cmp_isNaN_int64 [iv n] (bv (n != n)) :=
 zb4 At.cmp_isNaN_int64 rfl kr kr 100 [] (q:=[]) kr trivial
theorem zbR (n:Str):Pure S.cmp_isNaN_string [sv n] (bv (!(n.toList==n.toList))) :=
 zb4 At.cmp_isNaN_string rfl kr kr 100 [] (q:=[]) kr trivial
theorem zlr (a b:Int):Pure S.cmp_Compare_int [iv a,iv b] (iv (cmpI a b)):=by
 unfold cmpI
 by_cases h1:a < b
 ·rw [if_pos h1]
  exact zb4 At.cmp_Compare_int rfl kr kr 200 [.call [] (bv (a != a)) [],.call [] (bv (b != b)) [],.b false,.b false,.b true]
   (q:=[Pure S.cmp_isNaN_int [iv a] (bv (a != a)),Pure S.cmp_isNaN_int [iv b] (bv (b != b)),(a != a)=false,(b != b)=false,decide (a < b)=true]) kr
   ⟨zcq a,zcq b,by simp,by simp,by simpa [allP] using h1⟩
 ·rw [if_neg h1]
  by_cases h2:b < a
  ·rw [if_pos h2]
   exact zb4 At.cmp_Compare_int rfl kr kr 200 [.call [] (bv (a != a)) [],.call [] (bv (b != b)) [],.b false,.b false,.b false,.b true]
    (q:=[Pure S.cmp_isNaN_int [iv a] (bv (a != a)),Pure S.cmp_isNaN_int [iv b] (bv (b != b)),(a != a)=false,(b != b)=false,decide (a < b)=false,decide (b < a)=true]) kr
    ⟨zcq a,zcq b,by simp,by simp,by simpa using h1,by simpa [allP] using h2⟩
  ·rw [if_neg h2]
   exact zb4 At.cmp_Compare_int rfl kr kr 200 [.call [] (bv (a != a)) [],.call [] (bv (b != b)) [],.b false,.b false,.b false,.b false]
    (q:=[Pure S.cmp_isNaN_int [iv a] (bv (a != a)),Pure S.cmp_isNaN_int [iv b] (bv (b != b)),(a != a)=false,(b != b)=false,decide (a < b)=false,decide (b < a)=false]) kr
    ⟨zcq a,zcq b,by simp,by simp,by simpa using h1,by simpa [allP] using h2⟩
theorem zbu (b:Bool):Pure S.value_Truth [bv b] (V.av ⟨2,if b then 1 else 0,⟨#[]⟩⟩):=by
 cases b
 ·exact zb4 At.value_Truth rfl kr kr 100 [.b false] (q:=[false=false]) kr rfl
 ·exact zb4 At.value_Truth rfl kr kr 100 [.b true] (q:=[true=true]) kr rfl
theorem za1 (n:Int):Pure S.value_Number [iv n] (V.av ⟨1,n,⟨#[]⟩⟩) :=
 zb4 At.value_Number rfl kr kr 100 [] (q:=[]) kr trivial
theorem zae (v:V):Pure S.evaluate_isNull [v.av] (bv (v.kind==0)) :=
 zb4 At.evaluate_isNull rfl kr kr 100 [] (q:=[]) kr trivial
end Go.AM
namespace Go.AM
set_option maxRecDepth 100000
theorem zjH (a b:Int):Pure S.cmp_Compare_int64 [iv a,iv b] (iv (cmpI a b)):=by
 unfold cmpI
 by_cases h1:a < b
 ·rw [if_pos h1]
  exact zb4 At.cmp_Compare_int64 rfl kr kr 1500 ([.call [] (bv (a != a)) [],.call [] (bv (b != b)) [],.b false,.b false,.b true]) (q:=[zaa E0 S.cmp_isNaN_int64 [AV.v (Value.int IntKind.i64 a)] [] (AV.v (Value.bool (a != a))) [],zaa E0 S.cmp_isNaN_int64 [AV.v (Value.int IntKind.i64 b)] [] (AV.v (Value.bool (b != b))) [],(a != a)=false,(b != b)=false,decide (a < b)=true]) kr ⟨zb6 a,zb6 b,by simp,by simp,by simpa [allP] using h1⟩
 ·rw [if_neg h1]
  by_cases h2:b < a
  ·rw [if_pos h2]
   exact zb4 At.cmp_Compare_int64 rfl kr kr 1500 ([.call [] (bv (a != a)) [],.call [] (bv (b != b)) [],.b false,.b false,.b false,.b true]) (q:=[zaa E0 S.cmp_isNaN_int64 [AV.v (Value.int IntKind.i64 a)] [] (AV.v (Value.bool (a != a))) [],zaa E0 S.cmp_isNaN_int64 [AV.v (Value.int IntKind.i64 b)] [] (AV.v (Value.bool (b != b))) [],(a != a)=false,(b != b)=false,decide (a < b)=false,decide (b < a)=true]) kr ⟨zb6 a,zb6 b,by simp,by simp,by simpa using h1,by simpa [allP] using h2⟩
  ·rw [if_neg h2]
   exact zb4 At.cmp_Compare_int64 rfl kr kr 1500 ([.call [] (bv (a != a)) [],.call [] (bv (b != b)) [],.b false,.b false,.b false,.b false]) (q:=[zaa E0 S.cmp_isNaN_int64 [AV.v (Value.int IntKind.i64 a)] [] (AV.v (Value.bool (a != a))) [],zaa E0 S.cmp_isNaN_int64 [AV.v (Value.int IntKind.i64 b)] [] (AV.v (Value.bool (b != b))) [],(a != a)=false,(b != b)=false,decide (a < b)=false,decide (b < a)=false]) kr ⟨zb6 a,zb6 b,by simp,by simp,by simpa using h1,by simpa [allP] using h2⟩
theorem ziX (a b:Str):Pure S.cmp_Compare_string [sv a,sv b] (iv (cmpS a b)):=by
 unfold cmpS ltS eqS
 cases h1:Op.bytesLess a.toList b.toList
 ·rw [if_neg (by simp)]
  cases h2:(!(Op.bytesLess a.toList b.toList || a.toList==b.toList))
  ·rw [h1] at h2
   rw [h2,if_neg (by simp)]
   exact zb4 At.cmp_Compare_string rfl kr kr 1500 ([.call [] (bv (!(a.toList==a.toList))) [],.call [] (bv (!(b.toList==b.toList))) [],.b false,.b false,.b false,.b false]) (q:=[zaa E0 S.cmp_isNaN_string [AV.v (Value.string a)] [] (AV.v (Value.bool !ByteArray.toList a==ByteArray.toList a)) [],zaa E0 S.cmp_isNaN_string [AV.v (Value.string b)] [] (AV.v (Value.bool !ByteArray.toList b==ByteArray.toList b)) [],(!ByteArray.toList a==ByteArray.toList a)=false,(!ByteArray.toList b==ByteArray.toList b)=false,Op.bytesLess (ByteArray.toList a) (ByteArray.toList b)=false,(!(Op.bytesLess (ByteArray.toList a) (ByteArray.toList b) || ByteArray.toList a==ByteArray.toList b))=false]) kr ⟨zbR a,zbR b,by simp,by simp,h1,by simp only [allP];rw [h1];exact h2⟩
  ·rw [h1] at h2
   rw [h2,if_pos rfl]
   exact zb4 At.cmp_Compare_string rfl kr kr 1500 ([.call [] (bv (!(a.toList==a.toList))) [],.call [] (bv (!(b.toList==b.toList))) [],.b false,.b false,.b false,.b true]) (q:=[zaa E0 S.cmp_isNaN_string [AV.v (Value.string a)] [] (AV.v (Value.bool !ByteArray.toList a==ByteArray.toList a)) [],zaa E0 S.cmp_isNaN_string [AV.v (Value.string b)] [] (AV.v (Value.bool !ByteArray.toList b==ByteArray.toList b)) [],(!ByteArray.toList a==ByteArray.toList a)=false,(!ByteArray.toList b==ByteArray.toList b)=false,Op.bytesLess (ByteArray.toList a) (ByteArray.toList b)=false,(!(Op.bytesLess (ByteArray.toList a) (ByteArray.toList b) || ByteArray.toList a==ByteArray.toList b))=true]) kr ⟨zbR a,zbR b,by simp,by simp,h1,by simp only [allP];rw [h1];exact h2⟩
 ·rw [if_pos rfl]
  exact zb4 At.cmp_Compare_string rfl kr kr 1500 ([.call [] (bv (!(a.toList==a.toList))) [],.call [] (bv (!(b.toList==b.toList))) [],.b false,.b false,.b true]) (q:=[zaa E0 S.cmp_isNaN_string [AV.v (Value.string a)] [] (AV.v (Value.bool !ByteArray.toList a==ByteArray.toList a)) [],zaa E0 S.cmp_isNaN_string [AV.v (Value.string b)] [] (AV.v (Value.bool !ByteArray.toList b==ByteArray.toList b)) [],(!ByteArray.toList a==ByteArray.toList a)=false,(!ByteArray.toList b==ByteArray.toList b)=false,Op.bytesLess (ByteArray.toList a) (ByteArray.toList b)=true]) kr ⟨zbR a,zbR b,by simp,by simp,h1⟩
def orI:List Int→Int
 | []=>0
 | x::r=>if x=0 then orI r else x
abbrev isl (l:List Int):AV:=.sl (l.map fun n=>[iv n])
noncomputable def L_Or (l:List Int) (i:Nat):Cfg:=zal B.cmp_Or_int 0 [(3,iv 0),(6,.sl (l.map fun n=>[iv n])),(7,iv ((l.map fun n=>[iv n]).length:Nat)),(8,iv (i:Nat))] []
theorem zuC (l:List Int) (hl:l.length < 9223372036854775807):∀ (k i:Nat),i+k=l.length→Good E0 B.cmp_Or_int [] (L_Or l i) (Shut 0 fun r h=>r=iv (orI (l.drop i))∧h=[]):=by
 intro k
 induction k with
 | zero =>
  intro i hi
  refine zab ?_
  refine zi2 E0ok mix0 1500 ([.b false]) (q:=[decide ((i:Int) < (↑(List.map (fun n=>[iv n]) l).length:Int))=false]) (y:=iv 0) (H:=[]) kr ?_ ⟨?_,rfl⟩
  ·simp [allP];omega
  ·rw [List.drop_of_length_le (by omega)];rfl
 | succ k ih =>
  intro i hi
  obtain ⟨x,hx⟩:=zav (l:=l) (i:=i) (by omega)
  have hlt:=zee hx
  refine zab ?_
  rw [zaR hx,orI]
  by_cases h0:x=0
  ·rw [if_pos h0]
   exact zli E0ok mix0 1500 ([.b true,.el [iv x],.b false,.i ((i+1:Nat):Int)]) [3,6,7,8] 0 (q:=[decide ((i:Int) < (↑(List.map (fun n=>[iv n]) l).length:Int))=true,ElAt (List.map (fun n=>[iv n]) l) (i:Int) [AV.v (Value.int IntKind.i64 x)] (1:Nat),(x != (0:Int))=false,IntKind.i64.wrap ((i:Int)+(1:Int))=(↑(i+(1:Nat)):Int)]) kr kr kr ⟨by simp;omega,zaf (fun n=>[iv n]) hx rfl,by simp [h0],zak i (by omega)⟩ (ih (i+1) (by omega))
  ·rw [if_neg h0]
   exact zi2 E0ok mix0 1500 ([.b true,.el [iv x],.b true]) (q:=[decide ((i:Int) < (↑(List.map (fun n=>[iv n]) l).length:Int))=true,ElAt (List.map (fun n=>[iv n]) l) (i:Int) [AV.v (Value.int IntKind.i64 x)] (1:Nat),(x != (0:Int))=true]) (y:=iv x) (H:=[]) kr ⟨by simp;omega,zaf (fun n=>[iv n]) hx rfl,by simpa [allP] using h0⟩ ⟨rfl,rfl⟩
theorem zpP (l:List Int) (hl:l.length < 9223372036854775807):Pure S.cmp_Or_int [.sl (l.map fun n=>[iv n])] (iv (orI l)) :=
 zt0 E0ok mix0 At.cmp_Or_int rfl kr kr 1500 ([]) [3,6,7,8] 0 (q:=[]) kr kr kr trivial (zuC l hl l.length 0 (by omega))
end Go.AM
namespace Go.AM
set_option maxRecDepth 100000
def cmpV (a b:V):Int:=orI [cmpI a.kind b.kind,cmpI a.int b.int,cmpS a.text b.text]
theorem zcN (a b:V):Pure S.value_Compare [a.av,b.av] (iv (cmpV a b)) :=
 walk E0ok mix0 At.value_Compare rfl kr kr 1500 [sd [(4,[sc (zlr a.kind b.kind)]),(9,[sc (zjH a.int b.int)]),(14,[sc (ziX a.text b.text)]),(16,[sc (zpP [cmpI a.kind b.kind,cmpI a.int b.int,cmpS a.text b.text] (by simp))])]] kr rfl
end Go.AM
namespace Go.AM
set_option maxRecDepth 100000
def okB (c:Nat):Bool:=!(decide ((c:Int) < 32))&&!(decide ((126:Int) < c))
def znf (l:List UInt8):Bool:=match l with
 | []=>true
 | c::r=>okB c.toNat&&znf r
def zmT (s:Str):Bool:=znf s.data.toList&&decide ((s.size:Int)≤64)
noncomputable def znv (s:Str) (i:Nat):Cfg:=zal B.value_plain 0 [(0,sv s),(5,iv (s.size:Nat)),(6,iv (i:Nat))] []
theorem zpY (s:Str) (hl:s.size < 9223372036854775807):∀ (k i:Nat),i+k=s.size→Good E0 B.value_plain [] (znv s i) (Shut 0 fun r h=>r=bv (znf (s.data.toList.drop i)&&decide ((s.size:Int)≤64))∧h=[]):=by
 intro k
 induction k with
 | zero =>
  intro i hi
  refine zab ?_
  have h0:decide ((i:Int) < (s.size:Int))=false:=by simp;omega
  have e0:s.data.toList.drop i=[]:=List.drop_of_length_le (by simp [← hi])
  rw [e0]
  exact zd9 E0ok mix0 3000 (y:=AV.v (Value.bool (decide ((↑(ByteArray.size s):Int)≤(64:Int))))) [sb h0] kr ⟨rfl,rfl⟩
 | succ k ih =>
  intro i hi
  have ih:=ih (i+1) (by omega)
  have hlt:i < s.size:=by omega
  have h0:decide ((i:Int) < (s.size:Int))=true:=by simp;omega
  have hb:ByteAt s (i:Int) ((s[i].toNat:Nat):Int):=⟨by omega,by simp [hlt]⟩
  have hw:=zak i (by omega)
  have e0:s.data.toList.drop i=s[i]::s.data.toList.drop (i+1):=by
   rw [List.drop_eq_getElem_cons (by simpa using hlt)];rfl
  rw [e0]
  generalize s[i]=c at hb
  simp only [znf,okB]
  refine zab ?_
  cases h1:decide ((c.toNat:Int) < (32:Int))
  ·cases h2:decide ((126:Int) < (c.toNat:Int))
   ·exact zcb E0ok mix0 3000 (c':=znv s (i+(1:Nat))) [sb h0,sy hb,sg h1,sy hb,sb h2,si hw] [0,5,6] 0 kr kr (by simpa [h1,h2] using ih)
   ·exact zd9 E0ok mix0 3000 (y:=AV.v (Value.bool false)) [sb h0,sy hb,sg h1,sy hb,sb h2] kr ⟨by simp [h1,h2],rfl⟩
  ·exact zd9 E0ok mix0 3000 (y:=AV.v (Value.bool false)) [sb h0,sy hb,sb h1] kr ⟨by simp [h1],rfl⟩
theorem zoz (s:Str) (hl:s.size < 9223372036854775807):Pure S.value_plain [sv s] (bv (zmT s)):=by
 exact zfo E0ok mix0 At.value_plain rfl kr kr 3000 (c':=znv s (0:Nat)) [] [0,5,6] 0 kr kr (by simpa [zmT] using zpY s hl s.size 0 (by simp))
end Go.AM
namespace Go.AM
set_option maxRecDepth 100000
set_option linter.unusedSimpArgs false
set_option linter.unusedVariables false
theorem ze8 {p:Prop} (h:p:=by first|assumption|omega|(simp;done)|(simp;omega)):p:=h
theorem ziK {p:Prop} (h:p:=by first|assumption|exact ztB _ _ (by decide)|exact zsG _ _ _):p:=h
theorem zho {p:Prop} (h:p:=by first|assumption|exact zqN _ _):p:=h
theorem zlo {p:Prop} (h:p:=by first|assumption|exact ztB _ _ (by simp_all;omega)):p:=h
abbrev V.small (v:V):Prop:=v.text.size < 9223372036854775807
theorem ziq:(⟨#[]⟩:Str).size < 9223372036854775807:=by decide
def zcD (v:V):Bool :=
 bif v.kind==(0:Int) then
  v.kind==(0:Int)&&(v.int==(0:Int)&&(v.text==ByteArray.mk #[]&&true))
 else
  bif v.kind==(1:Int) then
   ByteArray.toList v.text==(ByteArray.mk #[]).toList
  else
   bif v.kind==(2:Int) then
    bif v.int==(0:Int) then
     ByteArray.toList v.text==(ByteArray.mk #[]).toList
    else
     bif v.int==(1:Int) then
      ByteArray.toList v.text==(ByteArray.mk #[]).toList
     else
      false
   else
    bif v.kind==(3:Int) then
     bif v.int==(0:Int) then
      zmT v.text
     else
      false
    else
     false
theorem zcr (v:V) (hv:v.small):zaa E0 S.value_Valid [v.av] [] (bv (zcD v)) []:=by
 cases h1:v.kind==(0:Int)
 ·cases h2:v.kind==(1:Int)
  ·cases h3:v.kind==(2:Int)
   ·cases h4:v.kind==(3:Int)
    ·exact walk E0ok mix0 At.value_Valid rfl kr kr 3000 (y:=AV.v (Value.bool false)) [sb h1,sb h2,sb h3,sb h4] kr (by simp only [zcD,cond_true,cond_false,h1,h2,h3,h4] <;> rfl)
    ·cases h5:v.int==(0:Int)
     ·exact walk E0ok mix0 At.value_Valid rfl kr kr 3000 (y:=AV.v (Value.bool false)) [sb h1,sb h2,sb h3,sb h4,sb h5] kr (by simp only [zcD,cond_true,cond_false,h1,h2,h3,h4,h5] <;> rfl)
     ·exact walk E0ok mix0 At.value_Valid rfl kr kr 3000 (y:=AV.v (Value.bool (zmT v.text))) [sb h1,sb h2,sb h3,sb h4,sg h5,sc (zoz v.text (by first|assumption|(simp;done)|omega|(simp;omega)))] kr (by simp only [zcD,cond_true,cond_false,h1,h2,h3,h4,h5] <;> rfl)
   ·cases h6:v.int==(0:Int)
    ·cases h7:v.int==(1:Int)
     ·exact walk E0ok mix0 At.value_Valid rfl kr kr 3000 (y:=AV.v (Value.bool false)) [sb h1,sb h2,sb h3,sg h6,sb h7] kr (by simp only [zcD,cond_true,cond_false,h1,h2,h3,h6,h7] <;> rfl)
     ·exact walk E0ok mix0 At.value_Valid rfl kr kr 3000 (y:=AV.v (Value.bool (ByteArray.toList v.text==(ByteArray.mk #[]).toList))) [sb h1,sb h2,sb h3,sg h6,sg h7] kr (by simp only [zcD,cond_true,cond_false,h1,h2,h3,h6,h7] <;> rfl)
    ·exact walk E0ok mix0 At.value_Valid rfl kr kr 3000 (y:=AV.v (Value.bool (ByteArray.toList v.text==(ByteArray.mk #[]).toList))) [sb h1,sb h2,sb h3,sb h6] kr (by simp only [zcD,cond_true,cond_false,h1,h2,h3,h6] <;> rfl)
  ·exact walk E0ok mix0 At.value_Valid rfl kr kr 3000 (y:=AV.v (Value.bool (ByteArray.toList v.text==(ByteArray.mk #[]).toList))) [sb h1,sb h2] kr (by simp only [zcD,cond_true,cond_false,h1,h2] <;> rfl)
 ·exact walk E0ok mix0 At.value_Valid rfl kr kr 3000 (y:=AV.v (Value.bool (v.kind==(0:Int)&&(v.int==(0:Int)&&(v.text==ByteArray.mk #[]&&true))))) [sb h1,sq za9] kr (by simp only [zcD,cond_true,cond_false,h1] <;> rfl)
def zcR (v:V):Bool :=
 bif zcD v then
  bif v.kind==2 then
   true
  else
   v.kind==(0:Int)
 else
  false
theorem za2 (v:V) (hv:v.small):zaa E0 S.logic_Valid [v.av] [] (bv (zcR v)) []:=by
 unfold zcR
 cases h1:zcD v
 ·exact wk At.logic_Valid [sc (zcr v ze8),sb h1] kr
 ·cases h2:v.kind==2
  ·exact wk At.logic_Valid [sc (zcr v ze8),sg h1,sg h2] kr
  ·exact wk At.logic_Valid [sc (zcr v ze8),sg h1,sb h2] kr
def lnot (v:V):V × Bool :=
 bif !zcR v then
  (V.mk 0 0 (ByteArray.mk #[]),false)
 else
  bif v.kind==0 then
   (v,true)
  else
   (V.mk (2:Int) (if (v.int==(0:Int))=true then (1:Int) else (0:Int)) (ByteArray.mk #[]),true)
theorem zfL (v:V) (hv:v.small):zaa E0 S.logic_Not [v.av] [] (.tup [(lnot v).1.av,bv (lnot v).2]) []:=by
 unfold lnot
 cases h1:!zcR v
 ·cases h2:v.kind==0
  ·exact wk At.logic_Not [sc (za2 v ze8),sb h1,sb h2,sc (zbu (v.int==0))] kr
  ·exact wk At.logic_Not [sc (za2 v ze8),sb h1,sb h2] kr
 ·exact wk At.logic_Not [sc (za2 v ze8),sb h1] kr
def zfG (a b:V):V :=
 bif a.kind==2&&((a.int==if false=true then 1 else 0)&&(a.text==ByteArray.mk #[]&&true)) then
  V.mk 2 (if false=true then 1 else 0) (ByteArray.mk #[])
 else
  bif b.kind==2&&((b.int==if false=true then 1 else 0)&&(b.text==ByteArray.mk #[]&&true)) then
   V.mk 2 (if false=true then 1 else 0) (ByteArray.mk #[])
  else
   bif a.kind==0 then
    V.mk 0 0 (ByteArray.mk #[])
   else
    bif b.kind==0 then
     V.mk 0 0 (ByteArray.mk #[])
    else
     V.mk 2 (if true=true then 1 else 0) (ByteArray.mk #[])
theorem zlG (a b:V) :zaa E0 S.logic_and [a.av,b.av] [] ((zfG a b).av) []:=by
 unfold zfG
 cases h1:a.kind==2&&((a.int==if false=true then 1 else 0)&&(a.text==ByteArray.mk #[]&&true))
 ·cases h2:b.kind==2&&((b.int==if false=true then 1 else 0)&&(b.text==ByteArray.mk #[]&&true))
  ·cases h3:a.kind==0
   ·cases h4:b.kind==0
    ·exact wk At.logic_and [sc (zbu false),sq za9,sg h1,sq za9,sb h2,sg h3,sb h4,sc (zbu true)] kr
    ·exact wk At.logic_and [sc (zbu false),sq za9,sg h1,sq za9,sb h2,sg h3,sb h4] kr
   ·exact wk At.logic_and [sc (zbu false),sq za9,sg h1,sq za9,sb h2,sb h3] kr
  ·exact wk At.logic_and [sc (zbu false),sq za9,sg h1,sq za9,sb h2] kr
 ·exact wk At.logic_and [sc (zbu false),sq za9,sb h1] kr
def land (a b:V):V × Bool :=
 bif !zcR a then
  (V.mk 0 0 (ByteArray.mk #[]),false)
 else
  bif !zcR b then
   (V.mk 0 0 (ByteArray.mk #[]),false)
  else
   (zfG a b,true)
theorem zlL (a b:V) (ha:a.small) (hb:b.small):zaa E0 S.logic_And [a.av,b.av] [] (.tup [(land a b).1.av,bv (land a b).2]) []:=by
 unfold land
 cases h1:!zcR a
 ·cases h2:!zcR b
  ·exact wk At.logic_And [sc (za2 a ze8),sg h1,sc (za2 b ze8),sb h2,sc (zlG a b)] kr
  ·exact wk At.logic_And [sc (za2 a ze8),sg h1,sc (za2 b ze8),sb h2] kr
 ·exact wk At.logic_And [sc (za2 a ze8),sb h1] kr
theorem zsI (c:Bool) {a b:V} (ha:a.small) (hb:b.small):(bif c then a else b).small:=by cases c <;> assumption
theorem zrp (c:Bool) {α:Type} {a b:V × α} (ha:a.1.small) (hb:b.1.small):(bif c then a else b).1.small:=by cases c <;> assumption
theorem zqN (a b:V):(zfG a b).small:=by
 unfold zfG;repeat' (first|apply zsI|exact ziq)
def lor (a b:V):V × Bool :=
 bif !zcR a then
  (V.mk 0 0 (ByteArray.mk #[]),false)
 else
  bif !zcR b then
   (V.mk 0 0 (ByteArray.mk #[]),false)
  else
   ((lnot (zfG (lnot a).fst (lnot b).fst)).fst,(lnot (zfG (lnot a).fst (lnot b).fst)).snd)
theorem zsm (a b:V) (ha:a.small) (hb:b.small):zaa E0 S.logic_Or [a.av,b.av] [] (.tup [(lor a b).1.av,bv (lor a b).2]) []:=by
 unfold lor
 cases h1:!zcR a
 ·cases h2:!zcR b
  ·exact wk At.logic_Or [sc (za2 a zho),sg h1,sc (za2 b zho),sb h2,sc (zfL a zho),sc (zfL b zho),sc (zlG ((lnot a).fst) ((lnot b).fst)),sc (zfL (zfG (lnot a).fst (lnot b).fst) zho)] kr
  ·exact wk At.logic_Or [sc (za2 a zho),sg h1,sc (za2 b zho),sb h2] kr
 ·exact wk At.logic_Or [sc (za2 a zho),sb h1] kr
def ztI (a:V):Bool :=
 a.kind==(2:Int)&&((a.int==if true=true then (1:Int) else (0:Int))&&(a.text==ByteArray.mk #[]&&true))
theorem znO (a:V) :zaa E0 S.logic_IsTrue [a.av] [] (bv (ztI a)) []:=by
 exact wk At.logic_IsTrue [sd [(1,[sc (zbu true)]),(2,[sq za9])]] kr
def aAdd (a b:Int):Int × Bool :=
 bif decide (0 < b) then
  bif decide (IntKind.i64.wrap (9223372036854775807 - b) < a) then
   (0,false)
  else
   bif decide (b < 0) then
    bif decide (a < IntKind.i64.wrap (-9223372036854775808 - b)) then
     (0,false)
    else
     (IntKind.i64.wrap (a+b),true)
   else
    (IntKind.i64.wrap (a+b),true)
 else
  bif decide (b < 0) then
   bif decide (a < IntKind.i64.wrap (-9223372036854775808 - b)) then
    (0,false)
   else
    (IntKind.i64.wrap (a+b),true)
  else
   (IntKind.i64.wrap (a+b),true)
theorem zdm (a b:Int) :zaa E0 S.arith_Add [iv a,iv b] [] (.tup [iv (aAdd a b).1,bv (aAdd a b).2]) []:=by
 unfold aAdd
 cases h1:decide (0 < b)
 ·cases h2:decide (b < 0)
  ·exact wk At.arith_Add [sb h1,sb h2,si (e:=IntKind.i64.wrap (a+b)) rfl] kr
  ·cases h3:decide (a < IntKind.i64.wrap (-9223372036854775808 - b))
   ·exact wk At.arith_Add [sb h1,sg h2,si (e:=IntKind.i64.wrap (-9223372036854775808 - b)) rfl,sb h3,si (e:=IntKind.i64.wrap (a+b)) rfl] kr
   ·exact wk At.arith_Add [sb h1,sg h2,si (e:=IntKind.i64.wrap (-9223372036854775808 - b)) rfl,sb h3] kr
 ·cases h4:decide (IntKind.i64.wrap (9223372036854775807 - b) < a)
  ·cases h5:decide (b < 0)
   ·exact wk At.arith_Add [sg h1,si (e:=IntKind.i64.wrap (9223372036854775807 - b)) rfl,sg h4,sb h5,si (e:=IntKind.i64.wrap (a+b)) rfl] kr
   ·cases h6:decide (a < IntKind.i64.wrap (-9223372036854775808 - b))
    ·exact wk At.arith_Add [sg h1,si (e:=IntKind.i64.wrap (9223372036854775807 - b)) rfl,sg h4,sg h5,si (e:=IntKind.i64.wrap (-9223372036854775808 - b)) rfl,sb h6,si (e:=IntKind.i64.wrap (a+b)) rfl] kr
    ·exact wk At.arith_Add [sg h1,si (e:=IntKind.i64.wrap (9223372036854775807 - b)) rfl,sg h4,sg h5,si (e:=IntKind.i64.wrap (-9223372036854775808 - b)) rfl,sb h6] kr
  ·exact wk At.arith_Add [sg h1,si (e:=IntKind.i64.wrap (9223372036854775807 - b)) rfl,sb h4] kr
def aSub (a b:Int):Int × Bool :=
 bif decide (b < 0) then
  bif decide (IntKind.i64.wrap (9223372036854775807+b) < a) then
   (0,false)
  else
   bif decide (0 < b) then
    bif decide (a < IntKind.i64.wrap (-9223372036854775808+b)) then
     (0,false)
    else
     (IntKind.i64.wrap (a - b),true)
   else
    (IntKind.i64.wrap (a - b),true)
 else
  bif decide (0 < b) then
   bif decide (a < IntKind.i64.wrap (-9223372036854775808+b)) then
    (0,false)
   else
    (IntKind.i64.wrap (a - b),true)
  else
   (IntKind.i64.wrap (a - b),true)
theorem zcf (a b:Int) :zaa E0 S.arith_Subtract [iv a,iv b] [] (.tup [iv (aSub a b).1,bv (aSub a b).2]) []:=by
 unfold aSub
 cases h1:decide (b < 0)
 ·cases h2:decide (0 < b)
  ·exact wk At.arith_Subtract [sb h1,sb h2,si (e:=IntKind.i64.wrap (a - b)) rfl] kr
  ·cases h3:decide (a < IntKind.i64.wrap (-9223372036854775808+b))
   ·exact wk At.arith_Subtract [sb h1,sg h2,si (e:=IntKind.i64.wrap (-9223372036854775808+b)) rfl,sb h3,si (e:=IntKind.i64.wrap (a - b)) rfl] kr
   ·exact wk At.arith_Subtract [sb h1,sg h2,si (e:=IntKind.i64.wrap (-9223372036854775808+b)) rfl,sb h3] kr
 ·cases h4:decide (IntKind.i64.wrap (9223372036854775807+b) < a)
  ·cases h5:decide (0 < b)
   ·exact wk At.arith_Subtract [sg h1,si (e:=IntKind.i64.wrap (9223372036854775807+b)) rfl,sg h4,sb h5,si (e:=IntKind.i64.wrap (a - b)) rfl] kr
   ·cases h6:decide (a < IntKind.i64.wrap (-9223372036854775808+b))
    ·exact wk At.arith_Subtract [sg h1,si (e:=IntKind.i64.wrap (9223372036854775807+b)) rfl,sg h4,sg h5,si (e:=IntKind.i64.wrap (-9223372036854775808+b)) rfl,sb h6,si (e:=IntKind.i64.wrap (a - b)) rfl] kr
    ·exact wk At.arith_Subtract [sg h1,si (e:=IntKind.i64.wrap (9223372036854775807+b)) rfl,sg h4,sg h5,si (e:=IntKind.i64.wrap (-9223372036854775808+b)) rfl,sb h6] kr
  ·exact wk At.arith_Subtract [sg h1,si (e:=IntKind.i64.wrap (9223372036854775807+b)) rfl,sb h4] kr
def aMul (a b:Int):Int × Bool :=
 bif a==0 then
  (0,true)
 else
  bif b==0 then
   (0,true)
  else
   bif a==-9223372036854775808 then
    bif b==-1 then
     (0,false)
    else
     bif b==-9223372036854775808 then
      bif a==-1 then
       (0,false)
      else
       bif IntKind.i64.wrap ((IntKind.i64.wrap (a * b)).tdiv b) != a then
        (0,false)
       else
        (IntKind.i64.wrap (a * b),true)
     else
      bif IntKind.i64.wrap ((IntKind.i64.wrap (a * b)).tdiv b) != a then
       (0,false)
      else
       (IntKind.i64.wrap (a * b),true)
   else
    bif b==-9223372036854775808 then
     bif a==-1 then
      (0,false)
     else
      bif IntKind.i64.wrap ((IntKind.i64.wrap (a * b)).tdiv b) != a then
       (0,false)
      else
       (IntKind.i64.wrap (a * b),true)
    else
     bif IntKind.i64.wrap ((IntKind.i64.wrap (a * b)).tdiv b) != a then
      (0,false)
     else
      (IntKind.i64.wrap (a * b),true)
theorem zce (a b:Int) :zaa E0 S.arith_Multiply [iv a,iv b] [] (.tup [iv (aMul a b).1,bv (aMul a b).2]) []:=by
 unfold aMul
 cases h1:a==0
 ·cases h2:b==0
  ·cases h3:a==-9223372036854775808
   ·cases h4:b==-9223372036854775808
    ·cases h5:IntKind.i64.wrap ((IntKind.i64.wrap (a * b)).tdiv b) != a
     ·exact wk At.arith_Multiply [sg h1,sb h2,sb h3,sb h4,si (e:=IntKind.i64.wrap (a * b)) rfl,sx (.i (IntKind.i64.wrap ((IntKind.i64.wrap (a * b)).tdiv b))) (show b≠(0:Int)∧(IntKind.i64.wrap ((IntKind.i64.wrap (a * b)).tdiv b):Int)=IntKind.i64.wrap ((IntKind.i64.wrap (a * b)).tdiv b) from ⟨(by simp_all),rfl⟩),sb h5] kr
     ·exact wk At.arith_Multiply [sg h1,sb h2,sb h3,sb h4,si (e:=IntKind.i64.wrap (a * b)) rfl,sx (.i (IntKind.i64.wrap ((IntKind.i64.wrap (a * b)).tdiv b))) (show b≠(0:Int)∧(IntKind.i64.wrap ((IntKind.i64.wrap (a * b)).tdiv b):Int)=IntKind.i64.wrap ((IntKind.i64.wrap (a * b)).tdiv b) from ⟨(by simp_all),rfl⟩),sb h5] kr
    ·cases h6:a==-1
     ·cases h7:IntKind.i64.wrap ((IntKind.i64.wrap (a * b)).tdiv b) != a
      ·exact wk At.arith_Multiply [sg h1,sb h2,sb h3,sg h4,sb h6,si (e:=IntKind.i64.wrap (a * b)) rfl,sx (.i (IntKind.i64.wrap ((IntKind.i64.wrap (a * b)).tdiv b))) (show b≠(0:Int)∧(IntKind.i64.wrap ((IntKind.i64.wrap (a * b)).tdiv b):Int)=IntKind.i64.wrap ((IntKind.i64.wrap (a * b)).tdiv b) from ⟨(by simp_all),rfl⟩),sb h7] kr
      ·exact wk At.arith_Multiply [sg h1,sb h2,sb h3,sg h4,sb h6,si (e:=IntKind.i64.wrap (a * b)) rfl,sx (.i (IntKind.i64.wrap ((IntKind.i64.wrap (a * b)).tdiv b))) (show b≠(0:Int)∧(IntKind.i64.wrap ((IntKind.i64.wrap (a * b)).tdiv b):Int)=IntKind.i64.wrap ((IntKind.i64.wrap (a * b)).tdiv b) from ⟨(by simp_all),rfl⟩),sb h7] kr
     ·exact wk At.arith_Multiply [sg h1,sb h2,sb h3,sg h4,sb h6] kr
   ·cases h8:b==-1
    ·cases h9:b==-9223372036854775808
     ·cases h10:IntKind.i64.wrap ((IntKind.i64.wrap (a * b)).tdiv b) != a
      ·exact wk At.arith_Multiply [sg h1,sb h2,sg h3,sg h8,sb h9,si (e:=IntKind.i64.wrap (a * b)) rfl,sx (.i (IntKind.i64.wrap ((IntKind.i64.wrap (a * b)).tdiv b))) (show b≠(0:Int)∧(IntKind.i64.wrap ((IntKind.i64.wrap (a * b)).tdiv b):Int)=IntKind.i64.wrap ((IntKind.i64.wrap (a * b)).tdiv b) from ⟨(by simp_all),rfl⟩),sb h10] kr
      ·exact wk At.arith_Multiply [sg h1,sb h2,sg h3,sg h8,sb h9,si (e:=IntKind.i64.wrap (a * b)) rfl,sx (.i (IntKind.i64.wrap ((IntKind.i64.wrap (a * b)).tdiv b))) (show b≠(0:Int)∧(IntKind.i64.wrap ((IntKind.i64.wrap (a * b)).tdiv b):Int)=IntKind.i64.wrap ((IntKind.i64.wrap (a * b)).tdiv b) from ⟨(by simp_all),rfl⟩),sb h10] kr
     ·cases h11:a==-1
      ·cases h12:IntKind.i64.wrap ((IntKind.i64.wrap (a * b)).tdiv b) != a
       ·exact wk At.arith_Multiply [sg h1,sb h2,sg h3,sg h8,sg h9,sb h11,si (e:=IntKind.i64.wrap (a * b)) rfl,sx (.i (IntKind.i64.wrap ((IntKind.i64.wrap (a * b)).tdiv b))) (show b≠(0:Int)∧(IntKind.i64.wrap ((IntKind.i64.wrap (a * b)).tdiv b):Int)=IntKind.i64.wrap ((IntKind.i64.wrap (a * b)).tdiv b) from ⟨(by simp_all),rfl⟩),sb h12] kr
       ·exact wk At.arith_Multiply [sg h1,sb h2,sg h3,sg h8,sg h9,sb h11,si (e:=IntKind.i64.wrap (a * b)) rfl,sx (.i (IntKind.i64.wrap ((IntKind.i64.wrap (a * b)).tdiv b))) (show b≠(0:Int)∧(IntKind.i64.wrap ((IntKind.i64.wrap (a * b)).tdiv b):Int)=IntKind.i64.wrap ((IntKind.i64.wrap (a * b)).tdiv b) from ⟨(by simp_all),rfl⟩),sb h12] kr
      ·exact wk At.arith_Multiply [sg h1,sb h2,sg h3,sg h8,sg h9,sb h11] kr
    ·exact wk At.arith_Multiply [sg h1,sb h2,sg h3,sb h8] kr
  ·exact wk At.arith_Multiply [sg h1,sb h2] kr
 ·exact wk At.arith_Multiply [sb h1] kr
def aDiv (a b:Int):Int × Bool :=
 bif b==0 then
  (0,false)
 else
  bif a==-9223372036854775808 then
   bif b==-1 then
    (0,false)
   else
    (IntKind.i64.wrap (a.tdiv b),true)
  else
   (IntKind.i64.wrap (a.tdiv b),true)
theorem ziA (a b:Int) :zaa E0 S.arith_Divide [iv a,iv b] [] (.tup [iv (aDiv a b).1,bv (aDiv a b).2]) []:=by
 unfold aDiv
 cases h1:b==0
 ·cases h2:a==-9223372036854775808
  ·exact wk At.arith_Divide [sg h1,sb h2,sx (.i (IntKind.i64.wrap (a.tdiv b))) (show b≠(0:Int)∧(IntKind.i64.wrap (a.tdiv b):Int)=IntKind.i64.wrap (a.tdiv b) from ⟨(by simp_all),rfl⟩)] kr
  ·cases h3:b==-1
   ·exact wk At.arith_Divide [sg h1,sg h2,sb h3,sx (.i (IntKind.i64.wrap (a.tdiv b))) (show b≠(0:Int)∧(IntKind.i64.wrap (a.tdiv b):Int)=IntKind.i64.wrap (a.tdiv b) from ⟨(by simp_all),rfl⟩)] kr
   ·exact wk At.arith_Divide [sg h1,sg h2,sb h3] kr
 ·exact wk At.arith_Divide [sb h1] kr
def aMod (a b:Int):Int × Bool :=
 bif b==0 then
  (0,false)
 else
  bif b==-1 then
   (0,true)
  else
   (a.tmod b,true)
theorem ziE (a b:Int) :zaa E0 S.arith_Modulo [iv a,iv b] [] (.tup [iv (aMod a b).1,bv (aMod a b).2]) []:=by
 unfold aMod
 cases h1:b==0
 ·cases h2:b==-1
  ·exact wk At.arith_Modulo [sb h1,sb h2,sx (.i (a.tmod b)) (show b≠(0:Int)∧(a.tmod b:Int)=a.tmod b from ⟨(by simp_all),rfl⟩)] kr
  ·exact wk At.arith_Modulo [sb h1,sb h2] kr
 ·exact wk At.arith_Modulo [sb h1] kr
def zc3 (v:V) (ok:Bool):V × Int :=
 bif !ok then
  (V.mk 0 0 (ByteArray.mk #[]),5)
 else
  (v,0)
theorem zdd (v:V) (ok:Bool) :zaa E0 S.evaluate_truth [v.av,bv ok] [] (.tup [(zc3 v ok).1.av,iv (zc3 v ok).2]) []:=by
 unfold zc3
 cases h1:!ok
 ·exact wk At.evaluate_truth [sb h1] kr
 ·exact wk At.evaluate_truth [sb h1] kr
def zo7 (op c:Int):Bool:=bif op==3 then c==0 else bif op==4 then c != 0 else bif op==5 then decide (c < 0) else bif op==6 then decide (c≤0) else bif op==7 then decide (0 < c) else decide (0≤c)
abbrev CmpArr (op c:Int):Prop:=ArrAt [.bl false,.bl false,.bl false,bv (c==0),bv (c != 0),bv (decide (c < 0)),bv (decide (c≤0)),bv (decide (0 < c)),bv (decide (0≤c))] op 9 [bv (zo7 op c)] 1
theorem ztB (op c:Int) (ho:3≤op∧op≤8):CmpArr op c:=by
 have h:op=3∨op=4∨op=5∨op=6∨op=7∨op=8:=by omega
 rcases h with rfl|rfl|rfl|rfl|rfl|rfl <;> exact ⟨by decide,by decide,rfl,rfl⟩
def vCmp (op:Int) (a b:V):V × Int :=
 bif a.kind==0 then
  (V.mk 0 0 (ByteArray.mk #[]),0)
 else
  bif b.kind==0 then
   (V.mk 0 0 (ByteArray.mk #[]),0)
  else
   bif a.kind != b.kind then
    (V.mk 0 0 (ByteArray.mk #[]),5)
   else
    (V.mk 2 (if zo7 op (cmpV a b)=true then 1 else 0) (ByteArray.mk #[]),0)
theorem zbB (op:Int) (a b:V) (he:ArrAt [.bl false,.bl false,.bl false,bv (cmpV a b==0),bv (cmpV a b != 0),bv (decide (cmpV a b < 0)),bv (decide (cmpV a b≤0)),bv (decide (0 < cmpV a b)),bv (decide (0≤cmpV a b))] op 9 [bv (zo7 op (cmpV a b))] 1):zaa E0 S.evaluate_comparison [iv op,a.av,b.av] [] (.tup [(vCmp op a b).1.av,iv (vCmp op a b).2]) []:=by
 unfold vCmp
 cases h1:a.kind==0
 ·cases h2:b.kind==0
  ·cases h3:a.kind != b.kind
   ·exact wk At.evaluate_comparison [sc (zae a),sg h1,sc (zae b),sb h2,sb h3,sc (zcN a b),sa he,sc (zbu (zo7 op (cmpV a b)))] kr
   ·exact wk At.evaluate_comparison [sc (zae a),sg h1,sc (zae b),sb h2,sb h3] kr
  ·exact wk At.evaluate_comparison [sc (zae a),sg h1,sc (zae b),sb h2] kr
 ·exact wk At.evaluate_comparison [sc (zae a),sb h1] kr
def zfc (op:Int) (a b:V):V × Int :=
 bif a.kind==0 then
  (V.mk 0 0 (ByteArray.mk #[]),0)
 else
  bif b.kind==0 then
   (V.mk 0 0 (ByteArray.mk #[]),0)
  else
   bif a.kind != 1 then
    (V.mk 0 0 (ByteArray.mk #[]),5)
   else
    bif b.kind != 1 then
     (V.mk 0 0 (ByteArray.mk #[]),5)
    else
     bif op==12 then
      bif b.int==0 then
       (V.mk 0 0 (ByteArray.mk #[]),7)
      else
       bif op==9 then
        bif !(aAdd a.int b.int).snd then
         (V.mk 0 0 (ByteArray.mk #[]),6)
        else
         (V.mk 1 (aAdd a.int b.int).fst (ByteArray.mk #[]),0)
       else
        bif op==10 then
         bif !(aSub a.int b.int).snd then
          (V.mk 0 0 (ByteArray.mk #[]),6)
         else
          (V.mk 1 (aSub a.int b.int).fst (ByteArray.mk #[]),0)
        else
         bif op==11 then
          bif !(aMul a.int b.int).snd then
           (V.mk 0 0 (ByteArray.mk #[]),6)
          else
           (V.mk 1 (aMul a.int b.int).fst (ByteArray.mk #[]),0)
         else
          bif !(aDiv a.int b.int).snd then
           (V.mk 0 0 (ByteArray.mk #[]),6)
          else
           (V.mk 1 (aDiv a.int b.int).fst (ByteArray.mk #[]),0)
     else
      bif op==13 then
       bif b.int==0 then
        (V.mk 0 0 (ByteArray.mk #[]),7)
       else
        bif op==9 then
         bif !(aAdd a.int b.int).snd then
          (V.mk 0 0 (ByteArray.mk #[]),6)
         else
          (V.mk 1 (aAdd a.int b.int).fst (ByteArray.mk #[]),0)
        else
         bif op==10 then
          bif !(aSub a.int b.int).snd then
           (V.mk 0 0 (ByteArray.mk #[]),6)
          else
           (V.mk 1 (aSub a.int b.int).fst (ByteArray.mk #[]),0)
         else
          bif op==11 then
           bif !(aMul a.int b.int).snd then
            (V.mk 0 0 (ByteArray.mk #[]),6)
           else
            (V.mk 1 (aMul a.int b.int).fst (ByteArray.mk #[]),0)
          else
           bif !(aMod a.int b.int).snd then
            (V.mk 0 0 (ByteArray.mk #[]),6)
           else
            (V.mk 1 (aMod a.int b.int).fst (ByteArray.mk #[]),0)
      else
       bif op==9 then
        bif !(aAdd a.int b.int).snd then
         (V.mk 0 0 (ByteArray.mk #[]),6)
        else
         (V.mk 1 (aAdd a.int b.int).fst (ByteArray.mk #[]),0)
       else
        bif op==10 then
         bif !(aSub a.int b.int).snd then
          (V.mk 0 0 (ByteArray.mk #[]),6)
         else
          (V.mk 1 (aSub a.int b.int).fst (ByteArray.mk #[]),0)
        else
         bif op==11 then
          bif !(aMul a.int b.int).snd then
           (V.mk 0 0 (ByteArray.mk #[]),6)
          else
           (V.mk 1 (aMul a.int b.int).fst (ByteArray.mk #[]),0)
         else
          (V.mk 0 0 (ByteArray.mk #[]),6)
theorem zeq (op:Int) (a b:V) :zaa E0 S.evaluate_arithmetic [iv op,a.av,b.av] [] (.tup [(zfc op a b).1.av,iv (zfc op a b).2]) []:=by
 unfold zfc
 cases h1:a.kind==0
 ·cases h2:b.kind==0
  ·cases h3:a.kind != 1
   ·cases h4:b.kind != 1
    ·cases h5:op==12
     ·cases h6:op==13
      ·cases h7:op==9
       ·cases h8:op==10
        ·cases h9:op==11
         ·exact wk At.evaluate_arithmetic [sc (zae a),sg h1,sc (zae b),sb h2,sg h3,sb h4,sg h5,sb h6,sb h7,sb h8,sb h9,sb h5,sb h6] kr
         ·cases h10:!(aMul a.int b.int).snd
          ·exact wk At.evaluate_arithmetic [sc (zae a),sg h1,sc (zae b),sb h2,sg h3,sb h4,sg h5,sb h6,sb h7,sb h8,sb h9,sc (zce a.int b.int),sb h10,sc (za1 ((aMul a.int b.int).fst))] kr
          ·exact wk At.evaluate_arithmetic [sc (zae a),sg h1,sc (zae b),sb h2,sg h3,sb h4,sg h5,sb h6,sb h7,sb h8,sb h9,sc (zce a.int b.int),sb h10] kr
        ·cases h11:!(aSub a.int b.int).snd
         ·exact wk At.evaluate_arithmetic [sc (zae a),sg h1,sc (zae b),sb h2,sg h3,sb h4,sg h5,sb h6,sb h7,sb h8,sc (zcf a.int b.int),sb h11,sc (za1 ((aSub a.int b.int).fst))] kr
         ·exact wk At.evaluate_arithmetic [sc (zae a),sg h1,sc (zae b),sb h2,sg h3,sb h4,sg h5,sb h6,sb h7,sb h8,sc (zcf a.int b.int),sb h11] kr
       ·cases h12:!(aAdd a.int b.int).snd
        ·exact wk At.evaluate_arithmetic [sc (zae a),sg h1,sc (zae b),sb h2,sg h3,sb h4,sg h5,sb h6,sb h7,sc (zdm a.int b.int),sb h12,sc (za1 ((aAdd a.int b.int).fst))] kr
        ·exact wk At.evaluate_arithmetic [sc (zae a),sg h1,sc (zae b),sb h2,sg h3,sb h4,sg h5,sb h6,sb h7,sc (zdm a.int b.int),sb h12] kr
      ·cases h13:b.int==0
       ·cases h14:op==9
        ·cases h15:op==10
         ·cases h16:op==11
          ·cases h17:!(aMod a.int b.int).snd
           ·exact wk At.evaluate_arithmetic [sc (zae a),sg h1,sc (zae b),sb h2,sg h3,sb h4,sg h5,sg h6,sb h13,sb h14,sb h15,sb h16,sb h5,sb h6,sc (ziE a.int b.int),sb h17,sc (za1 ((aMod a.int b.int).fst))] kr
           ·exact wk At.evaluate_arithmetic [sc (zae a),sg h1,sc (zae b),sb h2,sg h3,sb h4,sg h5,sg h6,sb h13,sb h14,sb h15,sb h16,sb h5,sb h6,sc (ziE a.int b.int),sb h17] kr
          ·cases h18:!(aMul a.int b.int).snd
           ·exact wk At.evaluate_arithmetic [sc (zae a),sg h1,sc (zae b),sb h2,sg h3,sb h4,sg h5,sg h6,sb h13,sb h14,sb h15,sb h16,sc (zce a.int b.int),sb h18,sc (za1 ((aMul a.int b.int).fst))] kr
           ·exact wk At.evaluate_arithmetic [sc (zae a),sg h1,sc (zae b),sb h2,sg h3,sb h4,sg h5,sg h6,sb h13,sb h14,sb h15,sb h16,sc (zce a.int b.int),sb h18] kr
         ·cases h19:!(aSub a.int b.int).snd
          ·exact wk At.evaluate_arithmetic [sc (zae a),sg h1,sc (zae b),sb h2,sg h3,sb h4,sg h5,sg h6,sb h13,sb h14,sb h15,sc (zcf a.int b.int),sb h19,sc (za1 ((aSub a.int b.int).fst))] kr
          ·exact wk At.evaluate_arithmetic [sc (zae a),sg h1,sc (zae b),sb h2,sg h3,sb h4,sg h5,sg h6,sb h13,sb h14,sb h15,sc (zcf a.int b.int),sb h19] kr
        ·cases h20:!(aAdd a.int b.int).snd
         ·exact wk At.evaluate_arithmetic [sc (zae a),sg h1,sc (zae b),sb h2,sg h3,sb h4,sg h5,sg h6,sb h13,sb h14,sc (zdm a.int b.int),sb h20,sc (za1 ((aAdd a.int b.int).fst))] kr
         ·exact wk At.evaluate_arithmetic [sc (zae a),sg h1,sc (zae b),sb h2,sg h3,sb h4,sg h5,sg h6,sb h13,sb h14,sc (zdm a.int b.int),sb h20] kr
       ·exact wk At.evaluate_arithmetic [sc (zae a),sg h1,sc (zae b),sb h2,sg h3,sb h4,sg h5,sg h6,sb h13] kr
     ·cases h21:b.int==0
      ·cases h22:op==9
       ·cases h23:op==10
        ·cases h24:op==11
         ·cases h25:!(aDiv a.int b.int).snd
          ·exact wk At.evaluate_arithmetic [sc (zae a),sg h1,sc (zae b),sb h2,sg h3,sb h4,sb h5,sb h21,sb h22,sb h23,sb h24,sb h5,sc (ziA a.int b.int),sb h25,sc (za1 ((aDiv a.int b.int).fst))] kr
          ·exact wk At.evaluate_arithmetic [sc (zae a),sg h1,sc (zae b),sb h2,sg h3,sb h4,sb h5,sb h21,sb h22,sb h23,sb h24,sb h5,sc (ziA a.int b.int),sb h25] kr
         ·cases h26:!(aMul a.int b.int).snd
          ·exact wk At.evaluate_arithmetic [sc (zae a),sg h1,sc (zae b),sb h2,sg h3,sb h4,sb h5,sb h21,sb h22,sb h23,sb h24,sc (zce a.int b.int),sb h26,sc (za1 ((aMul a.int b.int).fst))] kr
          ·exact wk At.evaluate_arithmetic [sc (zae a),sg h1,sc (zae b),sb h2,sg h3,sb h4,sb h5,sb h21,sb h22,sb h23,sb h24,sc (zce a.int b.int),sb h26] kr
        ·cases h27:!(aSub a.int b.int).snd
         ·exact wk At.evaluate_arithmetic [sc (zae a),sg h1,sc (zae b),sb h2,sg h3,sb h4,sb h5,sb h21,sb h22,sb h23,sc (zcf a.int b.int),sb h27,sc (za1 ((aSub a.int b.int).fst))] kr
         ·exact wk At.evaluate_arithmetic [sc (zae a),sg h1,sc (zae b),sb h2,sg h3,sb h4,sb h5,sb h21,sb h22,sb h23,sc (zcf a.int b.int),sb h27] kr
       ·cases h28:!(aAdd a.int b.int).snd
        ·exact wk At.evaluate_arithmetic [sc (zae a),sg h1,sc (zae b),sb h2,sg h3,sb h4,sb h5,sb h21,sb h22,sc (zdm a.int b.int),sb h28,sc (za1 ((aAdd a.int b.int).fst))] kr
        ·exact wk At.evaluate_arithmetic [sc (zae a),sg h1,sc (zae b),sb h2,sg h3,sb h4,sb h5,sb h21,sb h22,sc (zdm a.int b.int),sb h28] kr
      ·exact wk At.evaluate_arithmetic [sc (zae a),sg h1,sc (zae b),sb h2,sg h3,sb h4,sb h5,sb h21] kr
    ·exact wk At.evaluate_arithmetic [sc (zae a),sg h1,sc (zae b),sb h2,sg h3,sb h4] kr
   ·exact wk At.evaluate_arithmetic [sc (zae a),sg h1,sc (zae b),sb h2,sb h3] kr
  ·exact wk At.evaluate_arithmetic [sc (zae a),sg h1,sc (zae b),sb h2] kr
 ·exact wk At.evaluate_arithmetic [sc (zae a),sb h1] kr
theorem zsG (op:Int) (a b:V):(vCmp op a b).1.small:=by
 unfold vCmp;repeat' (first|apply zrp|exact ziq)
def zft (x y z:V):V × Int :=
 bif (vCmp 6 y x).snd != 0 then
  (V.mk 0 0 (ByteArray.mk #[]),(vCmp 6 y x).snd)
 else
  bif (vCmp 6 x z).snd != 0 then
   (V.mk 0 0 (ByteArray.mk #[]),(vCmp 6 x z).snd)
  else
   ((zc3 (land (vCmp 6 y x).fst (vCmp 6 x z).fst).fst (land (vCmp 6 y x).fst (vCmp 6 x z).fst).snd).fst,(zc3 (land (vCmp 6 y x).fst (vCmp 6 x z).fst).fst (land (vCmp 6 y x).fst (vCmp 6 x z).fst).snd).snd)
theorem zkL (x y z:V) :zaa E0 S.evaluate_between [vsl [x,y,z]] [] (.tup [(zft x y z).1.av,iv (zft x y z).2]) []:=by
 unfold zft
 cases h1:(vCmp 6 y x).snd != 0
 ·cases h2:(vCmp 6 x z).snd != 0
  ·exact wk At.evaluate_between [sdm [(1,[se (xs:=[[iv x.kind,iv x.int,sv x.text],[iv y.kind,iv y.int,sv y.text],[iv z.kind,iv z.int,sv z.text]]) (i:=1) (c:=[iv y.kind,iv y.int,sv y.text]) (n:=3) ⟨by decide,rfl,rfl⟩]),(4,[se (xs:=[[iv x.kind,iv x.int,sv x.text],[iv y.kind,iv y.int,sv y.text],[iv z.kind,iv z.int,sv z.text]]) (i:=0) (c:=[iv x.kind,iv x.int,sv x.text]) (n:=3) ⟨by decide,rfl,rfl⟩]),(6,[sc (zbB 6 y x ziK)])] 0 [(0,AV.sl [[iv x.kind,iv x.int,sv x.text],[iv y.kind,iv y.int,sv y.text],[iv z.kind,iv z.int,sv z.text]]),(2,AV.p 0 0),(3,iv 0),(4,AV.p 1 0),(5,iv (vCmp 6 y x).snd),(7,AV.tup [AV.agg [iv (vCmp 6 y x).fst.kind,iv (vCmp 6 y x).fst.int,sv (vCmp 6 y x).fst.text],iv (vCmp 6 y x).snd]),(8,AV.sl [[iv x.kind,iv x.int,sv x.text],[iv y.kind,iv y.int,sv y.text],[iv z.kind,iv z.int,sv z.text]]),(9,AV.dp [iv y.kind,iv y.int,sv y.text]),(10,AV.agg [iv y.kind,iv y.int,sv y.text]),(11,AV.sl [[iv x.kind,iv x.int,sv x.text],[iv y.kind,iv y.int,sv y.text],[iv z.kind,iv z.int,sv z.text]]),(12,AV.dp [iv x.kind,iv x.int,sv x.text]),(13,AV.agg [iv x.kind,iv x.int,sv x.text]),(14,AV.tup [AV.agg [iv (vCmp 6 y x).fst.kind,iv (vCmp 6 y x).fst.int,sv (vCmp 6 y x).fst.text],iv (vCmp 6 y x).snd]),(15,AV.agg [iv (vCmp 6 y x).fst.kind,iv (vCmp 6 y x).fst.int,sv (vCmp 6 y x).fst.text]),(16,iv (vCmp 6 y x).snd)] [Blk.box [iv 0,iv 0,sv (ByteArray.mk #[])],Blk.box [iv (vCmp 6 y x).fst.kind,iv (vCmp 6 y x).fst.int,sv (vCmp 6 y x).fst.text]],sb h1,sdm [(1,[se (xs:=[[iv x.kind,iv x.int,sv x.text],[iv y.kind,iv y.int,sv y.text],[iv z.kind,iv z.int,sv z.text]]) (i:=0) (c:=[iv x.kind,iv x.int,sv x.text]) (n:=3) ⟨by decide,rfl,rfl⟩]),(4,[se (xs:=[[iv x.kind,iv x.int,sv x.text],[iv y.kind,iv y.int,sv y.text],[iv z.kind,iv z.int,sv z.text]]) (i:=2) (c:=[iv z.kind,iv z.int,sv z.text]) (n:=3) ⟨by decide,rfl,rfl⟩]),(6,[sc (zbB 6 x z ziK)])] 0 [(0,AV.sl [[iv x.kind,iv x.int,sv x.text],[iv y.kind,iv y.int,sv y.text],[iv z.kind,iv z.int,sv z.text]]),(2,AV.p 0 0),(3,iv 0),(4,AV.p 1 0),(5,iv (vCmp 6 x z).snd),(6,AV.p 2 0),(7,AV.tup [AV.agg [iv (vCmp 6 y x).fst.kind,iv (vCmp 6 y x).fst.int,sv (vCmp 6 y x).fst.text],iv (vCmp 6 y x).snd]),(8,AV.sl [[iv x.kind,iv x.int,sv x.text],[iv y.kind,iv y.int,sv y.text],[iv z.kind,iv z.int,sv z.text]]),(9,AV.dp [iv y.kind,iv y.int,sv y.text]),(10,AV.agg [iv y.kind,iv y.int,sv y.text]),(11,AV.sl [[iv x.kind,iv x.int,sv x.text],[iv y.kind,iv y.int,sv y.text],[iv z.kind,iv z.int,sv z.text]]),(12,AV.dp [iv x.kind,iv x.int,sv x.text]),(13,AV.agg [iv x.kind,iv x.int,sv x.text]),(14,AV.tup [AV.agg [iv (vCmp 6 y x).fst.kind,iv (vCmp 6 y x).fst.int,sv (vCmp 6 y x).fst.text],iv (vCmp 6 y x).snd]),(15,AV.agg [iv (vCmp 6 y x).fst.kind,iv (vCmp 6 y x).fst.int,sv (vCmp 6 y x).fst.text]),(16,iv (vCmp 6 y x).snd),(17,iv (vCmp 6 y x).snd),(18,AV.bl false),(21,AV.tup [AV.agg [iv (vCmp 6 x z).fst.kind,iv (vCmp 6 x z).fst.int,sv (vCmp 6 x z).fst.text],iv (vCmp 6 x z).snd]),(22,AV.sl [[iv x.kind,iv x.int,sv x.text],[iv y.kind,iv y.int,sv y.text],[iv z.kind,iv z.int,sv z.text]]),(23,AV.dp [iv x.kind,iv x.int,sv x.text]),(24,AV.agg [iv x.kind,iv x.int,sv x.text]),(25,AV.sl [[iv x.kind,iv x.int,sv x.text],[iv y.kind,iv y.int,sv y.text],[iv z.kind,iv z.int,sv z.text]]),(26,AV.dp [iv z.kind,iv z.int,sv z.text]),(27,AV.agg [iv z.kind,iv z.int,sv z.text]),(28,AV.tup [AV.agg [iv (vCmp 6 x z).fst.kind,iv (vCmp 6 x z).fst.int,sv (vCmp 6 x z).fst.text],iv (vCmp 6 x z).snd]),(29,AV.agg [iv (vCmp 6 x z).fst.kind,iv (vCmp 6 x z).fst.int,sv (vCmp 6 x z).fst.text]),(30,iv (vCmp 6 x z).snd)] [Blk.box [iv 0,iv 0,sv (ByteArray.mk #[])],Blk.box [iv (vCmp 6 y x).fst.kind,iv (vCmp 6 y x).fst.int,sv (vCmp 6 y x).fst.text],Blk.box [iv (vCmp 6 x z).fst.kind,iv (vCmp 6 x z).fst.int,sv (vCmp 6 x z).fst.text]],sb h2,sc (zlL ((vCmp 6 y x).fst) ((vCmp 6 x z).fst) ziK ziK),sc (zdd ((land (vCmp 6 y x).fst (vCmp 6 x z).fst).fst) ((land (vCmp 6 y x).fst (vCmp 6 x z).fst).snd))] kr
  ·exact wk At.evaluate_between [sdm [(1,[se (xs:=[[iv x.kind,iv x.int,sv x.text],[iv y.kind,iv y.int,sv y.text],[iv z.kind,iv z.int,sv z.text]]) (i:=1) (c:=[iv y.kind,iv y.int,sv y.text]) (n:=3) ⟨by decide,rfl,rfl⟩]),(4,[se (xs:=[[iv x.kind,iv x.int,sv x.text],[iv y.kind,iv y.int,sv y.text],[iv z.kind,iv z.int,sv z.text]]) (i:=0) (c:=[iv x.kind,iv x.int,sv x.text]) (n:=3) ⟨by decide,rfl,rfl⟩]),(6,[sc (zbB 6 y x ziK)])] 0 [(0,AV.sl [[iv x.kind,iv x.int,sv x.text],[iv y.kind,iv y.int,sv y.text],[iv z.kind,iv z.int,sv z.text]]),(2,AV.p 0 0),(3,iv 0),(4,AV.p 1 0),(5,iv (vCmp 6 y x).snd),(7,AV.tup [AV.agg [iv (vCmp 6 y x).fst.kind,iv (vCmp 6 y x).fst.int,sv (vCmp 6 y x).fst.text],iv (vCmp 6 y x).snd]),(8,AV.sl [[iv x.kind,iv x.int,sv x.text],[iv y.kind,iv y.int,sv y.text],[iv z.kind,iv z.int,sv z.text]]),(9,AV.dp [iv y.kind,iv y.int,sv y.text]),(10,AV.agg [iv y.kind,iv y.int,sv y.text]),(11,AV.sl [[iv x.kind,iv x.int,sv x.text],[iv y.kind,iv y.int,sv y.text],[iv z.kind,iv z.int,sv z.text]]),(12,AV.dp [iv x.kind,iv x.int,sv x.text]),(13,AV.agg [iv x.kind,iv x.int,sv x.text]),(14,AV.tup [AV.agg [iv (vCmp 6 y x).fst.kind,iv (vCmp 6 y x).fst.int,sv (vCmp 6 y x).fst.text],iv (vCmp 6 y x).snd]),(15,AV.agg [iv (vCmp 6 y x).fst.kind,iv (vCmp 6 y x).fst.int,sv (vCmp 6 y x).fst.text]),(16,iv (vCmp 6 y x).snd)] [Blk.box [iv 0,iv 0,sv (ByteArray.mk #[])],Blk.box [iv (vCmp 6 y x).fst.kind,iv (vCmp 6 y x).fst.int,sv (vCmp 6 y x).fst.text]],sb h1,sdm [(1,[se (xs:=[[iv x.kind,iv x.int,sv x.text],[iv y.kind,iv y.int,sv y.text],[iv z.kind,iv z.int,sv z.text]]) (i:=0) (c:=[iv x.kind,iv x.int,sv x.text]) (n:=3) ⟨by decide,rfl,rfl⟩]),(4,[se (xs:=[[iv x.kind,iv x.int,sv x.text],[iv y.kind,iv y.int,sv y.text],[iv z.kind,iv z.int,sv z.text]]) (i:=2) (c:=[iv z.kind,iv z.int,sv z.text]) (n:=3) ⟨by decide,rfl,rfl⟩]),(6,[sc (zbB 6 x z ziK)])] 0 [(0,AV.sl [[iv x.kind,iv x.int,sv x.text],[iv y.kind,iv y.int,sv y.text],[iv z.kind,iv z.int,sv z.text]]),(2,AV.p 0 0),(3,iv 0),(4,AV.p 1 0),(5,iv (vCmp 6 x z).snd),(6,AV.p 2 0),(7,AV.tup [AV.agg [iv (vCmp 6 y x).fst.kind,iv (vCmp 6 y x).fst.int,sv (vCmp 6 y x).fst.text],iv (vCmp 6 y x).snd]),(8,AV.sl [[iv x.kind,iv x.int,sv x.text],[iv y.kind,iv y.int,sv y.text],[iv z.kind,iv z.int,sv z.text]]),(9,AV.dp [iv y.kind,iv y.int,sv y.text]),(10,AV.agg [iv y.kind,iv y.int,sv y.text]),(11,AV.sl [[iv x.kind,iv x.int,sv x.text],[iv y.kind,iv y.int,sv y.text],[iv z.kind,iv z.int,sv z.text]]),(12,AV.dp [iv x.kind,iv x.int,sv x.text]),(13,AV.agg [iv x.kind,iv x.int,sv x.text]),(14,AV.tup [AV.agg [iv (vCmp 6 y x).fst.kind,iv (vCmp 6 y x).fst.int,sv (vCmp 6 y x).fst.text],iv (vCmp 6 y x).snd]),(15,AV.agg [iv (vCmp 6 y x).fst.kind,iv (vCmp 6 y x).fst.int,sv (vCmp 6 y x).fst.text]),(16,iv (vCmp 6 y x).snd),(17,iv (vCmp 6 y x).snd),(18,AV.bl false),(21,AV.tup [AV.agg [iv (vCmp 6 x z).fst.kind,iv (vCmp 6 x z).fst.int,sv (vCmp 6 x z).fst.text],iv (vCmp 6 x z).snd]),(22,AV.sl [[iv x.kind,iv x.int,sv x.text],[iv y.kind,iv y.int,sv y.text],[iv z.kind,iv z.int,sv z.text]]),(23,AV.dp [iv x.kind,iv x.int,sv x.text]),(24,AV.agg [iv x.kind,iv x.int,sv x.text]),(25,AV.sl [[iv x.kind,iv x.int,sv x.text],[iv y.kind,iv y.int,sv y.text],[iv z.kind,iv z.int,sv z.text]]),(26,AV.dp [iv z.kind,iv z.int,sv z.text]),(27,AV.agg [iv z.kind,iv z.int,sv z.text]),(28,AV.tup [AV.agg [iv (vCmp 6 x z).fst.kind,iv (vCmp 6 x z).fst.int,sv (vCmp 6 x z).fst.text],iv (vCmp 6 x z).snd]),(29,AV.agg [iv (vCmp 6 x z).fst.kind,iv (vCmp 6 x z).fst.int,sv (vCmp 6 x z).fst.text]),(30,iv (vCmp 6 x z).snd)] [Blk.box [iv 0,iv 0,sv (ByteArray.mk #[])],Blk.box [iv (vCmp 6 y x).fst.kind,iv (vCmp 6 y x).fst.int,sv (vCmp 6 y x).fst.text],Blk.box [iv (vCmp 6 x z).fst.kind,iv (vCmp 6 x z).fst.int,sv (vCmp 6 x z).fst.text]],sb h2] kr
 ·exact wk At.evaluate_between [sdm [(1,[se (xs:=[[iv x.kind,iv x.int,sv x.text],[iv y.kind,iv y.int,sv y.text],[iv z.kind,iv z.int,sv z.text]]) (i:=1) (c:=[iv y.kind,iv y.int,sv y.text]) (n:=3) ⟨by decide,rfl,rfl⟩]),(4,[se (xs:=[[iv x.kind,iv x.int,sv x.text],[iv y.kind,iv y.int,sv y.text],[iv z.kind,iv z.int,sv z.text]]) (i:=0) (c:=[iv x.kind,iv x.int,sv x.text]) (n:=3) ⟨by decide,rfl,rfl⟩]),(6,[sc (zbB 6 y x ziK)])] 0 [(0,AV.sl [[iv x.kind,iv x.int,sv x.text],[iv y.kind,iv y.int,sv y.text],[iv z.kind,iv z.int,sv z.text]]),(2,AV.p 0 0),(3,iv 0),(4,AV.p 1 0),(5,iv (vCmp 6 y x).snd),(7,AV.tup [AV.agg [iv (vCmp 6 y x).fst.kind,iv (vCmp 6 y x).fst.int,sv (vCmp 6 y x).fst.text],iv (vCmp 6 y x).snd]),(8,AV.sl [[iv x.kind,iv x.int,sv x.text],[iv y.kind,iv y.int,sv y.text],[iv z.kind,iv z.int,sv z.text]]),(9,AV.dp [iv y.kind,iv y.int,sv y.text]),(10,AV.agg [iv y.kind,iv y.int,sv y.text]),(11,AV.sl [[iv x.kind,iv x.int,sv x.text],[iv y.kind,iv y.int,sv y.text],[iv z.kind,iv z.int,sv z.text]]),(12,AV.dp [iv x.kind,iv x.int,sv x.text]),(13,AV.agg [iv x.kind,iv x.int,sv x.text]),(14,AV.tup [AV.agg [iv (vCmp 6 y x).fst.kind,iv (vCmp 6 y x).fst.int,sv (vCmp 6 y x).fst.text],iv (vCmp 6 y x).snd]),(15,AV.agg [iv (vCmp 6 y x).fst.kind,iv (vCmp 6 y x).fst.int,sv (vCmp 6 y x).fst.text]),(16,iv (vCmp 6 y x).snd)] [Blk.box [iv 0,iv 0,sv (ByteArray.mk #[])],Blk.box [iv (vCmp 6 y x).fst.kind,iv (vCmp 6 y x).fst.int,sv (vCmp 6 y x).fst.text]],sb h1] kr
def zlZ (op:Int) (nt:Bool) (a:V):V × Int :=
 (V.mk (2:Int) (if (!(a.kind==(0:Int))==nt)=true then (1:Int) else (0:Int)) (ByteArray.mk #[]),0)
theorem zfB (op:Int) (nt:Bool) (a:V) (val:V) (tn nm:Str) (xs:List X) (qs:List Qy) :zaa E0 S.evaluate_operation [X.av (.mk 6 op nt val tn nm xs qs),vsl [a]] [] (.tup [(zlZ op nt a).1.av,iv (zlZ op nt a).2]) []:=by
 exact wk At.evaluate_operation [sb (rfl:true=true),sd [(1,[se (xs:=[[iv a.kind,iv a.int,sv a.text]]) (i:=0) (c:=[iv a.kind,iv a.int,sv a.text]) (n:=3) ⟨by decide,rfl,rfl⟩]),(3,[sc (zae a)]),(7,[sc (zbu (!(a.kind==0)==nt))])]] kr
def ztl (op:Int) (nt:Bool) (a:V):V × Int :=
 ((zc3 (lnot a).fst (lnot a).snd).fst,(zc3 (lnot a).fst (lnot a).snd).snd)
theorem zgw (op:Int) (nt:Bool) (a:V) (val:V) (tn nm:Str) (xs:List X) (qs:List Qy) (ha:a.small):zaa E0 S.evaluate_operation [X.av (.mk 3 op nt val tn nm xs qs),vsl [a]] [] (.tup [(ztl op nt a).1.av,iv (ztl op nt a).2]) []:=by
 exact wk At.evaluate_operation [sb (rfl:false=false),sb (rfl:true=true),se (xs:=[[iv a.kind,iv a.int,sv a.text]]) (i:=0) (c:=[iv a.kind,iv a.int,sv a.text]) (n:=3) ⟨by decide,rfl,rfl⟩,sc (zfL a zlo),sc (zdd ((lnot a).fst) ((lnot a).snd))] kr
def zs1 (op:Int) (nt:Bool) (a:V):V × Int :=
 ((zfc 10 (V.mk 1 0 (ByteArray.mk #[])) a).fst,(zfc 10 (V.mk 1 0 (ByteArray.mk #[])) a).snd)
theorem zgn (op:Int) (nt:Bool) (a:V) (val:V) (tn nm:Str) (xs:List X) (qs:List Qy) :zaa E0 S.evaluate_operation [X.av (.mk 4 op nt val tn nm xs qs),vsl [a]] [] (.tup [(zs1 op nt a).1.av,iv (zs1 op nt a).2]) []:=by
 exact wk At.evaluate_operation [sb (rfl:false=false),sb (rfl:false=false),sb (rfl:false=false),sb (rfl:true=true),sd [(2,[se (xs:=[[iv a.kind,iv a.int,sv a.text]]) (i:=0) (c:=[iv a.kind,iv a.int,sv a.text]) (n:=3) ⟨by decide,rfl,rfl⟩]),(0,[sc (za1 0)]),(4,[sc (zeq 10 (V.mk 1 0 (ByteArray.mk #[])) a)])]] kr
def zoP (op:Int) (nt:Bool) (a b c:V):V × Int :=
 ((zft a b c).fst,(zft a b c).snd)
theorem zgk (op:Int) (nt:Bool) (a b c:V) (val:V) (tn nm:Str) (xs:List X) (qs:List Qy) :zaa E0 S.evaluate_operation [X.av (.mk 7 op nt val tn nm xs qs),vsl [a,b,c]] [] (.tup [(zoP op nt a b c).1.av,iv (zoP op nt a b c).2]) []:=by
 exact wk At.evaluate_operation [sb (rfl:false=false),sb (rfl:false=false),sb (rfl:true=true),sc (zkL a b c)] kr
def zmu (op:Int) (nt:Bool) (a b:V):V × Int :=
 bif op==2 then
  ((zc3 (land a b).fst (land a b).snd).fst,(zc3 (land a b).fst (land a b).snd).snd)
 else
  bif op==1 then
   ((zc3 (lor a b).fst (lor a b).snd).fst,(zc3 (lor a b).fst (lor a b).snd).snd)
  else
   bif decide (op≤8) then
    ((vCmp op a b).fst,(vCmp op a b).snd)
   else
    ((zfc op a b).fst,(zfc op a b).snd)
theorem zgu (op:Int) (nt:Bool) (a b:V) (val:V) (tn nm:Str) (xs:List X) (qs:List Qy) (ha:a.small) (hb:b.small) (ho:1≤op∧op≤13):zaa E0 S.evaluate_operation [X.av (.mk 5 op nt val tn nm xs qs),vsl [a,b]] [] (.tup [(zmu op nt a b).1.av,iv (zmu op nt a b).2]) []:=by
 unfold zmu
 cases h1:op==2
 ·cases h2:op==1
  ·cases h3:decide (op≤8)
   ·exact wk At.evaluate_operation [sb (rfl:false=false),sb (rfl:false=false),sb (rfl:false=false),sb (rfl:false=false),sb h1,sb h2,sb h3,sd [(3,[se (xs:=[[iv a.kind,iv a.int,sv a.text],[iv b.kind,iv b.int,sv b.text]]) (i:=0) (c:=[iv a.kind,iv a.int,sv a.text]) (n:=3) ⟨by decide,rfl,rfl⟩]),(6,[se (xs:=[[iv a.kind,iv a.int,sv a.text],[iv b.kind,iv b.int,sv b.text]]) (i:=1) (c:=[iv b.kind,iv b.int,sv b.text]) (n:=3) ⟨by decide,rfl,rfl⟩]),(8,[sc (zeq op a b)])]] kr
   ·exact wk At.evaluate_operation [sb (rfl:false=false),sb (rfl:false=false),sb (rfl:false=false),sb (rfl:false=false),sb h1,sb h2,sb h3,sd [(3,[se (xs:=[[iv a.kind,iv a.int,sv a.text],[iv b.kind,iv b.int,sv b.text]]) (i:=0) (c:=[iv a.kind,iv a.int,sv a.text]) (n:=3) ⟨by decide,rfl,rfl⟩]),(6,[se (xs:=[[iv a.kind,iv a.int,sv a.text],[iv b.kind,iv b.int,sv b.text]]) (i:=1) (c:=[iv b.kind,iv b.int,sv b.text]) (n:=3) ⟨by decide,rfl,rfl⟩]),(8,[sc (zbB op a b zlo)])]] kr
  ·exact wk At.evaluate_operation [sb (rfl:false=false),sb (rfl:false=false),sb (rfl:false=false),sb (rfl:false=false),sb h1,sb h2,sd [(1,[se (xs:=[[iv a.kind,iv a.int,sv a.text],[iv b.kind,iv b.int,sv b.text]]) (i:=0) (c:=[iv a.kind,iv a.int,sv a.text]) (n:=3) ⟨by decide,rfl,rfl⟩]),(4,[se (xs:=[[iv a.kind,iv a.int,sv a.text],[iv b.kind,iv b.int,sv b.text]]) (i:=1) (c:=[iv b.kind,iv b.int,sv b.text]) (n:=3) ⟨by decide,rfl,rfl⟩]),(6,[sc (zsm a b zlo zlo)]),(9,[sc (zdd ((lor a b).fst) ((lor a b).snd))])]] kr
 ·exact wk At.evaluate_operation [sb (rfl:false=false),sb (rfl:false=false),sb (rfl:false=false),sb (rfl:false=false),sb h1,sd [(1,[se (xs:=[[iv a.kind,iv a.int,sv a.text],[iv b.kind,iv b.int,sv b.text]]) (i:=0) (c:=[iv a.kind,iv a.int,sv a.text]) (n:=3) ⟨by decide,rfl,rfl⟩]),(4,[se (xs:=[[iv a.kind,iv a.int,sv a.text],[iv b.kind,iv b.int,sv b.text]]) (i:=1) (c:=[iv b.kind,iv b.int,sv b.text]) (n:=3) ⟨by decide,rfl,rfl⟩]),(6,[sc (zlL a b zlo zlo)]),(9,[sc (zdd ((land a b).fst) ((land a b).snd))])]] kr
end Go.AM
namespace Go.AM
set_option maxRecDepth 100000
set_option linter.unusedSimpArgs false
set_option linter.unusedVariables false
abbrev zac {α:Type} (l:List α):Prop:=l.length≤1000000000
def idxF {α:Type} (p:α→Bool):List α→Nat→Int
 | [],_=>-1
 | x::r,i=>bif p x then (i:Int) else idxF p r (i+1)
theorem zfA {α:Type} (p:α→Bool):∀ (l:List α) (i:Nat),(idxF p l i=-1∧l.find? p=none)∨∃ (j:Nat) (x:α),idxF p l i=((i+j:Nat):Int)∧l[j]?=some x∧l.find? p=some x
 | [],i=>.inl ⟨rfl,rfl⟩
 | x::r,i=>by
  cases hp:p x
  ·rcases zfA p r (i+1) with ⟨h1,h2⟩|⟨j,y,h1,h2,h3⟩
   ·exact .inl ⟨by simp [idxF,hp,h1],by simp [hp,h2]⟩
   ·exact .inr ⟨j+1,y,by simp only [idxF,hp,cond_false,h1];omega,by simpa using h2,by simp [hp,h3]⟩
  ·exact .inr ⟨0,x,by simp [idxF,hp],by simp,by simp [hp]⟩
def zaA (t:Tb) (n:Str):Bool :=
 ByteArray.toList t.sch.name==ByteArray.toList n
theorem zfW (t:Tb) (n:Str) :zaa E0 S.evaluate_find_c1 [t.av,.p 0 0] [.box [sv n]] (bv (zaA t n)) [.box [sv n]]:=by
 exact walkH E0ok mix0 At.evaluate_find_c1 rfl kr kr 3000 (y:=AV.v (Value.bool (ByteArray.toList t.sch.name==ByteArray.toList n))) (H:=[Blk.box [AV.v (Value.string n)]]) [] kr (⟨rfl,rfl⟩)
def colC (t:Col) (n:Str):Bool :=
 ByteArray.toList t.name==ByteArray.toList n
theorem zgY (t:Col) (n:Str) :zaa E0 S.schema_Find_c1 [.agg t.cells,.p 0 0] [.box [sv n]] (bv (colC t n)) [.box [sv n]]:=by
 exact walkH E0ok mix0 At.schema_Find_c1 rfl kr kr 3000 (y:=AV.v (Value.bool (ByteArray.toList t.name==ByteArray.toList n))) (H:=[Blk.box [AV.v (Value.string n)]]) [] kr (⟨rfl,rfl⟩)
noncomputable def zsE (tb:List Tb) (n:Str) (i:Nat):Cfg:=zal B.slices_IndexFunc_Table 0 [(0,.sl (tb.map Tb.cells)),(1,.fn S.evaluate_find_c1 [.p 0 0]),(7,iv ((tb.map Tb.cells).length:Nat)),(8,iv (i:Nat))] [.box [sv n]]
theorem zs9 (tb:List Tb) (n:Str) (hl:zac tb):∀ (k i:Nat),i+k=tb.length→Good E0 B.slices_IndexFunc_Table [.box [sv n]] (zsE tb n i) (Shut 1 fun r h=>r=iv (idxF (fun t=>zaA t n) (tb.drop i) i)∧h=[.box [sv n]]):=by
 intro k
 induction k with
 | zero =>
  intro i hi
  refine zab ?_
  have h0:decide ((i:Int) < (((tb.map Tb.cells).length:Nat):Int))=false:=by simp;omega
  have e0:tb.drop i=[]:=List.drop_of_length_le (by omega)
  rw [e0]
  exact zd9 E0ok mix0 3000 (y:=AV.v (Value.int IntKind.i64 (-1:Int))) (H:=[Blk.box [AV.v (Value.string n)]]) [sb h0] kr (⟨rfl,rfl⟩)
 | succ k ih =>
  intro i hi
  have ih:=ih (i+1) (by omega)
  obtain ⟨x,hx⟩:=zav (l:=tb) (i:=i) (by omega)
  have h0:decide ((i:Int) < (((tb.map Tb.cells).length:Nat):Int))=true:=by simp;omega
  have hw:=zak i (by omega)
  rw [zaR hx]
  simp only [idxF]
  refine zab ?_
  cases h1:zaA x n
  ·exact zcb E0ok mix0 3000 (c':=zsE tb n (i+(1:Nat))) [sb h0,se (zaf Tb.cells hx rfl),sl [(0:Nat)] (zfW x n),sb h1,si hw] [0,1,7,8] 1 kr kr (by simpa only [cond_true,cond_false,h1] using ih)
  ·exact zd9 E0ok mix0 3000 (y:=AV.v (Value.int IntKind.i64 (i:Int))) (H:=[Blk.box [AV.v (Value.string n)]]) [sb h0,se (zaf Tb.cells hx rfl),sl [(0:Nat)] (zfW x n),sb h1] kr (⟨by simp only [cond_true,cond_false,h1],rfl⟩)
theorem zdA (tb:List Tb) (n:Str) (hl:zac tb):zaa E0 S.slices_IndexFunc_Table [.sl (tb.map Tb.cells),.fn S.evaluate_find_c1 [.p 0 0]] [.box [sv n]] (iv (idxF (fun t=>zaA t n) tb 0)) [.box [sv n]]:=by
 exact zfo E0ok mix0 At.slices_IndexFunc_Table rfl kr kr 3000 (c':=zsE tb n (0:Nat)) [] [0,1,7,8] 1 kr kr (by simpa using zs9 tb n hl tb.length 0 (by simp))
noncomputable def zsf (tb:List Col) (n:Str) (i:Nat):Cfg:=zal B.slices_IndexFunc_Column 0 [(0,.sl (tb.map Col.cells)),(1,.fn S.schema_Find_c1 [.p 0 0]),(7,iv ((tb.map Col.cells).length:Nat)),(8,iv (i:Nat))] [.box [sv n]]
theorem ztf (tb:List Col) (n:Str) (hl:zac tb):∀ (k i:Nat),i+k=tb.length→Good E0 B.slices_IndexFunc_Column [.box [sv n]] (zsf tb n i) (Shut 1 fun r h=>r=iv (idxF (fun t=>colC t n) (tb.drop i) i)∧h=[.box [sv n]]):=by
 intro k
 induction k with
 | zero =>
  intro i hi
  refine zab ?_
  have h0:decide ((i:Int) < (((tb.map Col.cells).length:Nat):Int))=false:=by simp;omega
  have e0:tb.drop i=[]:=List.drop_of_length_le (by omega)
  rw [e0]
  exact zd9 E0ok mix0 3000 (y:=AV.v (Value.int IntKind.i64 (-1:Int))) (H:=[Blk.box [AV.v (Value.string n)]]) [sb h0] kr (⟨rfl,rfl⟩)
 | succ k ih =>
  intro i hi
  have ih:=ih (i+1) (by omega)
  obtain ⟨x,hx⟩:=zav (l:=tb) (i:=i) (by omega)
  have h0:decide ((i:Int) < (((tb.map Col.cells).length:Nat):Int))=true:=by simp;omega
  have hw:=zak i (by omega)
  rw [zaR hx]
  simp only [idxF]
  refine zab ?_
  cases h1:colC x n
  ·exact zcb E0ok mix0 3000 (c':=zsf tb n (i+(1:Nat))) [sb h0,se (zaf Col.cells hx rfl),sl [(0:Nat)] (zgY x n),sb h1,si hw] [0,1,7,8] 1 kr kr (by simpa only [cond_true,cond_false,h1] using ih)
  ·exact zd9 E0ok mix0 3000 (y:=AV.v (Value.int IntKind.i64 (i:Int))) (H:=[Blk.box [AV.v (Value.string n)]]) [sb h0,se (zaf Col.cells hx rfl),sl [(0:Nat)] (zgY x n),sb h1] kr (⟨by simp only [cond_true,cond_false,h1],rfl⟩)
theorem zgr (tb:List Col) (n:Str) (hl:zac tb):zaa E0 S.slices_IndexFunc_Column [.sl (tb.map Col.cells),.fn S.schema_Find_c1 [.p 0 0]] [.box [sv n]] (iv (idxF (fun t=>colC t n) tb 0)) [.box [sv n]]:=by
 exact zfo E0ok mix0 At.slices_IndexFunc_Column rfl kr kr 3000 (c':=zsf tb n (0:Nat)) [] [0,1,7,8] 1 kr kr (by simpa using ztf tb n hl tb.length 0 (by simp))
def zbV (tb:List Tb) (n:Str):Option Tb:=tb.find? fun t=>zaA t n
theorem zj8 (tb:List Tb) (n:Str) (hl:zac tb) (t:Tb) (h:zbV tb n=some t):Pure S.evaluate_find [tsl tb,sv n] (.tup [t.av,bv true]):=by
 have hk:=zdA tb n hl
 rcases zfA (fun t=>zaA t n) tb 0 with ⟨_,h2⟩|⟨j,y,h1,hx,h3⟩
 ·rw [zbV,h2] at h;cases h
 rw [zbV,h3] at h
 cases h
 rw [Nat.zero_add] at h1
 rw [h1] at hk
 have h4:decide (((j:Nat):Int) < 0)=false:=by simp
 exact walk E0ok mix0 At.evaluate_find rfl kr kr 3000 (y:=AV.tup [AV.agg [AV.v (Value.string t.sch.name),AV.sl (List.map Col.cells t.sch.cols),AV.v (Value.int IntKind.i64 t.next),AV.sl (List.map Rw.cells t.rows)],AV.v (Value.bool true)]) [sl [(0:Nat)] (hk ),sb (rfl:false=false),se (zaf Tb.cells hx rfl)] kr (rfl)
def Tb.zero:Tb:=⟨⟨⟨#[]⟩,[]⟩,0,[]⟩
theorem zj2 (tb:List Tb) (n:Str) (hl:zac tb) (h:zbV tb n=none):Pure S.evaluate_find [tsl tb,sv n] (.tup [Tb.zero.av,bv false]):=by
 have hk:=zdA tb n hl
 rcases zfA (fun t=>zaA t n) tb 0 with ⟨h1,_⟩|⟨j,y,h1,hx,h3⟩
 ·rw [h1] at hk
  exact walk E0ok mix0 At.evaluate_find rfl kr kr 3000 (y:=AV.tup [AV.agg [AV.v (Value.string (ByteArray.mk #[])),AV.sl [],AV.v (Value.int IntKind.i64 (0:Int)),AV.sl []],AV.v (Value.bool false)]) [sl [(0:Nat)] (hk ),sb (rfl:true=true)] kr (rfl)
 ·rw [zbV,h3] at h;cases h
theorem zbi (s:Sch) (n:Str) (hl:zac s.cols):Pure S.schema_Find [s.av,sv n] (iv (idxF (fun c=>colC c n) s.cols 0)):=by
 exact walk E0ok mix0 At.schema_Find rfl kr kr 3000 (y:=AV.v (Value.int IntKind.i64 (idxF (fun t=>colC t n) s.cols (0:Nat)))) [sl [(1:Nat)] (zgr s.cols n (by first|assumption|(simp;done)|omega|(simp;omega)))] kr (rfl)
def zay (kind op:Int) (xs:List X) (qs:List Qy) (it wh:List X):Bool :=
 bif kind==(1:Int) then
  bif (↑(zad xs).length:Int) != (0:Int) then
   false
  else
   bif (↑(zag qs).length:Int) != (0:Int) then
    false
   else
    true
 else
  bif kind==(2:Int) then
   bif (↑(zad xs).length:Int) != (0:Int) then
    false
   else
    bif (↑(zag qs).length:Int) != (0:Int) then
     false
    else
     true
  else
   bif kind==(3:Int) then
    bif (↑(zad xs).length:Int) != (1:Int) then
     false
    else
     bif (↑(zag qs).length:Int) != (0:Int) then
      false
     else
      true
   else
    bif kind==(4:Int) then
     bif (↑(zad xs).length:Int) != (1:Int) then
      false
     else
      bif (↑(zag qs).length:Int) != (0:Int) then
       false
      else
       true
    else
     bif kind==(6:Int) then
      bif (↑(zad xs).length:Int) != (1:Int) then
       false
      else
       bif (↑(zag qs).length:Int) != (0:Int) then
        false
       else
        true
     else
      bif kind==(5:Int) then
       bif decide (op < (1:Int)) then
        false
       else
        bif decide ((13:Int) < op) then
         false
        else
         bif (↑(zad xs).length:Int) != (2:Int) then
          false
         else
          bif (↑(zag qs).length:Int) != (0:Int) then
           false
          else
           true
      else
       bif kind==(7:Int) then
        bif (↑(zad xs).length:Int) != (3:Int) then
         false
        else
         bif (↑(zag qs).length:Int) != (0:Int) then
          false
         else
          true
       else
        bif kind==(8:Int) then
         bif (↑(zad xs).length:Int) != (0:Int) then
          false
         else
          bif (↑(zag qs).length:Int) != (1:Int) then
           false
          else
           bif (↑(zad it).length:Int)==(0:Int) then
            decide ((↑(zad wh).length:Int)≤(1:Int))
           else
            false
        else
         bif kind==(9:Int) then
          bif (↑(zad xs).length:Int) != (0:Int) then
           false
          else
           bif (↑(zag qs).length:Int) != (1:Int) then
            false
           else
            bif (↑(zad it).length:Int)==(0:Int) then
             decide ((↑(zad wh).length:Int)≤(1:Int))
            else
             false
         else
          bif kind==(10:Int) then
           bif (↑(zad xs).length:Int) != (0:Int) then
            false
           else
            bif (↑(zag qs).length:Int) != (1:Int) then
             false
            else
             bif (↑(zad it).length:Int)==(1:Int) then
              decide ((↑(zad wh).length:Int)≤(1:Int))
             else
              false
          else
           bif kind==(11:Int) then
            bif (↑(zad xs).length:Int) != (0:Int) then
             false
            else
             bif (↑(zag qs).length:Int) != (1:Int) then
              false
             else
              bif (↑(zad it).length:Int)==(1:Int) then
               decide ((↑(zad wh).length:Int)≤(1:Int))
              else
               false
           else
            bif kind==(12:Int) then
             bif (↑(zad xs).length:Int) != (0:Int) then
              false
             else
              bif (↑(zag qs).length:Int) != (1:Int) then
               false
              else
               bif (↑(zad it).length:Int)==(1:Int) then
                decide ((↑(zad wh).length:Int)≤(1:Int))
               else
                false
            else
             false
theorem zlx (kind op:Int) (xs:List X) (qs:List Qy) (it wh:List X) (nt:Bool) (val:V) (tn nm:Str) (st:Bool) (fm:Str) (hq:qs[0]?=some (Qy.mk st it fm wh)):zaa E0 S.scope_Formed [X.av (.mk kind op nt val tn nm xs qs)] [] (bv (zay kind op xs qs it wh)) []:=by
 cases h1:kind==(1:Int)
 ·cases h2:kind==(2:Int)
  ·cases h3:kind==(3:Int)
   ·cases h4:kind==(4:Int)
    ·cases h5:kind==(6:Int)
     ·cases h6:kind==(5:Int)
      ·cases h7:kind==(7:Int)
       ·cases h8:kind==(8:Int)
        ·cases h9:kind==(9:Int)
         ·cases h10:kind==(10:Int)
          ·cases h11:kind==(11:Int)
           ·cases h12:kind==(12:Int)
            ·exact walk E0ok mix0 At.scope_Formed rfl kr kr 3000 (y:=AV.v (Value.bool false)) [sb h1,sb h2,sb h3,sb h4,sb h5,sb h6,sb h7,sb h8,sb h9,sb h10,sb h11,sb h12] kr (by simp only [zay,cond_true,cond_false,h1,h2,h3,h4,h5,h6,h7,h8,h9,h10,h11,h12] <;> rfl)
            ·cases h13:(↑(zad xs).length:Int) != (0:Int)
             ·cases h14:(↑(zag qs).length:Int) != (1:Int)
              ·cases h15:(↑(zad it).length:Int)==(1:Int)
               ·exact walk E0ok mix0 At.scope_Formed rfl kr kr 3000 (y:=AV.v (Value.bool false)) [sb h1,sb h2,sb h3,sb h4,sb h5,sb h6,sb h7,sb h8,sb h9,sb h10,sb h11,sb h12,sg h13,sb h14,sg (rfl:false=false),se (zaV hq),sb h15] kr (by simp only [zay,cond_true,cond_false,h1,h2,h3,h4,h5,h6,h7,h8,h9,h10,h11,h12,h13,h14,h15] <;> rfl)
               ·exact walk E0ok mix0 At.scope_Formed rfl kr kr 3000 (y:=AV.v (Value.bool (decide ((↑(zad wh).length:Int)≤(1:Int))))) [sb h1,sb h2,sb h3,sb h4,sb h5,sb h6,sb h7,sb h8,sb h9,sb h10,sb h11,sb h12,sg h13,sb h14,sg (rfl:false=false),se (zaV hq),sg h15,se (zaV hq)] kr (by simp only [zay,cond_true,cond_false,h1,h2,h3,h4,h5,h6,h7,h8,h9,h10,h11,h12,h13,h14,h15] <;> rfl)
              ·exact walk E0ok mix0 At.scope_Formed rfl kr kr 3000 (y:=AV.v (Value.bool false)) [sb h1,sb h2,sb h3,sb h4,sb h5,sb h6,sb h7,sb h8,sb h9,sb h10,sb h11,sb h12,sg h13,sb h14] kr (by simp only [zay,cond_true,cond_false,h1,h2,h3,h4,h5,h6,h7,h8,h9,h10,h11,h12,h13,h14] <;> rfl)
             ·exact walk E0ok mix0 At.scope_Formed rfl kr kr 3000 (y:=AV.v (Value.bool false)) [sb h1,sb h2,sb h3,sb h4,sb h5,sb h6,sb h7,sb h8,sb h9,sb h10,sb h11,sb h12,sb h13] kr (by simp only [zay,cond_true,cond_false,h1,h2,h3,h4,h5,h6,h7,h8,h9,h10,h11,h12,h13] <;> rfl)
           ·cases h16:(↑(zad xs).length:Int) != (0:Int)
            ·cases h17:(↑(zag qs).length:Int) != (1:Int)
             ·cases h18:(↑(zad it).length:Int)==(1:Int)
              ·exact walk E0ok mix0 At.scope_Formed rfl kr kr 3000 (y:=AV.v (Value.bool false)) [sb h1,sb h2,sb h3,sb h4,sb h5,sb h6,sb h7,sb h8,sb h9,sb h10,sb h11,sg h16,sb h17,sg (rfl:false=false),se (zaV hq),sb h18] kr (by simp only [zay,cond_true,cond_false,h1,h2,h3,h4,h5,h6,h7,h8,h9,h10,h11,h16,h17,h18] <;> rfl)
              ·exact walk E0ok mix0 At.scope_Formed rfl kr kr 3000 (y:=AV.v (Value.bool (decide ((↑(zad wh).length:Int)≤(1:Int))))) [sb h1,sb h2,sb h3,sb h4,sb h5,sb h6,sb h7,sb h8,sb h9,sb h10,sb h11,sg h16,sb h17,sg (rfl:false=false),se (zaV hq),sg h18,se (zaV hq)] kr (by simp only [zay,cond_true,cond_false,h1,h2,h3,h4,h5,h6,h7,h8,h9,h10,h11,h16,h17,h18] <;> rfl)
             ·exact walk E0ok mix0 At.scope_Formed rfl kr kr 3000 (y:=AV.v (Value.bool false)) [sb h1,sb h2,sb h3,sb h4,sb h5,sb h6,sb h7,sb h8,sb h9,sb h10,sb h11,sg h16,sb h17] kr (by simp only [zay,cond_true,cond_false,h1,h2,h3,h4,h5,h6,h7,h8,h9,h10,h11,h16,h17] <;> rfl)
            ·exact walk E0ok mix0 At.scope_Formed rfl kr kr 3000 (y:=AV.v (Value.bool false)) [sb h1,sb h2,sb h3,sb h4,sb h5,sb h6,sb h7,sb h8,sb h9,sb h10,sb h11,sb h16] kr (by simp only [zay,cond_true,cond_false,h1,h2,h3,h4,h5,h6,h7,h8,h9,h10,h11,h16] <;> rfl)
          ·cases h19:(↑(zad xs).length:Int) != (0:Int)
           ·cases h20:(↑(zag qs).length:Int) != (1:Int)
            ·cases h21:(↑(zad it).length:Int)==(1:Int)
             ·exact walk E0ok mix0 At.scope_Formed rfl kr kr 3000 (y:=AV.v (Value.bool false)) [sb h1,sb h2,sb h3,sb h4,sb h5,sb h6,sb h7,sb h8,sb h9,sb h10,sg h19,sb h20,sg (rfl:false=false),se (zaV hq),sb h21] kr (by simp only [zay,cond_true,cond_false,h1,h2,h3,h4,h5,h6,h7,h8,h9,h10,h19,h20,h21] <;> rfl)
             ·exact walk E0ok mix0 At.scope_Formed rfl kr kr 3000 (y:=AV.v (Value.bool (decide ((↑(zad wh).length:Int)≤(1:Int))))) [sb h1,sb h2,sb h3,sb h4,sb h5,sb h6,sb h7,sb h8,sb h9,sb h10,sg h19,sb h20,sg (rfl:false=false),se (zaV hq),sg h21,se (zaV hq)] kr (by simp only [zay,cond_true,cond_false,h1,h2,h3,h4,h5,h6,h7,h8,h9,h10,h19,h20,h21] <;> rfl)
            ·exact walk E0ok mix0 At.scope_Formed rfl kr kr 3000 (y:=AV.v (Value.bool false)) [sb h1,sb h2,sb h3,sb h4,sb h5,sb h6,sb h7,sb h8,sb h9,sb h10,sg h19,sb h20] kr (by simp only [zay,cond_true,cond_false,h1,h2,h3,h4,h5,h6,h7,h8,h9,h10,h19,h20] <;> rfl)
           ·exact walk E0ok mix0 At.scope_Formed rfl kr kr 3000 (y:=AV.v (Value.bool false)) [sb h1,sb h2,sb h3,sb h4,sb h5,sb h6,sb h7,sb h8,sb h9,sb h10,sb h19] kr (by simp only [zay,cond_true,cond_false,h1,h2,h3,h4,h5,h6,h7,h8,h9,h10,h19] <;> rfl)
         ·cases h22:(↑(zad xs).length:Int) != (0:Int)
          ·cases h23:(↑(zag qs).length:Int) != (1:Int)
           ·cases h24:(↑(zad it).length:Int)==(0:Int)
            ·exact walk E0ok mix0 At.scope_Formed rfl kr kr 3000 (y:=AV.v (Value.bool false)) [sb h1,sb h2,sb h3,sb h4,sb h5,sb h6,sb h7,sb h8,sb h9,sg h22,sb h23,sg (rfl:false=false),se (zaV hq),sb h24] kr (by simp only [zay,cond_true,cond_false,h1,h2,h3,h4,h5,h6,h7,h8,h9,h22,h23,h24] <;> rfl)
            ·exact walk E0ok mix0 At.scope_Formed rfl kr kr 3000 (y:=AV.v (Value.bool (decide ((↑(zad wh).length:Int)≤(1:Int))))) [sb h1,sb h2,sb h3,sb h4,sb h5,sb h6,sb h7,sb h8,sb h9,sg h22,sb h23,sg (rfl:false=false),se (zaV hq),sg h24,se (zaV hq)] kr (by simp only [zay,cond_true,cond_false,h1,h2,h3,h4,h5,h6,h7,h8,h9,h22,h23,h24] <;> rfl)
           ·exact walk E0ok mix0 At.scope_Formed rfl kr kr 3000 (y:=AV.v (Value.bool false)) [sb h1,sb h2,sb h3,sb h4,sb h5,sb h6,sb h7,sb h8,sb h9,sg h22,sb h23] kr (by simp only [zay,cond_true,cond_false,h1,h2,h3,h4,h5,h6,h7,h8,h9,h22,h23] <;> rfl)
          ·exact walk E0ok mix0 At.scope_Formed rfl kr kr 3000 (y:=AV.v (Value.bool false)) [sb h1,sb h2,sb h3,sb h4,sb h5,sb h6,sb h7,sb h8,sb h9,sb h22] kr (by simp only [zay,cond_true,cond_false,h1,h2,h3,h4,h5,h6,h7,h8,h9,h22] <;> rfl)
        ·cases h25:(↑(zad xs).length:Int) != (0:Int)
         ·cases h26:(↑(zag qs).length:Int) != (1:Int)
          ·cases h27:(↑(zad it).length:Int)==(0:Int)
           ·exact walk E0ok mix0 At.scope_Formed rfl kr kr 3000 (y:=AV.v (Value.bool false)) [sb h1,sb h2,sb h3,sb h4,sb h5,sb h6,sb h7,sb h8,sg h25,sb h26,sg (rfl:false=false),se (zaV hq),sb h27] kr (by simp only [zay,cond_true,cond_false,h1,h2,h3,h4,h5,h6,h7,h8,h25,h26,h27] <;> rfl)
           ·exact walk E0ok mix0 At.scope_Formed rfl kr kr 3000 (y:=AV.v (Value.bool (decide ((↑(zad wh).length:Int)≤(1:Int))))) [sb h1,sb h2,sb h3,sb h4,sb h5,sb h6,sb h7,sb h8,sg h25,sb h26,sg (rfl:false=false),se (zaV hq),sg h27,se (zaV hq)] kr (by simp only [zay,cond_true,cond_false,h1,h2,h3,h4,h5,h6,h7,h8,h25,h26,h27] <;> rfl)
          ·exact walk E0ok mix0 At.scope_Formed rfl kr kr 3000 (y:=AV.v (Value.bool false)) [sb h1,sb h2,sb h3,sb h4,sb h5,sb h6,sb h7,sb h8,sg h25,sb h26] kr (by simp only [zay,cond_true,cond_false,h1,h2,h3,h4,h5,h6,h7,h8,h25,h26] <;> rfl)
         ·exact walk E0ok mix0 At.scope_Formed rfl kr kr 3000 (y:=AV.v (Value.bool false)) [sb h1,sb h2,sb h3,sb h4,sb h5,sb h6,sb h7,sb h8,sb h25] kr (by simp only [zay,cond_true,cond_false,h1,h2,h3,h4,h5,h6,h7,h8,h25] <;> rfl)
       ·cases h28:(↑(zad xs).length:Int) != (3:Int)
        ·cases h29:(↑(zag qs).length:Int) != (0:Int)
         ·exact walk E0ok mix0 At.scope_Formed rfl kr kr 3000 (y:=AV.v (Value.bool true)) [sb h1,sb h2,sb h3,sb h4,sb h5,sb h6,sb h7,sg h28,sb h29,sb (rfl:true=true)] kr (by simp only [zay,cond_true,cond_false,h1,h2,h3,h4,h5,h6,h7,h28,h29] <;> rfl)
         ·exact walk E0ok mix0 At.scope_Formed rfl kr kr 3000 (y:=AV.v (Value.bool false)) [sb h1,sb h2,sb h3,sb h4,sb h5,sb h6,sb h7,sg h28,sb h29] kr (by simp only [zay,cond_true,cond_false,h1,h2,h3,h4,h5,h6,h7,h28,h29] <;> rfl)
        ·exact walk E0ok mix0 At.scope_Formed rfl kr kr 3000 (y:=AV.v (Value.bool false)) [sb h1,sb h2,sb h3,sb h4,sb h5,sb h6,sb h7,sb h28] kr (by simp only [zay,cond_true,cond_false,h1,h2,h3,h4,h5,h6,h7,h28] <;> rfl)
      ·cases h30:decide (op < (1:Int))
       ·cases h31:decide ((13:Int) < op)
        ·cases h32:(↑(zad xs).length:Int) != (2:Int)
         ·cases h33:(↑(zag qs).length:Int) != (0:Int)
          ·exact walk E0ok mix0 At.scope_Formed rfl kr kr 3000 (y:=AV.v (Value.bool true)) [sb h1,sb h2,sb h3,sb h4,sb h5,sb h6,sg h30,sb h31,sg h32,sb h33,sb (rfl:true=true)] kr (by simp only [zay,cond_true,cond_false,h1,h2,h3,h4,h5,h6,h30,h31,h32,h33] <;> rfl)
          ·exact walk E0ok mix0 At.scope_Formed rfl kr kr 3000 (y:=AV.v (Value.bool false)) [sb h1,sb h2,sb h3,sb h4,sb h5,sb h6,sg h30,sb h31,sg h32,sb h33] kr (by simp only [zay,cond_true,cond_false,h1,h2,h3,h4,h5,h6,h30,h31,h32,h33] <;> rfl)
         ·exact walk E0ok mix0 At.scope_Formed rfl kr kr 3000 (y:=AV.v (Value.bool false)) [sb h1,sb h2,sb h3,sb h4,sb h5,sb h6,sg h30,sb h31,sb h32] kr (by simp only [zay,cond_true,cond_false,h1,h2,h3,h4,h5,h6,h30,h31,h32] <;> rfl)
        ·exact walk E0ok mix0 At.scope_Formed rfl kr kr 3000 (y:=AV.v (Value.bool false)) [sb h1,sb h2,sb h3,sb h4,sb h5,sb h6,sg h30,sb h31] kr (by simp only [zay,cond_true,cond_false,h1,h2,h3,h4,h5,h6,h30,h31] <;> rfl)
       ·exact walk E0ok mix0 At.scope_Formed rfl kr kr 3000 (y:=AV.v (Value.bool false)) [sb h1,sb h2,sb h3,sb h4,sb h5,sb h6,sb h30] kr (by simp only [zay,cond_true,cond_false,h1,h2,h3,h4,h5,h6,h30] <;> rfl)
     ·cases h34:(↑(zad xs).length:Int) != (1:Int)
      ·cases h35:(↑(zag qs).length:Int) != (0:Int)
       ·exact walk E0ok mix0 At.scope_Formed rfl kr kr 3000 (y:=AV.v (Value.bool true)) [sb h1,sb h2,sb h3,sb h4,sb h5,sg h34,sb h35,sb (rfl:true=true)] kr (by simp only [zay,cond_true,cond_false,h1,h2,h3,h4,h5,h34,h35] <;> rfl)
       ·exact walk E0ok mix0 At.scope_Formed rfl kr kr 3000 (y:=AV.v (Value.bool false)) [sb h1,sb h2,sb h3,sb h4,sb h5,sg h34,sb h35] kr (by simp only [zay,cond_true,cond_false,h1,h2,h3,h4,h5,h34,h35] <;> rfl)
      ·exact walk E0ok mix0 At.scope_Formed rfl kr kr 3000 (y:=AV.v (Value.bool false)) [sb h1,sb h2,sb h3,sb h4,sb h5,sb h34] kr (by simp only [zay,cond_true,cond_false,h1,h2,h3,h4,h5,h34] <;> rfl)
    ·cases h36:(↑(zad xs).length:Int) != (1:Int)
     ·cases h37:(↑(zag qs).length:Int) != (0:Int)
      ·exact walk E0ok mix0 At.scope_Formed rfl kr kr 3000 (y:=AV.v (Value.bool true)) [sb h1,sb h2,sb h3,sb h4,sg h36,sb h37,sb (rfl:true=true)] kr (by simp only [zay,cond_true,cond_false,h1,h2,h3,h4,h36,h37] <;> rfl)
      ·exact walk E0ok mix0 At.scope_Formed rfl kr kr 3000 (y:=AV.v (Value.bool false)) [sb h1,sb h2,sb h3,sb h4,sg h36,sb h37] kr (by simp only [zay,cond_true,cond_false,h1,h2,h3,h4,h36,h37] <;> rfl)
     ·exact walk E0ok mix0 At.scope_Formed rfl kr kr 3000 (y:=AV.v (Value.bool false)) [sb h1,sb h2,sb h3,sb h4,sb h36] kr (by simp only [zay,cond_true,cond_false,h1,h2,h3,h4,h36] <;> rfl)
   ·cases h38:(↑(zad xs).length:Int) != (1:Int)
    ·cases h39:(↑(zag qs).length:Int) != (0:Int)
     ·exact walk E0ok mix0 At.scope_Formed rfl kr kr 3000 (y:=AV.v (Value.bool true)) [sb h1,sb h2,sb h3,sg h38,sb h39,sb (rfl:true=true)] kr (by simp only [zay,cond_true,cond_false,h1,h2,h3,h38,h39] <;> rfl)
     ·exact walk E0ok mix0 At.scope_Formed rfl kr kr 3000 (y:=AV.v (Value.bool false)) [sb h1,sb h2,sb h3,sg h38,sb h39] kr (by simp only [zay,cond_true,cond_false,h1,h2,h3,h38,h39] <;> rfl)
    ·exact walk E0ok mix0 At.scope_Formed rfl kr kr 3000 (y:=AV.v (Value.bool false)) [sb h1,sb h2,sb h3,sb h38] kr (by simp only [zay,cond_true,cond_false,h1,h2,h3,h38] <;> rfl)
  ·cases h40:(↑(zad xs).length:Int) != (0:Int)
   ·cases h41:(↑(zag qs).length:Int) != (0:Int)
    ·exact walk E0ok mix0 At.scope_Formed rfl kr kr 3000 (y:=AV.v (Value.bool true)) [sb h1,sb h2,sg h40,sb h41,sb (rfl:true=true)] kr (by simp only [zay,cond_true,cond_false,h1,h2,h40,h41] <;> rfl)
    ·exact walk E0ok mix0 At.scope_Formed rfl kr kr 3000 (y:=AV.v (Value.bool false)) [sb h1,sb h2,sg h40,sb h41] kr (by simp only [zay,cond_true,cond_false,h1,h2,h40,h41] <;> rfl)
   ·exact walk E0ok mix0 At.scope_Formed rfl kr kr 3000 (y:=AV.v (Value.bool false)) [sb h1,sb h2,sb h40] kr (by simp only [zay,cond_true,cond_false,h1,h2,h40] <;> rfl)
 ·cases h42:(↑(zad xs).length:Int) != (0:Int)
  ·cases h43:(↑(zag qs).length:Int) != (0:Int)
   ·exact walk E0ok mix0 At.scope_Formed rfl kr kr 3000 (y:=AV.v (Value.bool true)) [sb h1,sg h42,sb h43,sb (rfl:true=true)] kr (by simp only [zay,cond_true,cond_false,h1,h42,h43] <;> rfl)
   ·exact walk E0ok mix0 At.scope_Formed rfl kr kr 3000 (y:=AV.v (Value.bool false)) [sb h1,sg h42,sb h43] kr (by simp only [zay,cond_true,cond_false,h1,h42,h43] <;> rfl)
  ·exact walk E0ok mix0 At.scope_Formed rfl kr kr 3000 (y:=AV.v (Value.bool false)) [sb h1,sb h42] kr (by simp only [zay,cond_true,cond_false,h1,h42] <;> rfl)
def zaU (kind op:Int) (xs:List X):Bool :=
 bif kind==(1:Int) then
  bif (↑(zad xs).length:Int) != (0:Int) then
   false
  else
   true
 else
  bif kind==(2:Int) then
   bif (↑(zad xs).length:Int) != (0:Int) then
    false
   else
    true
  else
   bif kind==(3:Int) then
    bif (↑(zad xs).length:Int) != (1:Int) then
     false
    else
     true
   else
    bif kind==(4:Int) then
     bif (↑(zad xs).length:Int) != (1:Int) then
      false
     else
      true
    else
     bif kind==(6:Int) then
      bif (↑(zad xs).length:Int) != (1:Int) then
       false
      else
       true
     else
      bif kind==(5:Int) then
       bif decide (op < (1:Int)) then
        false
       else
        bif decide ((13:Int) < op) then
         false
        else
         bif (↑(zad xs).length:Int) != (2:Int) then
          false
         else
          true
      else
       bif kind==(7:Int) then
        bif (↑(zad xs).length:Int) != (3:Int) then
         false
        else
         true
       else
        bif kind==(8:Int) then
         bif (↑(zad xs).length:Int) != (0:Int) then
          false
         else
          false
        else
         bif kind==(9:Int) then
          bif (↑(zad xs).length:Int) != (0:Int) then
           false
          else
           false
         else
          bif kind==(10:Int) then
           bif (↑(zad xs).length:Int) != (0:Int) then
            false
           else
            false
          else
           bif kind==(11:Int) then
            bif (↑(zad xs).length:Int) != (0:Int) then
             false
            else
             false
           else
            bif kind==(12:Int) then
             bif (↑(zad xs).length:Int) != (0:Int) then
              false
             else
              false
            else
             false
theorem zlv (kind op:Int) (xs:List X) (nt:Bool) (val:V) (tn nm:Str):zaa E0 S.scope_Formed [X.av (.mk kind op nt val tn nm xs [])] [] (bv (zaU kind op xs)) []:=by
 cases h1:kind==(1:Int)
 ·cases h2:kind==(2:Int)
  ·cases h3:kind==(3:Int)
   ·cases h4:kind==(4:Int)
    ·cases h5:kind==(6:Int)
     ·cases h6:kind==(5:Int)
      ·cases h7:kind==(7:Int)
       ·cases h8:kind==(8:Int)
        ·cases h9:kind==(9:Int)
         ·cases h10:kind==(10:Int)
          ·cases h11:kind==(11:Int)
           ·cases h12:kind==(12:Int)
            ·exact walk E0ok mix0 At.scope_Formed rfl kr kr 3000 (y:=AV.v (Value.bool false)) [sb h1,sb h2,sb h3,sb h4,sb h5,sb h6,sb h7,sb h8,sb h9,sb h10,sb h11,sb h12] kr (by simp only [zaU,cond_true,cond_false,h1,h2,h3,h4,h5,h6,h7,h8,h9,h10,h11,h12] <;> rfl)
            ·cases h13:(↑(zad xs).length:Int) != (0:Int)
             ·exact walk E0ok mix0 At.scope_Formed rfl kr kr 3000 (y:=AV.v (Value.bool false)) [sb h1,sb h2,sb h3,sb h4,sb h5,sb h6,sb h7,sb h8,sb h9,sb h10,sb h11,sb h12,sg h13,sb (rfl:true=true)] kr (by simp only [zaU,cond_true,cond_false,h1,h2,h3,h4,h5,h6,h7,h8,h9,h10,h11,h12,h13] <;> rfl)
             ·exact walk E0ok mix0 At.scope_Formed rfl kr kr 3000 (y:=AV.v (Value.bool false)) [sb h1,sb h2,sb h3,sb h4,sb h5,sb h6,sb h7,sb h8,sb h9,sb h10,sb h11,sb h12,sb h13] kr (by simp only [zaU,cond_true,cond_false,h1,h2,h3,h4,h5,h6,h7,h8,h9,h10,h11,h12,h13] <;> rfl)
           ·cases h14:(↑(zad xs).length:Int) != (0:Int)
            ·exact walk E0ok mix0 At.scope_Formed rfl kr kr 3000 (y:=AV.v (Value.bool false)) [sb h1,sb h2,sb h3,sb h4,sb h5,sb h6,sb h7,sb h8,sb h9,sb h10,sb h11,sg h14,sb (rfl:true=true)] kr (by simp only [zaU,cond_true,cond_false,h1,h2,h3,h4,h5,h6,h7,h8,h9,h10,h11,h14] <;> rfl)
            ·exact walk E0ok mix0 At.scope_Formed rfl kr kr 3000 (y:=AV.v (Value.bool false)) [sb h1,sb h2,sb h3,sb h4,sb h5,sb h6,sb h7,sb h8,sb h9,sb h10,sb h11,sb h14] kr (by simp only [zaU,cond_true,cond_false,h1,h2,h3,h4,h5,h6,h7,h8,h9,h10,h11,h14] <;> rfl)
          ·cases h15:(↑(zad xs).length:Int) != (0:Int)
           ·exact walk E0ok mix0 At.scope_Formed rfl kr kr 3000 (y:=AV.v (Value.bool false)) [sb h1,sb h2,sb h3,sb h4,sb h5,sb h6,sb h7,sb h8,sb h9,sb h10,sg h15,sb (rfl:true=true)] kr (by simp only [zaU,cond_true,cond_false,h1,h2,h3,h4,h5,h6,h7,h8,h9,h10,h15] <;> rfl)
           ·exact walk E0ok mix0 At.scope_Formed rfl kr kr 3000 (y:=AV.v (Value.bool false)) [sb h1,sb h2,sb h3,sb h4,sb h5,sb h6,sb h7,sb h8,sb h9,sb h10,sb h15] kr (by simp only [zaU,cond_true,cond_false,h1,h2,h3,h4,h5,h6,h7,h8,h9,h10,h15] <;> rfl)
         ·cases h16:(↑(zad xs).length:Int) != (0:Int)
          ·exact walk E0ok mix0 At.scope_Formed rfl kr kr 3000 (y:=AV.v (Value.bool false)) [sb h1,sb h2,sb h3,sb h4,sb h5,sb h6,sb h7,sb h8,sb h9,sg h16,sb (rfl:true=true)] kr (by simp only [zaU,cond_true,cond_false,h1,h2,h3,h4,h5,h6,h7,h8,h9,h16] <;> rfl)
          ·exact walk E0ok mix0 At.scope_Formed rfl kr kr 3000 (y:=AV.v (Value.bool false)) [sb h1,sb h2,sb h3,sb h4,sb h5,sb h6,sb h7,sb h8,sb h9,sb h16] kr (by simp only [zaU,cond_true,cond_false,h1,h2,h3,h4,h5,h6,h7,h8,h9,h16] <;> rfl)
        ·cases h17:(↑(zad xs).length:Int) != (0:Int)
         ·exact walk E0ok mix0 At.scope_Formed rfl kr kr 3000 (y:=AV.v (Value.bool false)) [sb h1,sb h2,sb h3,sb h4,sb h5,sb h6,sb h7,sb h8,sg h17,sb (rfl:true=true)] kr (by simp only [zaU,cond_true,cond_false,h1,h2,h3,h4,h5,h6,h7,h8,h17] <;> rfl)
         ·exact walk E0ok mix0 At.scope_Formed rfl kr kr 3000 (y:=AV.v (Value.bool false)) [sb h1,sb h2,sb h3,sb h4,sb h5,sb h6,sb h7,sb h8,sb h17] kr (by simp only [zaU,cond_true,cond_false,h1,h2,h3,h4,h5,h6,h7,h8,h17] <;> rfl)
       ·cases h18:(↑(zad xs).length:Int) != (3:Int)
        ·exact walk E0ok mix0 At.scope_Formed rfl kr kr 3000 (y:=AV.v (Value.bool true)) [sb h1,sb h2,sb h3,sb h4,sb h5,sb h6,sb h7,sg h18,sb (rfl:false=false),sb (rfl:true=true)] kr (by simp only [zaU,cond_true,cond_false,h1,h2,h3,h4,h5,h6,h7,h18] <;> rfl)
        ·exact walk E0ok mix0 At.scope_Formed rfl kr kr 3000 (y:=AV.v (Value.bool false)) [sb h1,sb h2,sb h3,sb h4,sb h5,sb h6,sb h7,sb h18] kr (by simp only [zaU,cond_true,cond_false,h1,h2,h3,h4,h5,h6,h7,h18] <;> rfl)
      ·cases h19:decide (op < (1:Int))
       ·cases h20:decide ((13:Int) < op)
        ·cases h21:(↑(zad xs).length:Int) != (2:Int)
         ·exact walk E0ok mix0 At.scope_Formed rfl kr kr 3000 (y:=AV.v (Value.bool true)) [sb h1,sb h2,sb h3,sb h4,sb h5,sb h6,sg h19,sb h20,sg h21,sb (rfl:false=false),sb (rfl:true=true)] kr (by simp only [zaU,cond_true,cond_false,h1,h2,h3,h4,h5,h6,h19,h20,h21] <;> rfl)
         ·exact walk E0ok mix0 At.scope_Formed rfl kr kr 3000 (y:=AV.v (Value.bool false)) [sb h1,sb h2,sb h3,sb h4,sb h5,sb h6,sg h19,sb h20,sb h21] kr (by simp only [zaU,cond_true,cond_false,h1,h2,h3,h4,h5,h6,h19,h20,h21] <;> rfl)
        ·exact walk E0ok mix0 At.scope_Formed rfl kr kr 3000 (y:=AV.v (Value.bool false)) [sb h1,sb h2,sb h3,sb h4,sb h5,sb h6,sg h19,sb h20] kr (by simp only [zaU,cond_true,cond_false,h1,h2,h3,h4,h5,h6,h19,h20] <;> rfl)
       ·exact walk E0ok mix0 At.scope_Formed rfl kr kr 3000 (y:=AV.v (Value.bool false)) [sb h1,sb h2,sb h3,sb h4,sb h5,sb h6,sb h19] kr (by simp only [zaU,cond_true,cond_false,h1,h2,h3,h4,h5,h6,h19] <;> rfl)
     ·cases h22:(↑(zad xs).length:Int) != (1:Int)
      ·exact walk E0ok mix0 At.scope_Formed rfl kr kr 3000 (y:=AV.v (Value.bool true)) [sb h1,sb h2,sb h3,sb h4,sb h5,sg h22,sb (rfl:false=false),sb (rfl:true=true)] kr (by simp only [zaU,cond_true,cond_false,h1,h2,h3,h4,h5,h22] <;> rfl)
      ·exact walk E0ok mix0 At.scope_Formed rfl kr kr 3000 (y:=AV.v (Value.bool false)) [sb h1,sb h2,sb h3,sb h4,sb h5,sb h22] kr (by simp only [zaU,cond_true,cond_false,h1,h2,h3,h4,h5,h22] <;> rfl)
    ·cases h23:(↑(zad xs).length:Int) != (1:Int)
     ·exact walk E0ok mix0 At.scope_Formed rfl kr kr 3000 (y:=AV.v (Value.bool true)) [sb h1,sb h2,sb h3,sb h4,sg h23,sb (rfl:false=false),sb (rfl:true=true)] kr (by simp only [zaU,cond_true,cond_false,h1,h2,h3,h4,h23] <;> rfl)
     ·exact walk E0ok mix0 At.scope_Formed rfl kr kr 3000 (y:=AV.v (Value.bool false)) [sb h1,sb h2,sb h3,sb h4,sb h23] kr (by simp only [zaU,cond_true,cond_false,h1,h2,h3,h4,h23] <;> rfl)
   ·cases h24:(↑(zad xs).length:Int) != (1:Int)
    ·exact walk E0ok mix0 At.scope_Formed rfl kr kr 3000 (y:=AV.v (Value.bool true)) [sb h1,sb h2,sb h3,sg h24,sb (rfl:false=false),sb (rfl:true=true)] kr (by simp only [zaU,cond_true,cond_false,h1,h2,h3,h24] <;> rfl)
    ·exact walk E0ok mix0 At.scope_Formed rfl kr kr 3000 (y:=AV.v (Value.bool false)) [sb h1,sb h2,sb h3,sb h24] kr (by simp only [zaU,cond_true,cond_false,h1,h2,h3,h24] <;> rfl)
  ·cases h25:(↑(zad xs).length:Int) != (0:Int)
   ·exact walk E0ok mix0 At.scope_Formed rfl kr kr 3000 (y:=AV.v (Value.bool true)) [sb h1,sb h2,sg h25,sb (rfl:false=false),sb (rfl:true=true)] kr (by simp only [zaU,cond_true,cond_false,h1,h2,h25] <;> rfl)
   ·exact walk E0ok mix0 At.scope_Formed rfl kr kr 3000 (y:=AV.v (Value.bool false)) [sb h1,sb h2,sb h25] kr (by simp only [zaU,cond_true,cond_false,h1,h2,h25] <;> rfl)
 ·cases h26:(↑(zad xs).length:Int) != (0:Int)
  ·exact walk E0ok mix0 At.scope_Formed rfl kr kr 3000 (y:=AV.v (Value.bool true)) [sb h1,sg h26,sb (rfl:false=false),sb (rfl:true=true)] kr (by simp only [zaU,cond_true,cond_false,h1,h26] <;> rfl)
  ·exact walk E0ok mix0 At.scope_Formed rfl kr kr 3000 (y:=AV.v (Value.bool false)) [sb h1,sb h26] kr (by simp only [zaU,cond_true,cond_false,h1,h26] <;> rfl)
end Go.AM
namespace Go.AM
set_option maxRecDepth 100000
set_option linter.unusedSimpArgs false
set_option linter.unusedVariables false
theorem zfb {p:Prop} (h:p:=by first|assumption|omega|(simp;done)|(simp;omega)):p:=h
def modI (v n:Int):Int:=bif decide (v.tmod n < 0) then IntKind.i64.wrap (v.tmod n+n) else v.tmod n
theorem zlD (v n:Int) (hn:n≠0):Pure S.world_Mod [iv v,iv n] (iv (modI v n)):=by
 unfold modI
 cases h1:decide (v.tmod n < (0:Int))
 ·exact wk At.world_Mod [sx (.i (v.tmod n)) (show ¬n=(0:Int)∧(v.tmod n:Int)=v.tmod n from ⟨hn,rfl⟩),sb h1] kr
 ·exact wk At.world_Mod [sx (.i (v.tmod n)) (show ¬n=(0:Int)∧(v.tmod n:Int)=v.tmod n from ⟨hn,rfl⟩),sb h1,si (e:=IntKind.i64.wrap (v.tmod n+n)) rfl] kr
def Tp.next (t:Tp) (n:Int):Nat × Tp:=match t.l[t.pos]? with
 | some x=>((modI x n).toNat,⟨t.l,t.pos+1,t.ok⟩)
 | none=>(0,t)
theorem ziP (v n:Int) (hn:0 < n) (hv:n≤9223372036854775807):0≤modI v n∧modI v n < n:=by
 unfold modI
 have h1:=Int.tmod_lt_of_pos v hn
 have h2:-n < v.tmod n:=by
  have:=Int.tmod_lt_of_pos (-v) hn
  rw [Int.neg_tmod] at this;omega
 cases h:decide (v.tmod n < 0)
 ·simp at h;simp;omega
 ·simp at h;simp only [cond_true];rw [IntKind.wrap_i64];omega
theorem Tp.next_lt (t:Tp) (n:Int) (hn:0 < n) (hv:n≤9223372036854775807):((t.next n).1:Int) < n:=by
 unfold Tp.next
 split
 ·have:=ziP (by assumption) n hn hv
  simp;omega
 ·simpa using hn
abbrev Pos (n:Int):Prop:=0 < n∧n≤9223372036854775807
theorem zkN (i:Nat) (h:i < 9223372036854775806):IntKind.i64.wrap (((i+1:Nat):Int) - 1)=((i:Nat):Int):=by
 rw [IntKind.wrap_i64];omega
theorem zwF (t:Tp) (n:Int) (hx:t.l.length≤t.pos):zaa E0 S.world_Tape_Next [.p 0 0,iv n] [.box t.cells] (iv 0) [.box t.cells]:=by
 have h0:decide ((((t.l.map fun n=>[iv n]).length:Nat):Int)≤((t.pos:Nat):Int))=true:=by simp;omega
 exact wk At.world_Tape_Next [sd [],sb h0] kr
theorem zik (t:Tp) (n:Int) (x:Int) (hn:n≠0) (hx:t.l[t.pos]?=some x) (h0:decide ((((t.l.map fun n=>[iv n]).length:Nat):Int)≤((t.pos:Nat):Int))=false) (hw:IntKind.i64.wrap ((t.pos:Int)+1)=((t.pos+1:Nat):Int)) (hw2:IntKind.i64.wrap (((t.pos+1:Nat):Int) - 1)=((t.pos:Nat):Int)):∃ (a:Int),a=modI x n∧zaa E0 S.world_Tape_Next [.p 0 0,iv n] [.box t.cells] (iv a) [.box (Tp.cells ⟨t.l,t.pos+1,t.ok⟩)]:=by
 exact ⟨modI x n,by first|assumption|trivial|(simp;done)|omega|(simp;omega)|(simp at *;omega),wk At.world_Tape_Next [sd [],sb h0,si hw,sd [(8,[si hw2]),(9,[se (zaf (fun n=>[iv n]) hx rfl)]),(12,[sc (zlD x n zfb)])]] kr⟩
theorem c_next (t:Tp) (n:Int) (hn:Pos n):zaa E0 S.world_Tape_Next [.p 0 0,iv n] [.box t.cells] (iv ((t.next n).1:Nat)) [.box (t.next n).2.cells]:=by
 unfold Tp.next
 cases hx:t.l[t.pos]? with
 | none=>exact zwF t n (by simpa using hx)
 | some x =>
  have hl:=zee hx
  have ho:=t.ok
  obtain ⟨a,rfl,hc⟩:=zik t n x (by omega) hx (by simp;omega) (zak t.pos (by omega)) (zkN t.pos (by omega))
  have h2:=ziP x n hn.1 hn.2
  simp only
  rw [Int.toNat_of_nonneg h2.1]
  exact hc
theorem zaJ (t:Tp) (n:Int) (hn:Pos n):∃ (a:Nat) (t':Tp),(a:Int) < n∧zaa E0 S.world_Tape_Next [.p 0 0,iv n] [.box t.cells] (iv a) [.box t'.cells] :=
 ⟨_,_,t.next_lt n hn.1 hn.2,c_next t n hn⟩
abbrev I64 (n:Int):Prop:=-9223372036854775808≤n∧n≤9223372036854775807
theorem zcW (n:Int):I64 (IntKind.i64.wrap n):=by simp only [I64];rw [IntKind.wrap_i64];omega
theorem zcZ (t:Tp) (n:Int) (hn:Pos n):∃ (b:Bool) (t':Tp),zaa E0 S.world_Tape_Bool [.p 0 0,iv n] [.box t.cells] (bv b) [.box t'.cells]:=by
 obtain ⟨a1,t1,q1,c1⟩:=(zaJ t n zfb)
 exact ⟨(a1:Int)==IntKind.i64.wrap (n - 1),t1,wk At.world_Tape_Bool [sl [0] c1,si (e:=IntKind.i64.wrap (n - 1)) rfl] kr⟩
theorem zkP (t:Tp) :∃ (a:Int) (t':Tp),(-3≤a∧a≤12)∧zaa E0 S.world_Tape_Small [.p 0 0] [.box t.cells] (iv a) [.box t'.cells]:=by
 obtain ⟨a1,t1,q1,c1⟩:=(zaJ t 16 zfb)
 exact ⟨IntKind.i64.wrap ((a1:Int) - 3),t1,by rw [IntKind.wrap_i64];omega,wk At.world_Tape_Small [sl [0] c1,si (e:=IntKind.i64.wrap ((a1:Int) - 3)) rfl] kr⟩
theorem zjI (t:Tp) :∃ (a:Int) (t':Tp),I64 a∧zaa E0 S.world_Tape_Number [.p 0 0] [.box t.cells] (iv a) [.box t'.cells]:=by
 obtain ⟨a1,t1,q1,c1⟩:=(zaJ t 8 zfb)
 cases h2:(a1:Int)==0
 ·cases h3:(a1:Int)==1
  ·cases h4:(a1:Int)==2
   ·obtain ⟨a5,t5,q5,c5⟩:=(zaJ t1 9 zfb)
    exact ⟨(a5:Int),t5,by first|exact zcW _|(simp only [I64];omega),wk At.world_Tape_Number [sl [0] c1,sb h2,sb h3,sb h4,sl [0] c5] kr⟩
   ·obtain ⟨a6,t6,q6,c6⟩:=(zaJ t1 9 zfb)
    exact ⟨IntKind.i64.wrap (-(a6:Int)),t6,by first|exact zcW _|(simp only [I64];omega),wk At.world_Tape_Number [sl [0] c1,sb h2,sb h3,sb h4,sl [0] c6,si (e:=IntKind.i64.wrap (-(a6:Int))) rfl] kr⟩
  ·obtain ⟨a7,t7,q7,c7⟩:=(zaJ t1 3 zfb)
   exact ⟨IntKind.i64.wrap (-9223372036854775808+(a7:Int)),t7,by first|exact zcW _|(simp only [I64];omega),wk At.world_Tape_Number [sl [0] c1,sb h2,sb h3,sl [0] c7,si (e:=IntKind.i64.wrap (-9223372036854775808+(a7:Int))) rfl] kr⟩
 ·obtain ⟨a8,t8,q8,c8⟩:=(zaJ t1 3 zfb)
  exact ⟨IntKind.i64.wrap (9223372036854775807 - (a8:Int)),t8,by first|exact zcW _|(simp only [I64];omega),wk At.world_Tape_Number [sl [0] c1,sb h2,sl [0] c8,si (e:=IntKind.i64.wrap (9223372036854775807 - (a8:Int))) rfl] kr⟩
def zkF (i:Nat):Str:=zdZ.getD i ⟨#[]⟩
theorem zv9 (i:Nat) (h:(i:Int) < 6):ArrAt (zdZ.map sv) i 6 [sv (zkF i)] 1:=by
 have h:i=0∨i=1∨i=2∨i=3∨i=4∨i=5:=by omega
 rcases h with rfl|rfl|rfl|rfl|rfl|rfl <;> exact ⟨by decide,by decide,rfl,rfl⟩
theorem zv4 (i:Nat) (h:(i:Int) < 6):ArrAt (zdZ.map sv) i 6 [sv (zkF i)] 1:=zv9 i h
theorem zv1 (i:Nat):zkF i∈zdZ:=by
 unfold zkF
 rw [List.getD_eq_getElem?_getD]
 cases h:zdZ[i]? with
 | none=>simp [zdZ,zeF]
 | some x=>exact List.mem_of_getElem? h
theorem zlw (t:Tp) :∃ (w:Str) (t':Tp),w∈zdZ∧zaa E0 S.world_Tape_Word [.p 0 0] [.box t.cells] (sv w) [.box t'.cells]:=by
 obtain ⟨a1,t1,q1,c1⟩:=(zaJ t 6 zfb)
 exact ⟨zkF a1,t1,by exact zv1 _,wk At.world_Tape_Word [sl [0] c1,sa (zv4 a1 zfb)] kr⟩
structure V.Good (v:V):Prop where
 valid:zcD v=true
 i64:I64 v.int
 small:v.small
theorem zbw {n:Int} (h:I64 n):V.Good ⟨1,n,⟨#[]⟩⟩:=⟨by kernel_rfl,h,ziq⟩
theorem zaD:V.Good ⟨0,0,⟨#[]⟩⟩:=⟨by kernel_rfl,by decide,ziq⟩
theorem zet {n:Nat} (h:(n:Int) < 2):V.Good ⟨2,n,⟨#[]⟩⟩:=by
 have:n=0∨n=1:=by omega
 rcases this with rfl|rfl <;> exact ⟨by kernel_rfl,by decide,ziq⟩
theorem zhz {w:Str} (h:w∈zdZ):V.Good ⟨3,0,w⟩:=by
 simp only [zdZ,List.mem_cons,List.not_mem_nil,or_false] at h
 rcases h with rfl|rfl|rfl|rfl|rfl|rfl <;> exact ⟨by kernel_rfl,by decide,by decide⟩
abbrev zbJ (k:Int):Int:=if k=1∨k=2∨k=3 then k else 0
theorem zjT (t:Tp) (kind:Int) :∃ (v:V) (t':Tp),(v.kind=zbJ kind∧v.Good)∧zaa E0 S.world_Tape_Typed [.p 0 0,iv kind] [.box t.cells] v.av [.box t'.cells]:=by
 cases h1:kind==1
 ·cases h2:kind==2
  ·cases h3:kind==3
   ·exact ⟨V.mk 0 0 (ByteArray.mk #[]),t,by first|exact ⟨by simp_all [zbJ],zbw (by assumption)⟩|exact ⟨by simp_all [zbJ],zet (by assumption)⟩|exact ⟨by simp_all [zbJ],zhz (by assumption)⟩|exact ⟨by simp_all [zbJ],zaD⟩,wk At.world_Tape_Typed [sb h1,sb h2,sb h3] kr⟩
   ·obtain ⟨w4,t4,q4,c4⟩:=(zlw t)
    exact ⟨V.mk 3 0 w4,t4,by first|exact ⟨by simp_all [zbJ],zbw (by assumption)⟩|exact ⟨by simp_all [zbJ],zet (by assumption)⟩|exact ⟨by simp_all [zbJ],zhz (by assumption)⟩|exact ⟨by simp_all [zbJ],zaD⟩,wk At.world_Tape_Typed [sb h1,sb h2,sb h3,sl [0] c4] kr⟩
  ·obtain ⟨a5,t5,q5,c5⟩:=(zaJ t 2 zfb)
   exact ⟨V.mk 2 (a5:Int) (ByteArray.mk #[]),t5,by first|exact ⟨by simp_all [zbJ],zbw (by assumption)⟩|exact ⟨by simp_all [zbJ],zet (by assumption)⟩|exact ⟨by simp_all [zbJ],zhz (by assumption)⟩|exact ⟨by simp_all [zbJ],zaD⟩,wk At.world_Tape_Typed [sb h1,sb h2,sl [0] c5] kr⟩
 ·obtain ⟨a6,t6,q6,c6⟩:=(zjI t)
  exact ⟨V.mk 1 a6 (ByteArray.mk #[]),t6,by first|exact ⟨by simp_all [zbJ],zbw (by assumption)⟩|exact ⟨by simp_all [zbJ],zet (by assumption)⟩|exact ⟨by simp_all [zbJ],zhz (by assumption)⟩|exact ⟨by simp_all [zbJ],zaD⟩,wk At.world_Tape_Typed [sb h1,sl [0] c6] kr⟩
def xLit (v:V):X :=
 X.mk 1 0 false v (ByteArray.mk #[]) (ByteArray.mk #[]) [] []
theorem zhH (v:V) :zaa E0 S.world_Lit [v.av] [] ((xLit v).av) []:=by
 exact wk At.world_Lit [] kr
def xCol (t n:Str):X :=
 X.mk 2 0 false (V.mk 0 0 (ByteArray.mk #[])) t n [] []
theorem zlN (t n:Str) :zaa E0 S.world_Col [sv t,sv n] [] ((xCol t n).av) []:=by
 exact wk At.world_Col [] kr
def xBin (op:Int) (a b:X):X :=
 X.mk 5 op false (V.mk 0 0 (ByteArray.mk #[])) (ByteArray.mk #[]) (ByteArray.mk #[]) [a,b] []
theorem zqH (op:Int) (a b:X) :zaa E0 S.world_Bin [iv op,a.av,b.av] [] ((xBin op a b).av) []:=by
 unfold xBin
 exact (by (try simp only [X.av,Qy.av,xsl,zaI,zaO,zaM,zaT,X.cells,Qy.cells,X.args_mk,X.sub_mk,Qy.items_mk,Qy.wh_mk]);exact wk At.world_Bin [] kr)
end Go.AM
namespace Go.AM
open Go.RowKit
set_option linter.unusedSimpArgs false
set_option linter.unusedVariables false
section
variable {E : Env0}
end
theorem zoC {E:Env0} {fn:Func} {h0:Heap} {c c':Cfg} {R:AV→Heap→Prop} (b i:Nat) (live:List Nat) (m:Nat) {cs:List AV} (hb:c.h[b]?=some (.box cs)) (hi:cs[i]?=some .nl) (hm:Nat.ble h0.length m=true)
  (he:cut live m ⟨c.n,c.todo,c.ts,c.h.set b (.box (cs.set i (.sl [])))⟩=c') (hg:Good E fn h0 c' R):Good E fn h0 c R:=by
 have hg':=zdc live m (Nat.le_of_ble_eq_true hm) (he ▸ hg)
 intro β0 S0 w0 β S w tmps hb0 hn x0 r rt
 have x2:=zeO (β:=β) (S:=S) (w:=w) hb (cs.set i (.sl []))
 have r2:=r.setBox hb (cs.set i (.sl [])) (fun g' vs' t' e2 e3 e4 e5=>by
  refine ⟨by simpa using e4,fun j x' y hx hy=>?_⟩
  by_cases hij:i=j
  ·subst hij
   rw [List.getElem?_set_self (List.getElem?_eq_some_iff.1 hi).1] at hx
   cases hx
   have:=e5 i .nl y hi hy
   refine ⟨?_,this.2⟩
   obtain ⟨a,rfl⟩:=zjj this.1
   exact .d _ _ (.sl [] a 0 0 0 0 (fun _=>undef) (fun hn=>absurd rfl hn) (Nat.le_refl _) (Nat.zero_le _) (by simp) (by simp) (by simp))
  ·rw [List.getElem?_set_ne hij] at hx
   exact e5 j x' y hx hy)
 exact hg' β0 S0 w0 β S w tmps hb0 hn (x0.trans x2) r2 fun t'=>(rt t').ext x2
end Go.AM
namespace Go.AM
inductive Ct where
 | fz (t:Nat)
 | os (t:Nat)
 | bl (t:Nat)
 | bx (k q:Nat)
 | nl (k q:Nat)
 | ot (t:Nat) (e:TypeId)
 | ob (k q:Nat) (e:TypeId)
def ctM (live:List Nat) (m:Nat) (x:Ct) (c:Cfg):Option (List Prop × Cfg):=match x with
 | .fz t=>some ([frzO c.h (look c.ts t)],cut live m ⟨c.n,c.todo,(t,frz c.h (look c.ts t))::c.ts,share c.h (frzM (look c.ts t))⟩)
 | .os t=>match look c.ts t with
  | .own b n=>some ([],cut live m ⟨c.n,c.todo,(t,.os b n 0 n)::c.ts,c.h⟩)
  | _=>none
 | .bl t=>match look c.ts t with
  | .bl b=>some ([],cut live m ⟨c.n,c.todo,(t,.v (.bool b))::c.ts,c.h⟩)
  | _=>none
 | .bx k q=>match c.h[k]? with
  | some (.box cs)=>match cs[q]? with
   | some (.bl b)=>some ([],cut live m ⟨c.n,c.todo,c.ts,c.h.set k (.box (cs.set q (.v (.bool b))))⟩)
   | _=>none
  | _=>none
 | .nl k q=>match c.h[k]? with
  | some (.box cs)=>match cs[q]? with
   | some .nl=>some ([],cut live m ⟨c.n,c.todo,c.ts,c.h.set k (.box (cs.set q (.sl [])))⟩)
   | _=>none
  | _=>none
 | .ot t e=>match look c.ts t with
  | .nl=>some ([],cut live m ⟨c.n,c.todo,(t,.own c.h.length 0)::c.ts,c.h++[Blk.row e [] false]⟩)
  | _=>none
 | .ob k q e=>match c.h[k]? with
  | some (.box cs)=>match cs[q]? with
   | some .nl=>some ([],cut live m ⟨c.n,c.todo,c.ts,(c.h++[Blk.row e [] false]).set k (.box (cs.set q (.own c.h.length 0)))⟩)
   | _=>none
  | _=>none
theorem ctM_ok {E:Env0} {fn:Func} {h0:Heap} {c c':Cfg} {R:AV→Heap→Prop} {live:List Nat} {m:Nat} {x:Ct} {q:List Prop} (hm:Nat.ble h0.length m=true) (h:ctM live m x c=some (q,c')) (ho:allP q) (hg:Good E fn h0 c' R):Good E fn h0 c R:=by
 cases x with
 | fz t =>
  cases h
  exact zlK t live m rfl rfl ho hm rfl hg
 | os t =>
  simp only [ctM] at h
  split at h
  ·rename_i b n hl
   cases h
   exact zmK t b n live m hl hm rfl hg
  ·cases h
 | bl t =>
  simp only [ctM] at h
  split at h
  ·rename_i b hl
   cases h
   exact zsj t b live m hl hm rfl hg
  ·cases h
 | bx k q =>
  simp only [ctM] at h
  split at h
  ·rename_i cs hb
   split at h
   ·rename_i b hi
    cases h
    exact zoB k q b live m hb hi hm rfl hg
   ·cases h
  ·cases h
 | nl k q =>
  simp only [ctM] at h
  split at h
  ·rename_i cs hb
   split at h
   ·rename_i hi
    cases h
    exact zoC k q live m hb hi hm rfl hg
   ·cases h
  ·cases h
 | ot t e =>
  simp only [ctM] at h
  split at h
  ·rename_i hl
   cases h
   exact zbb t e live m hl hm rfl hg
  ·cases h
 | ob k q e =>
  simp only [ctM] at h
  split at h
  ·rename_i cs hb
   split at h
   ·rename_i hi
    cases h
    exact zdN k q e live m hb hi hm rfl hg
   ·cases h
  ·cases h
def cts (live:List Nat) (n0:Nat):List (Ct × Nat)→List Prop→Cfg→Option (List Prop × Cfg)
 | [],q,c=>some (q,c)
 | (x,m)::r,q,c=>match Nat.ble n0 m,ctM live m x c with
  | true,some (q1,c1)=>cts live n0 r (q++q1) c1
  | _,_=>none
theorem zdR:∀ {a b:List Prop},allP (a++b)→allP a∧allP b
 | [],_,h=>⟨trivial,h⟩
 | [_],[],h=>⟨h,trivial⟩
 | [_],_::_,h=>⟨h.1,h.2⟩
 | _::q::r,b,h=>by
  have:=zdR (a:=q::r) (b:=b) h.2
  exact ⟨⟨h.1,this.1⟩,this.2⟩
theorem zh5 {live:List Nat} {n0:Nat}:∀ {l:List (Ct × Nat)} {q q':List Prop} {c c':Cfg},cts live n0 l q c=some (q',c')→∃ q2,q'=q++q2
 | [],_,_,_,_,h=>by
  cases h
  exact ⟨[],by simp⟩
 | (x,m)::r,q,q',c,c',h=>by
  simp only [cts] at h
  split at h
  ·rename_i q1 c1 _ _
   obtain ⟨q2,h2⟩:=zh5 h
   exact ⟨q1++q2,by rw [h2,List.append_assoc]⟩
  ·cases h
theorem zmh {E:Env0} {fn:Func} {h0:Heap} {R:AV→Heap→Prop} {live:List Nat}:∀ {l:List (Ct × Nat)} {q q':List Prop} {c c':Cfg},cts live h0.length l q c=some (q',c')→allP q'→Good E fn h0 c' R→Good E fn h0 c R
 | [],_,_,_,_,h,_,hg=>by
  cases h
  exact hg
 | (x,m)::r,q,q',c,c',h,ho,hg=>by
  simp only [cts] at h
  split at h
  ·rename_i q1 c1 hm hc
   obtain ⟨q2,h2⟩:=zh5 h
   have h3:allP q1:=by
    rw [h2] at ho
    exact (zdR (zdR ho).1).2
   exact ctM_ok hm hc h3 (zmh h ho hg)
  ·cases h
noncomputable def znj (fn:Func) (args:List AV) (h:Heap) (live:List Nat) (m:Nat) (k:List (Ct × Nat)) (os:List Orc):Option (List Prop × Cfg) :=
 match zjr fn args h live m os with
 | some (q,c)=>cts live h.length k q c
 | none=>none
noncomputable def ztY (h0:Heap) (live:List Nat) (m:Nat) (k:List (Ct × Nat)) (c:Cfg) (os:List Orc):Option (List Prop × Cfg) :=
 match zjf h0 live m c os with
 | some (q,c)=>cts live h0.length k q c
 | none=>none
theorem zkS {fn:Func} {h0:Heap} {c c':Cfg} {R:AV→Heap→Prop} {live:List Nat} {m:Nat} {os:List Orc} {q:List Prop} (hm:Nat.ble h0.length m=true) (hu:upto (mk E0) live m 3000 c os=(q,c')) (hq:allP q) (hg:Good E0 fn h0 c' R):Good E0 fn h0 c R:=by
 unfold upto at hu
 have h1:(run (mk E0) 3000 c os).1=q:=by
  have:=congrArg Prod.fst hu
  exact this
 have h2:cut live m (run (mk E0) 3000 c os).2.1=c':=congrArg Prod.snd hu
 exact zli E0ok mix0 3000 os live m hm h1 h2 hq hg
theorem wklN {fn:Func} {R:AV→Heap→Prop} {h0:Heap} {c c':Cfg} (l:List St) (live:List Nat) (m:Nat) (k:List (Ct × Nat)) (hu:ztY h0 live m k c (orcs l)=some (zbe l,c')) (hg:Good E0 fn h0 c' R):Good E0 fn h0 c R:=by
 unfold ztY at hu
 split at hu
 ·rename_i q c1 h1
  unfold zjf at h1
  split at h1
  ·rename_i hm
   obtain ⟨q2,h2⟩:=zh5 hu
   have h3:=zaZ l
   have h4:allP q:=by
    rw [h2] at h3
    exact (zdR h3).1
   exact zkS hm (Option.some.inj h1) h4 (zmh hu h3 hg)
  ·cases h1
 ·cases hu
theorem wkcN {f:FuncId} {fn:Func} {args:List AV} {h:Heap} {R:AV→Heap→Prop} {c':Cfg} (hf:E0.P.funcs[f]?=some fn) (l:List St) (live:List Nat) (m:Nat) (k:List (Ct × Nat)) (hu:znj fn args h live m k (orcs l)=some (zbe l,c'))
  (hg:Good E0 fn h c' (Shut h.length R)):zbI E0 f args h R:=by
 unfold znj at hu
 split at hu
 ·rename_i q c1 h1
  unfold zjr at h1
  split at h1
  ·rename_i c hb hn ha hm
   obtain ⟨q2,h2⟩:=zh5 hu
   have h3:=zaZ l
   have h4:allP q:=by
    rw [h2] at h3
    exact (zdR h3).1
   exact zdl (zaN hf hb hn (Nat.le_of_ble_eq_true ha) (zkS hm (Option.some.inj h1) h4 (zmh hu h3 hg)))
  ·cases h1
 ·cases hu
end Go.AM
namespace Go.AM
set_option maxRecDepth 100000
set_option linter.unusedSimpArgs false
set_option linter.unusedVariables false
theorem zgf {p:Prop} (h:p:=by first|exact hI.push hx (zsb (by assumption))|exact hI.push hx (zrq (by assumption) (by assumption) (by assumption))|exact hI.push hx (zq4 (hc _ (List.mem_of_getElem? hx)) (by assumption))):p:=h
theorem zpi {p:Prop} (h:p:=by first|assumption|omega|(simp;done)|(simp;omega)):p:=h
theorem zo4 {p:Prop} (h:p:=by first|assumption|exact PrefOk.nil _|omega):p:=h
structure ValOk (c:Col) (v:V):Prop where
 good:v.Good
 kind:v.kind=0∨v.kind=c.type
 nn:c.notNull=true→v.kind=c.type
abbrev zfJ (c:Col):Prop:=c.type=1∨c.type=2∨c.type=3
structure PrefOk (cols:List Col) (n:Nat) (vals:List V):Prop where
 len:vals.length=n
 at_:∀ (k:Nat) (c:Col) (v:V),cols[k]?=some c→vals[k]?=some v→ValOk c v
abbrev zbU (cols:List Col) (vals:List V):Prop:=PrefOk cols cols.length vals
theorem PrefOk.nil (cols:List Col):PrefOk cols 0 []:=⟨rfl,fun k c v _ h=>by simp at h⟩
theorem PrefOk.push {cols:List Col} {n:Nat} {vals:List V} (h:PrefOk cols n vals) {c:Col} (hc:cols[n]?=some c) {v:V} (hv:ValOk c v):PrefOk cols (n+1) (vals++[v]):=by
 refine ⟨by simp [h.len],fun k c' v' h1 h2=>?_⟩
 by_cases hk:k < vals.length
 ·rw [List.getElem?_append_left hk] at h2
  exact h.at_ k c' v' h1 h2
 ·rw [List.getElem?_append_right (by omega)] at h2
  have hl:=h.len
  have:k - vals.length=0:=by
   rcases Nat.eq_zero_or_pos (k - vals.length) with h|h
   ·exact h
   ·rw [List.getElem?_eq_none (by simp;omega)] at h2;cases h2
  rw [this] at h2
  simp only [List.getElem?_cons_zero,Option.some.injEq] at h2
  have:k=n:=by omega
  subst this
  rw [h1] at hc
  cases hc
  exact h2 ▸ hv
theorem zq4 {c:Col} {v:V} (ht:zfJ c) (h:v.kind=zbJ c.type∧v.Good):ValOk c v:=by
 have:zbJ c.type=c.type:=by simp only [zbJ];exact if_pos ht
 exact ⟨h.2,.inr (h.1.trans this),fun _=>h.1.trans this⟩
theorem zqT {v:V} (h:v.Good) (hk:v.kind=1) {a:Int} (ha:I64 a):V.Good ⟨v.kind,a,v.text⟩:=by
 refine ⟨?_,ha,h.small⟩
 have:=h.valid
 simp only [zcD,hk] at this ⊢
 exact this
theorem zrq {c:Col} {v:V} {a:Int} (h:v.kind=zbJ c.type∧v.Good) (hc:(c.type==(1:Int))=true) (ha:-3≤a∧a≤12):ValOk c ⟨v.kind,a,v.text⟩:=by
 have e:c.type=1:=by simpa using hc
 have:v.kind=1:=by rw [h.1,e];rfl
 exact ⟨zqT h.2 this ⟨by omega,by omega⟩,.inr (by rw [e];exact this),fun _=>by rw [e];exact this⟩
theorem zsb {c:Col} (h:(!c.notNull)=true):ValOk c ⟨0,0,⟨#[]⟩⟩:=⟨zaD,.inl rfl,fun h'=>by rw [h'] at h;cases h⟩
noncomputable def L_row (t0:Tp) (s:Sch) (i:Nat) (t:Tp) (out:List V):Cfg:=zal B.world_Tape_Row 0 [(0,.p 0 0),(5,.own 1 out.length),(10,.sl (s.cols.map Col.cells)),(11,iv ((s.cols.map Col.cells).length:Nat)),(12,iv (i:Nat))] [.box t.cells,.row Ty.Value (out.map V.cells) false]
theorem zga (t0:Tp) (s:Sch) (hl:zac s.cols) (hc:∀ c∈s.cols,zfJ c) (i:Nat) (t:Tp) (out:List V) (hi:i≤(s.cols).length) (hI:PrefOk s.cols i out):∃ (t':Tp) (out':List V),(PrefOk s.cols (s.cols).length out')∧(decide ((((s.cols).length:Nat):Int) < (((s.cols.map Col.cells).length:Nat):Int))=false)∧∀ R,Good E0 B.world_Tape_Row [.box t0.cells] (L_row t0 s (s.cols).length t' out') R→Good E0 B.world_Tape_Row [.box t0.cells] (L_row t0 s i t out) R:=by
 obtain ⟨kk,hk⟩:∃ kk,i+kk=(s.cols).length:=⟨(s.cols).length - i,by omega⟩
 induction kk generalizing i t out with
 | zero =>
  have e0:i=(s.cols).length:=by omega
  subst e0
  exact ⟨t,out,hI,by simp,fun R hg=>hg⟩
 | succ kk ih =>
  obtain ⟨x,hx⟩:=zav (l:=s.cols) (i:=i) (by omega)
  have h0:decide (((i:Nat):Int) < (((s.cols.map Col.cells).length:Nat):Int))=true:=by simp;omega
  have hw:IntKind.i64.wrap (((i:Nat):Int)+1)=((i+1:Nat):Int):=zak i (by first|omega|(simp only [zac,Few] at *;omega))
  have hlen:=hI.len
  obtain ⟨v1,t1,q1,c1⟩:=(zjT t x.type)
  let p_1:List St:=[sb h0,se (zaf Col.cells hx rfl),sl [0] c1]
  cases h2:x.type==1
  ·cases h3:!x.notNull
   ·obtain ⟨tZ,outZ,qZ,xZ,gZ⟩:=ih (i+1) t1 (out++[v1]) (by omega) zgf (by omega);exact ⟨tZ,outZ,qZ,xZ,fun R hg=>zab (wkl (p_1++[sb h2,sb h3,sqx (AllLen [[iv v1.kind,iv v1.int,sv v1.text]] 3∧out.length=(List.map V.cells out).length∧(((List.map V.cells out).length+[[iv v1.kind,iv v1.int,sv v1.text]].length) * 32).le 140737488355328),si hw]) [0,5,10,11,12] 2 kr (zan (show ([(0,AV.p 0 0),(5,AV.own 1 (List.map V.cells out++[[iv v1.kind,iv v1.int,sv v1.text]]).length),(10,AV.sl (List.map Col.cells s.cols)),(11,iv (↑(List.map Col.cells s.cols).length:Int)),(12,iv (↑(i+1):Int))]:TS)=[(0,AV.p 0 0),(5,AV.own 1 (out++[v1]).length),(10,AV.sl (List.map Col.cells s.cols)),(11,iv (↑(List.map Col.cells s.cols).length:Int)),(12,iv (↑(i+1):Int))] by first|rfl|(simp;done)|(simp [X.cells,Qy.cells,V.cells,Col.cells,Rw.cells,Tb.cells,Fr.cells,Sch.cells,Tp.cells,Pl.cells];done)) (show ([Blk.box [AV.sl (List.map (fun n=>[iv n]) t1.l),iv (t1.pos:Int)],Blk.row Ty.Value (List.map V.cells out++[[iv v1.kind,iv v1.int,sv v1.text]]) false]:Heap)=[Blk.box t1.cells,Blk.row Ty.Value (List.map V.cells (out++[v1])) false] by first|rfl|(simp;done)|(simp [X.cells,Qy.cells,V.cells,Col.cells,Rw.cells,Tb.cells,Fr.cells,Sch.cells,Tp.cells,Pl.cells];done)) (gZ R hg)))⟩
   ·obtain ⟨b4,t4,c4⟩:=(zcZ t1 5 zpi)
    rcases (Bool.eq_false_or_eq_true b4).symm with h5|h5
    ·obtain ⟨tZ,outZ,qZ,xZ,gZ⟩:=ih (i+1) t4 (out++[v1]) (by omega) zgf (by omega);exact ⟨tZ,outZ,qZ,xZ,fun R hg=>zab (wkl (p_1++[sb h2,sg h3,sl [0] c4,sb h5,sqx (AllLen [[iv v1.kind,iv v1.int,sv v1.text]] 3∧out.length=(List.map V.cells out).length∧(((List.map V.cells out).length+[[iv v1.kind,iv v1.int,sv v1.text]].length) * 32).le 140737488355328),si hw]) [0,5,10,11,12] 2 kr (zan (show ([(0,AV.p 0 0),(5,AV.own 1 (List.map V.cells out++[[iv v1.kind,iv v1.int,sv v1.text]]).length),(10,AV.sl (List.map Col.cells s.cols)),(11,iv (↑(List.map Col.cells s.cols).length:Int)),(12,iv (↑(i+1):Int))]:TS)=[(0,AV.p 0 0),(5,AV.own 1 (out++[v1]).length),(10,AV.sl (List.map Col.cells s.cols)),(11,iv (↑(List.map Col.cells s.cols).length:Int)),(12,iv (↑(i+1):Int))] by first|rfl|(simp;done)|(simp [X.cells,Qy.cells,V.cells,Col.cells,Rw.cells,Tb.cells,Fr.cells,Sch.cells,Tp.cells,Pl.cells];done)) (show ([Blk.box [AV.sl (List.map (fun n=>[iv n]) t4.l),iv (t4.pos:Int)],Blk.row Ty.Value (List.map V.cells out++[[iv v1.kind,iv v1.int,sv v1.text]]) false]:Heap)=[Blk.box t4.cells,Blk.row Ty.Value (List.map V.cells (out++[v1])) false] by first|rfl|(simp;done)|(simp [X.cells,Qy.cells,V.cells,Col.cells,Rw.cells,Tb.cells,Fr.cells,Sch.cells,Tp.cells,Pl.cells];done)) (gZ R hg)))⟩
    ·obtain ⟨tZ,outZ,qZ,xZ,gZ⟩:=ih (i+1) t4 (out++[V.mk 0 0 (ByteArray.mk #[])]) (by omega) zgf (by omega);exact ⟨tZ,outZ,qZ,xZ,fun R hg=>zab (wkl (p_1++[sb h2,sg h3,sl [0] c4,sb h5,sqx (AllLen [[iv 0,iv 0,sv (ByteArray.mk #[])]] 3∧out.length=(List.map V.cells out).length∧(((List.map V.cells out).length+[[iv 0,iv 0,sv (ByteArray.mk #[])]].length) * 32).le 140737488355328),si hw]) [0,5,10,11,12] 2 kr (zan (show ([(0,AV.p 0 0),(5,AV.own 1 (List.map V.cells out++[[iv 0,iv 0,sv (ByteArray.mk #[])]]).length),(10,AV.sl (List.map Col.cells s.cols)),(11,iv (↑(List.map Col.cells s.cols).length:Int)),(12,iv (↑(i+1):Int))]:TS)=[(0,AV.p 0 0),(5,AV.own 1 (out++[V.mk 0 0 (ByteArray.mk #[])]).length),(10,AV.sl (List.map Col.cells s.cols)),(11,iv (↑(List.map Col.cells s.cols).length:Int)),(12,iv (↑(i+1):Int))] by first|rfl|(simp;done)|(simp [X.cells,Qy.cells,V.cells,Col.cells,Rw.cells,Tb.cells,Fr.cells,Sch.cells,Tp.cells,Pl.cells];done)) (show ([Blk.box [AV.sl (List.map (fun n=>[iv n]) t4.l),iv (t4.pos:Int)],Blk.row Ty.Value (List.map V.cells out++[[iv 0,iv 0,sv (ByteArray.mk #[])]]) false]:Heap)=[Blk.box t4.cells,Blk.row Ty.Value (List.map V.cells (out++[V.mk 0 0 (ByteArray.mk #[])])) false] by first|rfl|(simp;done)|(simp [X.cells,Qy.cells,V.cells,Col.cells,Rw.cells,Tb.cells,Fr.cells,Sch.cells,Tp.cells,Pl.cells];done)) (gZ R hg)))⟩
  ·obtain ⟨b6,t6,c6⟩:=(zcZ t1 9 zpi)
   cases h7:!b6
   ·cases h8:!x.notNull
    ·obtain ⟨tZ,outZ,qZ,xZ,gZ⟩:=ih (i+1) t6 (out++[v1]) (by omega) zgf (by omega);exact ⟨tZ,outZ,qZ,xZ,fun R hg=>zab (wkl (p_1++[sg h2,sl [0] c6,sb h7,sb h8,sqx (AllLen [[iv v1.kind,iv v1.int,sv v1.text]] 3∧out.length=(List.map V.cells out).length∧(((List.map V.cells out).length+[[iv v1.kind,iv v1.int,sv v1.text]].length) * 32).le 140737488355328),si hw]) [0,5,10,11,12] 2 kr (zan (show ([(0,AV.p 0 0),(5,AV.own 1 (List.map V.cells out++[[iv v1.kind,iv v1.int,sv v1.text]]).length),(10,AV.sl (List.map Col.cells s.cols)),(11,iv (↑(List.map Col.cells s.cols).length:Int)),(12,iv (↑(i+1):Int))]:TS)=[(0,AV.p 0 0),(5,AV.own 1 (out++[v1]).length),(10,AV.sl (List.map Col.cells s.cols)),(11,iv (↑(List.map Col.cells s.cols).length:Int)),(12,iv (↑(i+1):Int))] by first|rfl|(simp;done)|(simp [X.cells,Qy.cells,V.cells,Col.cells,Rw.cells,Tb.cells,Fr.cells,Sch.cells,Tp.cells,Pl.cells];done)) (show ([Blk.box [AV.sl (List.map (fun n=>[iv n]) t6.l),iv (t6.pos:Int)],Blk.row Ty.Value (List.map V.cells out++[[iv v1.kind,iv v1.int,sv v1.text]]) false]:Heap)=[Blk.box t6.cells,Blk.row Ty.Value (List.map V.cells (out++[v1])) false] by first|rfl|(simp;done)|(simp [X.cells,Qy.cells,V.cells,Col.cells,Rw.cells,Tb.cells,Fr.cells,Sch.cells,Tp.cells,Pl.cells];done)) (gZ R hg)))⟩
    ·obtain ⟨b9,t9,c9⟩:=(zcZ t6 5 zpi)
     let p_2:List St:=p_1++[sg h2,sl [0] c6,sb h7,sg h8,sl [0] c9]
     rcases (Bool.eq_false_or_eq_true b9).symm with h10|h10
     ·obtain ⟨tZ,outZ,qZ,xZ,gZ⟩:=ih (i+1) t9 (out++[v1]) (by omega) zgf (by omega);exact ⟨tZ,outZ,qZ,xZ,fun R hg=>zab (wkl (p_2++[sb h10,sqx (AllLen [[iv v1.kind,iv v1.int,sv v1.text]] 3∧out.length=(List.map V.cells out).length∧(((List.map V.cells out).length+[[iv v1.kind,iv v1.int,sv v1.text]].length) * 32).le 140737488355328),si hw]) [0,5,10,11,12] 2 kr (zan (show ([(0,AV.p 0 0),(5,AV.own 1 (List.map V.cells out++[[iv v1.kind,iv v1.int,sv v1.text]]).length),(10,AV.sl (List.map Col.cells s.cols)),(11,iv (↑(List.map Col.cells s.cols).length:Int)),(12,iv (↑(i+1):Int))]:TS)=[(0,AV.p 0 0),(5,AV.own 1 (out++[v1]).length),(10,AV.sl (List.map Col.cells s.cols)),(11,iv (↑(List.map Col.cells s.cols).length:Int)),(12,iv (↑(i+1):Int))] by first|rfl|(simp;done)|(simp [X.cells,Qy.cells,V.cells,Col.cells,Rw.cells,Tb.cells,Fr.cells,Sch.cells,Tp.cells,Pl.cells];done)) (show ([Blk.box [AV.sl (List.map (fun n=>[iv n]) t9.l),iv (t9.pos:Int)],Blk.row Ty.Value (List.map V.cells out++[[iv v1.kind,iv v1.int,sv v1.text]]) false]:Heap)=[Blk.box t9.cells,Blk.row Ty.Value (List.map V.cells (out++[v1])) false] by first|rfl|(simp;done)|(simp [X.cells,Qy.cells,V.cells,Col.cells,Rw.cells,Tb.cells,Fr.cells,Sch.cells,Tp.cells,Pl.cells];done)) (gZ R hg)))⟩
     ·obtain ⟨tZ,outZ,qZ,xZ,gZ⟩:=ih (i+1) t9 (out++[V.mk 0 0 (ByteArray.mk #[])]) (by omega) zgf (by omega);exact ⟨tZ,outZ,qZ,xZ,fun R hg=>zab (wkl (p_2++[sb h10,sqx (AllLen [[iv 0,iv 0,sv (ByteArray.mk #[])]] 3∧out.length=(List.map V.cells out).length∧(((List.map V.cells out).length+[[iv 0,iv 0,sv (ByteArray.mk #[])]].length) * 32).le 140737488355328),si hw]) [0,5,10,11,12] 2 kr (zan (show ([(0,AV.p 0 0),(5,AV.own 1 (List.map V.cells out++[[iv 0,iv 0,sv (ByteArray.mk #[])]]).length),(10,AV.sl (List.map Col.cells s.cols)),(11,iv (↑(List.map Col.cells s.cols).length:Int)),(12,iv (↑(i+1):Int))]:TS)=[(0,AV.p 0 0),(5,AV.own 1 (out++[V.mk 0 0 (ByteArray.mk #[])]).length),(10,AV.sl (List.map Col.cells s.cols)),(11,iv (↑(List.map Col.cells s.cols).length:Int)),(12,iv (↑(i+1):Int))] by first|rfl|(simp;done)|(simp [X.cells,Qy.cells,V.cells,Col.cells,Rw.cells,Tb.cells,Fr.cells,Sch.cells,Tp.cells,Pl.cells];done)) (show ([Blk.box [AV.sl (List.map (fun n=>[iv n]) t9.l),iv (t9.pos:Int)],Blk.row Ty.Value (List.map V.cells out++[[iv 0,iv 0,sv (ByteArray.mk #[])]]) false]:Heap)=[Blk.box t9.cells,Blk.row Ty.Value (List.map V.cells (out++[V.mk 0 0 (ByteArray.mk #[])])) false] by first|rfl|(simp;done)|(simp [X.cells,Qy.cells,V.cells,Col.cells,Rw.cells,Tb.cells,Fr.cells,Sch.cells,Tp.cells,Pl.cells];done)) (gZ R hg)))⟩
   ·obtain ⟨a11,t11,q11,c11⟩:=(zkP t6)
    cases h12:!x.notNull
    ·obtain ⟨tZ,outZ,qZ,xZ,gZ⟩:=ih (i+1) t11 (out++[V.mk v1.kind a11 v1.text]) (by omega) zgf (by omega);exact ⟨tZ,outZ,qZ,xZ,fun R hg=>zab (wkl (p_1++[sg h2,sl [0] c6,sb h7,sl [0] c11,sb h12,sqx (AllLen [[iv v1.kind,iv a11,sv v1.text]] 3∧out.length=(List.map V.cells out).length∧(((List.map V.cells out).length+[[iv v1.kind,iv a11,sv v1.text]].length) * 32).le 140737488355328),si hw]) [0,5,10,11,12] 2 kr (zan (show ([(0,AV.p 0 0),(5,AV.own 1 (List.map V.cells out++[[iv v1.kind,iv a11,sv v1.text]]).length),(10,AV.sl (List.map Col.cells s.cols)),(11,iv (↑(List.map Col.cells s.cols).length:Int)),(12,iv (↑(i+1):Int))]:TS)=[(0,AV.p 0 0),(5,AV.own 1 (out++[V.mk v1.kind a11 v1.text]).length),(10,AV.sl (List.map Col.cells s.cols)),(11,iv (↑(List.map Col.cells s.cols).length:Int)),(12,iv (↑(i+1):Int))] by first|rfl|(simp;done)|(simp [X.cells,Qy.cells,V.cells,Col.cells,Rw.cells,Tb.cells,Fr.cells,Sch.cells,Tp.cells,Pl.cells];done)) (show ([Blk.box [AV.sl (List.map (fun n=>[iv n]) t11.l),iv (t11.pos:Int)],Blk.row Ty.Value (List.map V.cells out++[[iv v1.kind,iv a11,sv v1.text]]) false]:Heap)=[Blk.box t11.cells,Blk.row Ty.Value (List.map V.cells (out++[V.mk v1.kind a11 v1.text])) false] by first|rfl|(simp;done)|(simp [X.cells,Qy.cells,V.cells,Col.cells,Rw.cells,Tb.cells,Fr.cells,Sch.cells,Tp.cells,Pl.cells];done)) (gZ R hg)))⟩
    ·obtain ⟨b13,t13,c13⟩:=(zcZ t11 5 zpi)
     let p_3:List St:=p_1++[sg h2,sl [0] c6,sb h7,sl [0] c11,sg h12,sl [0] c13]
     rcases (Bool.eq_false_or_eq_true b13).symm with h14|h14
     ·obtain ⟨tZ,outZ,qZ,xZ,gZ⟩:=ih (i+1) t13 (out++[V.mk v1.kind a11 v1.text]) (by omega) zgf (by omega);exact ⟨tZ,outZ,qZ,xZ,fun R hg=>zab (wkl (p_3++[sb h14,sqx (AllLen [[iv v1.kind,iv a11,sv v1.text]] 3∧out.length=(List.map V.cells out).length∧(((List.map V.cells out).length+[[iv v1.kind,iv a11,sv v1.text]].length) * 32).le 140737488355328),si hw]) [0,5,10,11,12] 2 kr (zan (show ([(0,AV.p 0 0),(5,AV.own 1 (List.map V.cells out++[[iv v1.kind,iv a11,sv v1.text]]).length),(10,AV.sl (List.map Col.cells s.cols)),(11,iv (↑(List.map Col.cells s.cols).length:Int)),(12,iv (↑(i+1):Int))]:TS)=[(0,AV.p 0 0),(5,AV.own 1 (out++[V.mk v1.kind a11 v1.text]).length),(10,AV.sl (List.map Col.cells s.cols)),(11,iv (↑(List.map Col.cells s.cols).length:Int)),(12,iv (↑(i+1):Int))] by first|rfl|(simp;done)|(simp [X.cells,Qy.cells,V.cells,Col.cells,Rw.cells,Tb.cells,Fr.cells,Sch.cells,Tp.cells,Pl.cells];done)) (show ([Blk.box [AV.sl (List.map (fun n=>[iv n]) t13.l),iv (t13.pos:Int)],Blk.row Ty.Value (List.map V.cells out++[[iv v1.kind,iv a11,sv v1.text]]) false]:Heap)=[Blk.box t13.cells,Blk.row Ty.Value (List.map V.cells (out++[V.mk v1.kind a11 v1.text])) false] by first|rfl|(simp;done)|(simp [X.cells,Qy.cells,V.cells,Col.cells,Rw.cells,Tb.cells,Fr.cells,Sch.cells,Tp.cells,Pl.cells];done)) (gZ R hg)))⟩
     ·obtain ⟨tZ,outZ,qZ,xZ,gZ⟩:=ih (i+1) t13 (out++[V.mk 0 0 (ByteArray.mk #[])]) (by omega) zgf (by omega);exact ⟨tZ,outZ,qZ,xZ,fun R hg=>zab (wkl (p_3++[sb h14,sqx (AllLen [[iv 0,iv 0,sv (ByteArray.mk #[])]] 3∧out.length=(List.map V.cells out).length∧(((List.map V.cells out).length+[[iv 0,iv 0,sv (ByteArray.mk #[])]].length) * 32).le 140737488355328),si hw]) [0,5,10,11,12] 2 kr (zan (show ([(0,AV.p 0 0),(5,AV.own 1 (List.map V.cells out++[[iv 0,iv 0,sv (ByteArray.mk #[])]]).length),(10,AV.sl (List.map Col.cells s.cols)),(11,iv (↑(List.map Col.cells s.cols).length:Int)),(12,iv (↑(i+1):Int))]:TS)=[(0,AV.p 0 0),(5,AV.own 1 (out++[V.mk 0 0 (ByteArray.mk #[])]).length),(10,AV.sl (List.map Col.cells s.cols)),(11,iv (↑(List.map Col.cells s.cols).length:Int)),(12,iv (↑(i+1):Int))] by first|rfl|(simp;done)|(simp [X.cells,Qy.cells,V.cells,Col.cells,Rw.cells,Tb.cells,Fr.cells,Sch.cells,Tp.cells,Pl.cells];done)) (show ([Blk.box [AV.sl (List.map (fun n=>[iv n]) t13.l),iv (t13.pos:Int)],Blk.row Ty.Value (List.map V.cells out++[[iv 0,iv 0,sv (ByteArray.mk #[])]]) false]:Heap)=[Blk.box t13.cells,Blk.row Ty.Value (List.map V.cells (out++[V.mk 0 0 (ByteArray.mk #[])])) false] by first|rfl|(simp;done)|(simp [X.cells,Qy.cells,V.cells,Col.cells,Rw.cells,Tb.cells,Fr.cells,Sch.cells,Tp.cells,Pl.cells];done)) (gZ R hg)))⟩
theorem zgL (t:Tp) (s:Sch) (hl:zac s.cols) (hc:∀ c∈s.cols,zfJ c):∃ (r:List V) (t':Tp),zbU s.cols r∧zaa E0 S.world_Tape_Row [.p 0 0,s.av] [.box t.cells] (vsl r) [.box t'.cells]:=by
 obtain ⟨t1,out1,q1,q1_1,g1⟩:=zga t s zo4 zo4 0 t ([]) zo4 zo4
 exact ⟨out1,t1,(by first|assumption|trivial|(simp;done)|omega|(simp;omega)|(simp at *;omega)),wkcN At.world_Tape_Row [] [0,5,10,11,12] 1 [(.ot 5 Ty.Value,2)] kr (g1 _ (zab (wkr [sqx (out1.length=(List.map V.cells out1).length),sb q1_1] kr)))⟩
def zao :(List Sch) :=
 [Sch.mk (ByteArray.mk #[108,111,103]) [Col.mk (ByteArray.mk #[110]) 1 false false,Col.mk (ByteArray.mk #[115]) 3 false false],Sch.mk (ByteArray.mk #[116]) [Col.mk (ByteArray.mk #[105,100]) 1 true true,Col.mk (ByteArray.mk #[110]) 1 false false,Col.mk (ByteArray.mk #[98]) 2 false false,Col.mk (ByteArray.mk #[115]) 3 false false],Sch.mk (ByteArray.mk #[117]) [Col.mk (ByteArray.mk #[105,100]) 1 true true,Col.mk (ByteArray.mk #[110]) 1 true false,Col.mk (ByteArray.mk #[109]) 1 false false]]
theorem zhl  :zaa E0 S.world_Schemas [] [] (.sl (zao.map Sch.cells)) []:=by
 unfold zao
 exact (by (try simp only [X.av,Qy.av,V.av,Tb.av,Sch.av,Pl.av,xsl,fsl,vsl,tsl,List.map_append,List.map_cons,List.map_nil,V.cells,Col.cells,Rw.cells,Tb.cells,Fr.cells,Sch.cells,Pl.cells,zaW,zaI,zaO,zaM,zaT,X.cells,Qy.cells,X.args_mk,X.sub_mk,Qy.items_mk,Qy.wh_mk]);exact wk At.world_Schemas [] kr)
theorem zcK:zac zao:=by simp [zao]
noncomputable def ztG (n:Str) (i:Nat) :Cfg:=zal B.world_Schema 0 [(0,sv n),(2,.p 0 0),(5,.sl (zao.map Sch.cells)),(6,iv ((zao.map Sch.cells).length:Nat)),(7,iv (i:Nat))] [.box [sv ⟨#[]⟩,.nl]]
def ziD (n:Str):List (Sch)→Nat→Sch
 | [],i =>
  Sch.mk (ByteArray.mk #[]) []
 | x::r,i =>
  bif ByteArray.toList x.name==ByteArray.toList n then
   x
  else
   ziD n r (i+1)
theorem znN (n:Str) (hs:zac zao):∀ (kk i:Nat),i+kk=(zao).length→Good E0 B.world_Schema [] (ztG n i ) (Shut 0 fun r h=>r=((ziD n ((zao).drop i) i ).av)∧h=[]):=by
 intro kk
 induction kk with
 | zero =>
  intro i  hi
  have h0:decide (((i:Nat):Int) < (((zao.map Sch.cells).length:Nat):Int))=false:=by simp;omega
  have e0:(zao).drop i=[]:=List.drop_of_length_le (by omega)
  rw [e0]
  simp only [ziD]
  refine zab ?_
  exact wkr [sb h0] kr
 | succ kk ih =>
  intro i  hi
  obtain ⟨x,hx⟩:=zav (l:=zao) (i:=i) (by omega)
  have h0:decide (((i:Nat):Int) < (((zao.map Sch.cells).length:Nat):Int))=true:=by simp;omega
  have hw:=zak i (by first|omega|(simp only [zac,Few] at *;omega))
  rw [zaR hx]
  simp only [ziD]
  refine zab ?_
  let p_1:List St:=[sb h0,se (zaf Sch.cells hx rfl)]
  cases h1:ByteArray.toList x.name==ByteArray.toList n
  ·exact wkl (p_1++[sb h1,si hw]) [0,2,5,6,7] 1 kr (ih (i+1) (by omega) )
  ·exact wkr (p_1++[sb h1]) kr
def zjk (n:Str):Sch :=
 ziD n zao (0)
theorem zfv (n:Str) (hs:zac zao):zaa E0 S.world_Schema [sv n] [] ((zjk n).av) []:=by
 unfold zjk
 exact wkc At.world_Schema [sc zhl] [0,2,5,6,7] 1 kr (znN n hs zao.length 0 (by simp))
theorem zuk (n:Int) (h1:decide (n < (0:Int))=false):Pure S.world_Num [iv n] (X.av (xLit ⟨1,n,⟨#[]⟩⟩)):=by
 exact wk At.world_Num [sb h1,sc (zhH (V.mk 1 n ⟨#[]⟩))] kr
def xNeg (a:X):X:=X.mk 4 0 false ⟨0,0,⟨#[]⟩⟩ ⟨#[]⟩ ⟨#[]⟩ [a] []
theorem c_Num1 (n:Int) (h1:decide (n < (0:Int))=true) (h2:-9223372036854775808 < n):Pure S.world_Num [iv n] (X.av (xNeg (xLit ⟨1,IntKind.i64.wrap (-n),⟨#[]⟩⟩))):=by
 have hk:=zuk (IntKind.i64.wrap (-n)) (by rw [IntKind.wrap_i64];simp at *;omega)
 unfold xNeg
 simp only [X.av,xLit,zaI,zaO,X.cells,X.args_mk,X.sub_mk]
 exact wk At.world_Num [sb h1,si (e:=IntKind.i64.wrap (-n)) rfl,sc hk] kr
def xNum (n:Int):X:=bif decide (n < 0) then xNeg (xLit ⟨1,IntKind.i64.wrap (-n),⟨#[]⟩⟩) else xLit ⟨1,n,⟨#[]⟩⟩
theorem zrf (n:Int) (h2:-9223372036854775808 < n):Pure S.world_Num [iv n] (X.av (xNum n)):=by
 unfold xNum
 cases h:decide (n < 0)
 ·exact zuk n h
 ·exact c_Num1 n h h2
def zi1 (l:List V):(List V) :=
 l
def plIn (p:Pl) (s:Sch):Pl :=
 Pl.mk (p.frs++[Fr.mk s.name false s.cols []]) p.tbs
end Go.AM
namespace Go.AM
set_option maxRecDepth 100000
set_option linter.unusedSimpArgs false
set_option linter.unusedVariables false
abbrev Few {α:Type} (l:List α):Prop:=l.length≤1000
def zsd (x:X):Prop:=∃ a b,x=xCol a b
def zlg (l:List X):Prop:=∀ x∈l,zsd x
theorem zlg.nil:zlg []:=fun _ h=>by cases h
theorem zlg.col (a b:Str):zlg [xCol a b]:=fun x hx=>by simp only [List.mem_singleton] at hx;exact ⟨a,b,hx⟩
theorem zlg.at {l:List X} (h:zlg l) {i:Nat} {x:X} (hx:l[i]?=some x):zsd x:=h x (List.mem_of_getElem? hx)
structure Pl.Ok (p:Pl):Prop where
 frs:Few p.frs
 cols:∀ f∈p.frs,Few f.cols
abbrev zT:List AV:=[sv ⟨#[]⟩,.nl,iv 0,.nl]
structure TabOk (t:Tb):Prop where
 rows:∀ r∈t.rows,zbU t.sch.cols r.vals
 len:t.rows.length≤1000
structure SchOk (s:Sch):Prop where
 few:Few s.cols
 cols:∀ c∈s.cols,zfJ c
 ne:s.cols≠[]
abbrev zdS (n:Nat) (key:Int):Prop:=key < n
theorem SchOk.short {s:Sch} (h:SchOk s):zac s.cols:=by have:=h.few;simp only [Few] at this;simp only [zac];omega
def zaB (l:List V) (key:Int):V:=l.getD key.toNat V.null
theorem zfR (l:List V) (key:Int) (hk:decide (key < 0)=false) (h:key < l.length):ElAt (l.map V.cells) key (zaB l key).cells 3:=by
 have h0:0≤key:=by simpa using hk
 refine ⟨h0,?_,rfl⟩
 have:key.toNat < l.length:=by omega
 simp [zaB,List.getD_eq_getElem?_getD,List.getElem?_eq_getElem this]
abbrev zgF (s:Sch) (rows:List Rw):Prop:=∀ r∈rows,zbU s.cols r.vals
theorem zgF.len {s:Sch} {rows:List Rw} (h:zgF s rows) {i:Nat} {x:Rw} (hx:rows[i]?=some x):x.vals.length=s.cols.length:=(h x (List.mem_of_getElem? hx)).len
theorem zgF.push {s:Sch} {rows:List Rw} (h:zgF s rows) {x:Rw} (hx:zbU s.cols x.vals):zgF s (rows++[x]):=fun r hr=>(List.mem_append.1 hr).elim (h r) fun h=>by simp only [List.mem_singleton] at h;exact h ▸ hx
theorem zlS {x:Sch} (hx:x∈zao):SchOk x:=by
 simp only [zao,List.mem_cons,List.not_mem_nil,or_false] at hx
 rcases hx with rfl|rfl|rfl <;> exact ⟨by simp,by simp [zfJ],by simp⟩
structure StoreOk (l:List Tb):Prop where
 len:l.length≤1000
 tabs:∀ t∈l,TabOk t∧SchOk t.sch
theorem StoreOk.push {l:List Tb} (h:StoreOk l) (hl:l.length+1≤1000) {t:Tb} (ht:TabOk t) (hs:SchOk t.sch):StoreOk (l++[t]) :=
 ⟨by simp;omega,fun x hx=>(List.mem_append.1 hx).elim (h.tabs x) fun h=>by simp only [List.mem_singleton] at h;exact h ▸ ⟨ht,hs⟩⟩
end Go.AM
namespace Go.AM
set_option maxRecDepth 100000
set_option linter.unusedSimpArgs false
set_option linter.unusedVariables false
abbrev Thin {α:Type} (k:Nat) (l:List α):Prop:=l.length≤k
theorem Thin.few {α:Type} {k:Nat} {l:List α} (h:Thin k l) (hk:k≤1000:=by decide):Few l:=Nat.le_trans h hk
theorem Thin.short {α:Type} {k:Nat} {l:List α} (h:Thin k l) (hk:k≤1000000000:=by decide):zac l:=Nat.le_trans h hk
def XOk:Nat→X→Prop
 | 0,_=>False
 | n+1,e=>e.val.Good∧(Thin 3 e.args∧Thin 1 e.sub)∧(∀ x∈e.args,XOk n x)∧∀ q∈e.sub,(Thin 8 q.items∧Thin 1 q.wh)∧(∀ x∈q.items,XOk n x)∧∀ x∈q.wh,XOk n x
theorem XOk.mono:∀ {n:Nat} {e:X},XOk n e→XOk (n+1) e
 | 0,_,h=>h.elim
 | n+1,e,⟨h1,h2,h3,h4⟩=>⟨h1,h2,fun x hx=>(h3 x hx).mono,fun q hq=>⟨(h4 q hq).1,fun x hx=>((h4 q hq).2.1 x hx).mono,fun x hx=>((h4 q hq).2.2 x hx).mono⟩⟩
theorem XOk.le {n m:Nat} {e:X} (h:XOk n e) (hm:n≤m):XOk m e:=by
 induction hm with
 | refl=>exact h
 | step _ ih=>exact ih.mono
theorem zir {n:Nat} {v:V} (h:v.Good):XOk (n+1) (xLit v):=⟨h,⟨by simp [xLit],by simp [xLit]⟩,fun x hx=>by simp [xLit] at hx,fun q hq=>by simp [xLit] at hq⟩
theorem zwG {n:Nat} {x:X} (h:zsd x):XOk (n+1) x:=by
 obtain ⟨a,b,rfl⟩:=h
 exact ⟨zaD,⟨by simp [xCol],by simp [xCol]⟩,fun x hx=>by simp [xCol] at hx,fun q hq=>by simp [xCol] at hq⟩
theorem zu3 {n:Nat} {k o:Int} {nt:Bool} {l:List X} (hl:Thin 3 l) (h:∀ x∈l,XOk n x):XOk (n+1) (X.mk k o nt ⟨0,0,⟨#[]⟩⟩ ⟨#[]⟩ ⟨#[]⟩ l []) :=
 ⟨zaD,⟨hl,by simp⟩,h,fun q hq=>by simp at hq⟩
theorem xok_1 {n:Nat} {k o:Int} {nt:Bool} {a:X} (h:XOk n a):XOk (n+1) (X.mk k o nt ⟨0,0,⟨#[]⟩⟩ ⟨#[]⟩ ⟨#[]⟩ [a] []) :=
 zu3 (by simp) fun x hx=>by simp only [List.mem_singleton] at hx;exact hx ▸ h
theorem zv7 {n:Nat} {a:Int} (h:-9223372036854775808 < a) (h2:a≤9223372036854775807):XOk (n+2) (xNum a):=by
 unfold xNum
 cases decide (a < 0)
 ·exact zir (zbw ⟨by omega,by omega⟩)
 ·exact xok_1 (zir (zbw (zcW _)))
structure Pl.OkN (n:Nat) (p:Pl):Prop where
 frs:p.frs.length+n≤1000
 cols:∀ f∈p.frs,Few f.cols
 ne:p.tbs≠[]
 few:Few p.tbs
 tcols:∀ s∈p.tbs,Few s.cols
theorem Pl.OkN.short {n:Nat} {p:Pl} (h:p.OkN n):zac p.frs:=by have:=h.frs;simp only [zac];omega
theorem Pl.OkN.less {n:Nat} {p:Pl} (h:p.OkN (n+1)):p.OkN n:=⟨by have:=h.frs;omega,h.cols,h.ne,h.few,h.tcols⟩
theorem Pl.OkN.pos {n:Nat} {p:Pl} (h:p.OkN n):Pos (((p.tbs.map Sch.cells).length:Nat):Int):=by
 have h1:=h.few
 have h2:0 < p.tbs.length:=List.length_pos_iff.2 h.ne
 simp only [Few] at h1
 simp only [Pos,List.length_map];omega
theorem Pl.OkN.ins {n:Nat} {p:Pl} (h:p.OkN (n+1)) {k:Nat} {s:Sch} (hs:p.tbs[k]?=some s):(plIn p s).OkN n:=by
 refine ⟨by have:=h.frs;simp [plIn];omega,fun f hf=>?_,h.ne,h.few,h.tcols⟩
 simp only [plIn,List.mem_append,List.mem_singleton] at hf
 rcases hf with hf|rfl
 ·exact h.cols f hf
 ·exact h.tcols s (List.mem_of_getElem? hs)
end Go.AM
namespace Go.AM
set_option maxRecDepth 100000
set_option maxHeartbeats 1000000
set_option linter.unusedSimpArgs false
set_option linter.unusedVariables false
theorem zo3 {p:Prop} (h:p:=by first|assumption|(simp;done)|(simp;omega)|omega|(simp at *;omega)):p:=h
theorem zoX {p:Prop} (h:p:=by first|assumption|omega|(simp;done)|(simp;omega)):p:=h
def za6:Fr:=⟨⟨#[]⟩,false,[],[]⟩
theorem zr3 {α:Type} {l:List α} {k:Nat} (d:α) (h:k < l.length):l[k]?=some (l.getD k d):=by
 rw [List.getD_eq_getElem?_getD,List.getElem?_eq_getElem h];rfl
noncomputable def L_sres (frs:List Fr) (q n:Str) (k:Nat) :Cfg:=zal B.scope_Resolve 0 [(0,fsl frs),(1,sv q),(2,sv n),(9,iv (pm1 k))] []
def sres (frs:List Fr) (q n:Str):Nat→Int × Int × Bool
 | 0 =>
  (0,0,false)
 | k+1 =>
  bif ByteArray.toList q==(ByteArray.mk #[]).toList then
   bif (frs.getD k za6).strict then
    sres frs q n (k)
   else
    bif decide (0≤idxF (fun c=>colC c n) (Sch.mk (ByteArray.mk #[]) (frs.getD k za6).cols).cols 0) then
     (pm1 (k+1),idxF (fun c=>colC c n) (Sch.mk (ByteArray.mk #[]) (frs.getD k za6).cols).cols 0,true)
    else
     sres frs q n (k)
  else
   bif !ByteArray.toList (frs.getD k za6).name==ByteArray.toList q then
    sres frs q n (k)
   else
    bif decide (0≤idxF (fun c=>colC c n) (Sch.mk (ByteArray.mk #[]) (frs.getD k za6).cols).cols 0) then
     (pm1 (k+1),idxF (fun c=>colC c n) (Sch.mk (ByteArray.mk #[]) (frs.getD k za6).cols).cols 0,true)
    else
     sres frs q n (k)
theorem zqZ (frs:List Fr) (q n:Str) (hl:zac frs) (hc:∀ f∈frs,zac f.cols):∀ (k:Nat),k≤1000000000→k≤frs.length→Good E0 B.scope_Resolve [] (L_sres frs q n k ) (Shut 0 fun r h=>r=(.tup [iv (sres frs q n k ).1,iv (sres frs q n k ).2.1,bv (sres frs q n k ).2.2])∧h=[]):=by
 intro k
 induction k with
 | zero =>
  intro  hk hk2
  simp only [sres]
  refine zab ?_
  exact wkr [sb (rfl:false=false)] kr
 | succ k ih =>
  intro  hk hk2
  have h0:decide ((0:Int)≤((k:Nat):Int))=true:=by simp
  have hw:=zps k (by omega)
  have hx:=zr3 (l:=frs) (k:=k) za6 (by omega);have hcx:=hc _ (List.mem_of_getElem? hx)
  simp only [sres]
  refine zab ?_
  cases h1:ByteArray.toList q==(ByteArray.mk #[]).toList
  ·cases h2:!ByteArray.toList (frs.getD k za6).name==ByteArray.toList q
   ·cases h3:decide (0≤idxF (fun c=>colC c n) (Sch.mk (ByteArray.mk #[]) (frs.getD k za6).cols).cols 0)
    ·exact wkl [sb (rfl:true=true),se (zaf Fr.cells hx rfl),sb h1,sg (congrArg Bool.not h1),sb h2,sc (zbi (Sch.mk (ByteArray.mk #[]) (frs.getD k za6).cols) n zoX),sb h3,si hw] [0,1,2,9] 0 kr (ih  (by omega) zo3)
    ·exact wkr [sb (rfl:true=true),se (zaf Fr.cells hx rfl),sb h1,sg (congrArg Bool.not h1),sb h2,sc (zbi (Sch.mk (ByteArray.mk #[]) (frs.getD k za6).cols) n zoX),sb h3] kr
   ·exact wkl [sb (rfl:true=true),se (zaf Fr.cells hx rfl),sb h1,sg (congrArg Bool.not h1),sb h2,si hw] [0,1,2,9] 0 kr (ih  (by omega) zo3)
  ·cases h4:(frs.getD k za6).strict
   ·cases h5:decide (0≤idxF (fun c=>colC c n) (Sch.mk (ByteArray.mk #[]) (frs.getD k za6).cols).cols 0)
    ·exact wkl [sb (rfl:true=true),se (zaf Fr.cells hx rfl),sg h1,sg h4,sb (congrArg Bool.not h1),sc (zbi (Sch.mk (ByteArray.mk #[]) (frs.getD k za6).cols) n zoX),sb h5,si hw] [0,1,2,9] 0 kr (ih  (by omega) zo3)
    ·exact wkr [sb (rfl:true=true),se (zaf Fr.cells hx rfl),sg h1,sg h4,sb (congrArg Bool.not h1),sc (zbi (Sch.mk (ByteArray.mk #[]) (frs.getD k za6).cols) n zoX),sb h5] kr
   ·exact wkl [sb (rfl:true=true),se (zaf Fr.cells hx rfl),sg h1,sb h4,si hw] [0,1,2,9] 0 kr (ih  (by omega) zo3)
theorem zvG {α:Type} (f:α→List AV) (l:List α) (h:zac l):IntKind.i64.wrap ((((l.map f).length:Nat):Int) - 1)=pm1 l.length:=by
 rw [List.length_map];exact zps _ (by simp only [zac] at h;omega)
def zbM (frs:List Fr) (q n:Str):Int × Int × Bool :=
 sres frs q n (frs.length)
theorem zeX (frs:List Fr) (q n:Str) (hl:zac frs) (hc:∀ f∈frs,zac f.cols) (hw0:IntKind.i64.wrap ((((frs.map Fr.cells).length:Nat):Int) - 1)=pm1 frs.length):zaa E0 S.scope_Resolve [fsl frs,sv q,sv n] [] (.tup [iv (zbM frs q n).1,iv (zbM frs q n).2.1,bv (zbM frs q n).2.2]) []:=by
 unfold zbM
 exact wkc At.scope_Resolve [si hw0] [0,1,2,9] 0 kr (by have ih:=zqZ frs q n hl hc frs.length (by simp only [zac] at hl;omega) (Nat.le_refl _);exact ih)
def zdP (frs:List Fr) (q n:Str) (k:Nat) (f:Fr) (els:Int × Int × Bool):List (Col)→Nat→Int × Int × Bool
 | [],j =>
  els
 | x::r,j =>
  bif ByteArray.toList x.name==ByteArray.toList n then
   (pm1 (k+1),(j:Int),true)
  else
   zdP frs q n k f els r (j+1)
def rres (frs:List Fr) (q n:Str):Nat→Int × Int × Bool
 | 0 =>
  (0,0,false)
 | k+1 =>
  bif ByteArray.toList q==(ByteArray.mk #[]).toList then
   bif (frs.getD k za6).strict then
    rres frs q n (k)
   else
    zdP frs q n k (frs.getD k za6) (rres frs q n k) (frs.getD k za6).cols 0
  else
   bif !ByteArray.toList (frs.getD k za6).name==ByteArray.toList q then
    rres frs q n (k)
   else
    zdP frs q n k (frs.getD k za6) (rres frs q n k) (frs.getD k za6).cols 0
def zbN (frs:List Fr) (q n:Str):Int × Int × Bool :=
 rres frs q n (frs.length)
def ziR (tb:List Tb) (n:Str):List (Tb)→Nat→Sch × Bool
 | [],i =>
  (Sch.mk (ByteArray.mk #[]) [],false)
 | x::r,i =>
  bif ByteArray.toList x.sch.name==ByteArray.toList n then
   (x.sch,true)
  else
   ziR tb n r (i+1)
def zcw (tb:List Tb) (n:Str):Sch × Bool :=
 ziR tb n tb (0)
def za3 (frs:List Fr) (s:Sch) (v:List V):(List Fr) :=
 frs++[Fr.mk s.name false s.cols v]
end Go.AM
namespace Go.AM
set_option maxRecDepth 100000
set_option maxHeartbeats 1000000
set_option linter.unusedSimpArgs false
set_option linter.unusedVariables false
def zfT (e:X):Bool:=match e.sub with
 | []=>zaU e.kind e.op e.args
 | q::r=>zay e.kind e.op e.args (q::r) q.items q.wh
theorem zbo (e:X):Pure S.scope_Formed [e.av] (bv (zfT e)):=by
 cases e with
 | mk kind op nt val tn nm xs qs =>
  cases qs with
  | nil=>exact zlv kind op xs nt val tn nm
  | cons q r=>cases q with
   | mk st it fm wh=>exact zlx kind op xs _ it wh nt val tn nm st fm rfl
theorem zqu (frs:List Fr) (q n:Str) (k:Nat) (f:Fr) (els:Int × Int × Bool):∀ (c:List Col) (j:Nat),(zdP frs q n k f els c j=els)∨(∃ (i:Nat) (x:Col),zdP frs q n k f els c j=(((k:Nat):Int),((j+i:Nat):Int),true)∧c[i]?=some x)
 | [],j=>.inl rfl
 | x::r,j=>by
  rcases zqu frs q n k f els r (j+1) with h|⟨i,y,h,hy⟩
  ·simp only [zdP,Bool.cond_eq_ite]
   split
   ·exact .inr ⟨0,x,rfl,rfl⟩
   ·exact .inl h
  ·simp only [zdP,Bool.cond_eq_ite]
   split
   ·exact .inr ⟨0,x,rfl,rfl⟩
   ·exact .inr ⟨i+1,y,by rw [h];congr 2;omega,hy⟩
theorem zrW (frs:List Fr) (q n:Str):∀ (k:Nat),k≤frs.length→(rres frs q n k).2.2=true→∃ (i j:Nat) (f:Fr) (c:Col),rres frs q n k=((i:Int),(j:Int),true)∧frs[i]?=some f∧f.cols[j]?=some c
 | 0,_,h=>by simp [rres] at h
 | k+1,hk,h=>by
  have ih:=zrW frs q n k (by omega)
  have hx:=zr3 (l:=frs) (k:=k) za6 (by omega)
  have hi:=zqu frs q n k (frs.getD k za6) (rres frs q n k) (frs.getD k za6).cols 0
  simp only [rres,Bool.cond_eq_ite] at h ⊢
  have key:(zdP frs q n k (frs.getD k za6) (rres frs q n k) (frs.getD k za6).cols 0).2.2=true→∃ (i j:Nat) (f:Fr) (c:Col),zdP frs q n k (frs.getD k za6) (rres frs q n k) (frs.getD k za6).cols 0=((i:Int),(j:Int),true)∧frs[i]?=some f∧f.cols[j]?=some c:=by
   intro h
   rcases hi with e|⟨i,y,e,hy⟩
   ·rw [e] at h ⊢;exact ih h
   ·exact ⟨k,0+i,_,y,e,hx,by simpa using hy⟩
  revert h
  repeat' split
  all_goals first|exact ih|exact key
end Go.AM
namespace Go.AM
set_option maxRecDepth 100000
set_option maxHeartbeats 1000000
set_option linter.unusedSimpArgs false
set_option linter.unusedVariables false
def cNull:Col:=⟨⟨#[]⟩,0,false,false⟩
def rFr (frs:List Fr) (q n:Str):Fr:=frs.getD (zbN frs q n).1.toNat za6
def rCol (frs:List Fr) (q n:Str):Col:=(rFr frs q n).cols.getD (zbN frs q n).2.1.toNat cNull
theorem zlQ {frs:List Fr} {q n:Str} (h:(zbN frs q n).2.2=true):∃ (i j:Nat),zbN frs q n=((i:Int),(j:Int),true)∧frs[i]?=some (rFr frs q n)∧(rFr frs q n).cols[j]?=some (rCol frs q n):=by
 have h':=h
 unfold zbN at h'
 obtain ⟨i,j,f,c,e,hf,hc⟩:=zrW frs q n frs.length (Nat.le_refl _) h'
 have e':zbN frs q n=((i:Int),(j:Int),true):=e
 have e1:rFr frs q n=f:=by simp [rFr,e',List.getD_eq_getElem?_getD,hf]
 have e2:rCol frs q n=c:=by simp [rCol,e1,e',List.getD_eq_getElem?_getD,hc]
 exact ⟨i,j,e',by rw [e1];exact hf,by rw [e1,e2];exact hc⟩
theorem el_rFr (frs:List Fr) (q n:Str) (h:(zbN frs q n).2.2=true):ElAt (frs.map Fr.cells) (zbN frs q n).1 (rFr frs q n).cells 4:=by
 obtain ⟨i,j,e,h1,h2⟩:=zlQ h
 rw [show (zbN frs q n).1=(i:Int) by rw [e]]
 exact zaf Fr.cells h1 rfl
end Go.AM
