/-
  Contracts of the program's functions, part 2.
-/
import Derived.Test.YtoanpmnofigncaaGreatDoorSsB
import Derived.Test.YtoanpmnofigncaaGreatDoorProg
import Derived.KernelRfl
import Derived.Laws.StructEq
set_option linter.unusedSimpArgs false
set_option linter.unusedVariables false
namespace Go.AM
theorem kr {p : Prop} (h : p := by kernel_rfl) : p := h
namespace S
abbrev law21_StatementSees:FuncId:=3
abbrev world_New:FuncId:=6
abbrev world_Tape_Store:FuncId:=7
abbrev ref9_Find:FuncId:=8
abbrev world_Mod:FuncId:=9
abbrev world_Lit:FuncId:=10
abbrev statement_Run:FuncId:=11
abbrev ref1_Number:FuncId:=12
abbrev law21_known:FuncId:=13
abbrev world_Schemas:FuncId:=20
abbrev world_Tape_TableOf:FuncId:=21
abbrev store_Find:FuncId:=22
abbrev slices_Concat_Table:FuncId:=23
abbrev dml_Candidates:FuncId:=24
abbrev deep_Tables:FuncId:=25
abbrev slices_Clone_int:FuncId:=26
abbrev dml_Assigned:FuncId:=27
abbrev before_Statement:FuncId:=28
abbrev before_Applicable:FuncId:=29
abbrev statement_run_rows:FuncId:=30
abbrev keys_Apply:FuncId:=31
abbrev world_Schema:FuncId:=32
abbrev world_Num:FuncId:=33
abbrev world_Tape_Next:FuncId:=36
abbrev world_Tape_Bool:FuncId:=37
abbrev world_Tape_Typed:FuncId:=39
abbrev world_Tape_Small:FuncId:=40
abbrev ref5_Fits:FuncId:=48
abbrev world_Tape_Row:FuncId:=57
abbrev slices_IndexFunc_Table:FuncId:=58
abbrev store_Find_c1:FuncId:=59
abbrev slices_Grow_Table:FuncId:=60
abbrev dml_target:FuncId:=61
abbrev dml_inserted:FuncId:=62
abbrev evaluate_True:FuncId:=65
abbrev slices_Clone_Value:FuncId:=67
abbrev deep_list_api_Table:FuncId:=68
abbrev deep_Table:FuncId:=69
abbrev slices_ContainsFunc_string:FuncId:=70
abbrev before_Applicable_c1:FuncId:=71
abbrev slices_Contains_string:FuncId:=72
abbrev deep_Trigger:FuncId:=73
abbrev slices_Contains_int:FuncId:=74
abbrev statement_run_row:FuncId:=75
abbrev keys_Valid:FuncId:=76
abbrev keys_fits:FuncId:=77
abbrev slices_Clone_Column:FuncId:=78
abbrev table_Duplicate:FuncId:=79
abbrev world_Tape_Number:FuncId:=81
abbrev world_Tape_Word:FuncId:=82
abbrev ref4_Fits:FuncId:=94
abbrev syntax_ValidAction:FuncId:=98
abbrev scope_Source:FuncId:=99
abbrev evaluate_Value:FuncId:=100
abbrev slices_ContainsFunc_Value:FuncId:=102
abbrev slices_Clone_Frame:FuncId:=104
abbrev logic_Valid:FuncId:=105
abbrev logic_IsTrue:FuncId:=106
abbrev schema_Find:FuncId:=107
abbrev deep_Schema:FuncId:=108
abbrev deep_list_api_Row:FuncId:=109
abbrev deep_Row:FuncId:=110
abbrev slices_IndexFunc_string:FuncId:=111
abbrev slices_Index_string:FuncId:=112
abbrev slices_Clone_string:FuncId:=113
abbrev slices_Clone_Rank:FuncId:=114
abbrev deep_Exprs:FuncId:=115
abbrev deep_list_api_Action:FuncId:=116
abbrev deep_Action:FuncId:=117
abbrev slices_Index_int:FuncId:=118
abbrev before_Row:FuncId:=119
abbrev table_Valid:FuncId:=120
abbrev keys_rows:FuncId:=121
abbrev keys_Valid_c1:FuncId:=123
abbrev tuple_Fits:FuncId:=124
abbrev schema_KeyColumn:FuncId:=125
abbrev ref1_Valid:FuncId:=130
abbrev schema_ValidName:FuncId:=141
abbrev syntax_validRows:FuncId:=142
abbrev syntax_ValidQuery:FuncId:=143
abbrev syntax_validSets:FuncId:=144
abbrev syntax_condition:FuncId:=145
abbrev scope_Source_c1:FuncId:=147
abbrev scope_Formed:FuncId:=148
abbrev scope_Resolve:FuncId:=149
abbrev evaluate_aggregate:FuncId:=150
abbrev evaluate_operation:FuncId:=151
abbrev evaluate_selected:FuncId:=152
abbrev slices_IndexFunc_Value:FuncId:=154
abbrev value_Valid:FuncId:=155
abbrev value_Truth:FuncId:=156
abbrev slices_IndexFunc_Column:FuncId:=157
abbrev schema_Find_c1:FuncId:=158
abbrev deep_list_api_Expr:FuncId:=159
abbrev deep_Expr:FuncId:=160
abbrev deep_list_Lapi_Expr:FuncId:=161
abbrev deep_list_api_Query:FuncId:=162
abbrev deep_Query:FuncId:=163
abbrev deep_list_api_Set:FuncId:=164
abbrev deep_set:FuncId:=165
abbrev slices_Clone_Trigger:FuncId:=166
abbrev pick_Eligible:FuncId:=167
abbrev pick_Choose:FuncId:=168
abbrev before_row_fire:FuncId:=169
abbrev slices_Delete_Trigger:FuncId:=170
abbrev schema_Valid:FuncId:=171
abbrev schema_Fits:FuncId:=172
abbrev schema_KeyColumn_c1:FuncId:=173
abbrev slices_ContainsFunc_Expr:FuncId:=187
abbrev syntax_validRows_c1:FuncId:=188
abbrev syntax_validExprs:FuncId:=189
abbrev syntax_source:FuncId:=190
abbrev syntax_ValidExpr:FuncId:=191
abbrev syntax_names:FuncId:=192
abbrev evaluate_aggregate_c1:FuncId:=193
abbrev evaluate_isNull:FuncId:=194
abbrev value_Number:FuncId:=195
abbrev evaluate_sum:FuncId:=196
abbrev slices_MinFunc_Value:FuncId:=197
abbrev value_Compare:FuncId:=198
abbrev slices_MaxFunc_Value:FuncId:=199
abbrev evaluate_truth:FuncId:=200
abbrev logic_Not:FuncId:=201
abbrev evaluate_between:FuncId:=202
abbrev evaluate_arithmetic:FuncId:=203
abbrev logic_And:FuncId:=204
abbrev logic_Or:FuncId:=205
abbrev evaluate_comparison:FuncId:=206
abbrev evaluate_find:FuncId:=207
abbrev evaluate_inside:FuncId:=208
abbrev value_plain:FuncId:=209
abbrev order_Precedes:FuncId:=210
abbrev trigger_Frames:FuncId:=211
abbrev before_row_set:FuncId:=212
abbrev slices_IndexFunc_Expr:FuncId:=222
abbrev slices_ContainsFunc_Expr_175:FuncId:=223
abbrev syntax_validExprs_c1:FuncId:=224
abbrev syntax_bare:FuncId:=225
abbrev syntax_column:FuncId:=226
abbrev syntax_inner:FuncId:=227
abbrev syntax_arguments:FuncId:=228
abbrev arith_Sum:FuncId:=229
abbrev cmp_Or_int:FuncId:=230
abbrev cmp_Compare_int:FuncId:=231
abbrev cmp_Compare_int64:FuncId:=232
abbrev cmp_Compare_string:FuncId:=233
abbrev arith_Add:FuncId:=234
abbrev arith_Subtract:FuncId:=235
abbrev arith_Multiply:FuncId:=236
abbrev arith_Divide:FuncId:=237
abbrev arith_Modulo:FuncId:=238
abbrev logic_and:FuncId:=239
abbrev evaluate_find_c1:FuncId:=240
abbrev slices_Contains_Link:FuncId:=241
abbrev slices_IndexFunc_Expr_199:FuncId:=249
abbrev math_bits_Add64:FuncId:=250
abbrev cmp_isNaN_int:FuncId:=251
abbrev cmp_isNaN_int64:FuncId:=252
abbrev cmp_isNaN_string:FuncId:=253
abbrev slices_Index_Link:FuncId:=254
abbrev g_world_words:Nat:=0
end S
namespace Ty
abbrev int64:TypeId:=2
abbrev int:TypeId:=3
abbrev bool:TypeId:=4
abbrev string:TypeId:=9
abbrev LExpr:TypeId:=28
abbrev Query:TypeId:=30
abbrev Value:TypeId:=33
abbrev Expr:TypeId:=35
abbrev Set:TypeId:=37
abbrev Action:TypeId:=41
abbrev Trigger:TypeId:=46
abbrev Table:TypeId:=58
abbrev LValue:TypeId:=59
abbrev Row:TypeId:=61
abbrev run:TypeId:=95
abbrev Column:TypeId:=106
abbrev Frame:TypeId:=148
abbrev M_int_bool:TypeId:=156
abbrev M_Value_bool:TypeId:=161
abbrev Rank:TypeId:=178
abbrev row:TypeId:=216
abbrev Item:TypeId:=220
abbrev Link:TypeId:=257
end Ty
def tabA:List TI:=[
 ⟨.scalar,0,0,[]⟩,
 ⟨.scalar,0,0,[]⟩,
 ⟨.int .i64,1,8,[(.v (.int .i64 0))]⟩,
 ⟨.int .i64,1,8,[(.v (.int .i64 0))]⟩,
 ⟨.bool,1,1,[.bl false]⟩,
 ⟨.int .u8,1,1,[(.v (.int .u8 0))]⟩,
 ⟨.int .u8,1,1,[(.v (.int .u8 0))]⟩,
 ⟨.struct [0,1,2,3],4,24,[(.v (.int .i64 0)),(.v (.int .i64 0)),.bl false,(.v (.int .u8 0))]⟩,
 ⟨.struct [0,1,2,3],4,24,[(.v (.int .i64 0)),(.v (.int .i64 0)),.bl false,(.v (.int .u8 0))]⟩,
 ⟨.str,1,16,[.v (.string ⟨#[]⟩)]⟩,
 ⟨.str,1,16,[.v (.string ⟨#[]⟩)]⟩,
 ⟨.str,1,16,[.v (.string ⟨#[]⟩)]⟩,
 ⟨.int .u64,1,8,[(.v (.int .u64 0))]⟩,
 ⟨.struct [0,1],2,24,[.v (.string ⟨#[]⟩),(.v (.int .u64 0))]⟩,
 ⟨.struct [0,1],2,24,[.v (.string ⟨#[]⟩),(.v (.int .u64 0))]⟩,
 ⟨.scalar,1,8,[.v (.pointer none)]⟩,
 ⟨.scalar,1,8,[.v (.pointer none)]⟩,
 ⟨.scalar,1,8,[.v (.pointer none)]⟩,
 ⟨.struct [0],1,8,[.v (.pointer none)]⟩,
 ⟨.struct [0],1,8,[.v (.pointer none)]⟩,
 ⟨.scalar,1,16,[.v .nilIface]⟩,
 ⟨.int .i32,1,4,[(.v (.int .i32 0))]⟩,
 ⟨.slice 3,1,24,[.nl]⟩,
 ⟨.scalar,1,8,[.v (.pointer none)]⟩,
 ⟨.scalar,0,0,[]⟩,
 ⟨.slice 58,1,24,[.nl]⟩,
 ⟨.scalar,0,0,[]⟩,
 ⟨.scalar,0,0,[]⟩,
 ⟨.slice 35,1,24,[.nl]⟩,
 ⟨.struct [0,1,2,3],4,72,[.bl false,.nl,.v (.string ⟨#[]⟩),.nl]⟩,
 ⟨.struct [0,1,2,3],4,72,[.bl false,.nl,.v (.string ⟨#[]⟩),.nl]⟩,
 ⟨.slice 30,1,24,[.nl]⟩,
 ⟨.struct [0,1,2],3,32,[(.v (.int .i64 0)),(.v (.int .i64 0)),.v (.string ⟨#[]⟩)]⟩,
 ⟨.struct [0,1,2],3,32,[(.v (.int .i64 0)),(.v (.int .i64 0)),.v (.string ⟨#[]⟩)]⟩,
 ⟨.struct [0,1,2,3,6,7,8,9],10,136,[(.v (.int .i64 0)),(.v (.int .i64 0)),.bl false,(.v (.int .i64 0)),(.v (.int .i64 0)),.v (.string ⟨#[]⟩),.v (.string ⟨#[]⟩),.v (.string ⟨#[]⟩),.nl,.nl]⟩,
 ⟨.struct [0,1,2,3,6,7,8,9],10,136,[(.v (.int .i64 0)),(.v (.int .i64 0)),.bl false,(.v (.int .i64 0)),(.v (.int .i64 0)),.v (.string ⟨#[]⟩),.v (.string ⟨#[]⟩),.v (.string ⟨#[]⟩),.nl,.nl]⟩,
 ⟨.struct [0,1],11,152,[.v (.string ⟨#[]⟩),(.v (.int .i64 0)),(.v (.int .i64 0)),.bl false,(.v (.int .i64 0)),(.v (.int .i64 0)),.v (.string ⟨#[]⟩),.v (.string ⟨#[]⟩),.v (.string ⟨#[]⟩),.nl,.nl]⟩,
 ⟨.struct [0,1],11,152,[.v (.string ⟨#[]⟩),(.v (.int .i64 0)),(.v (.int .i64 0)),.bl false,(.v (.int .i64 0)),(.v (.int .i64 0)),.v (.string ⟨#[]⟩),.v (.string ⟨#[]⟩),.v (.string ⟨#[]⟩),.nl,.nl]⟩,
 ⟨.slice 37,1,24,[.nl]⟩,
 ⟨.slice 28,1,24,[.nl]⟩,
 ⟨.struct [0,1,2,3,4,5,6],7,136,[(.v (.int .i64 0)),.v (.string ⟨#[]⟩),.nl,.nl,.nl,.nl,.v (.string ⟨#[]⟩)]⟩,
 ⟨.struct [0,1,2,3,4,5,6],7,136,[(.v (.int .i64 0)),.v (.string ⟨#[]⟩),.nl,.nl,.nl,.nl,.v (.string ⟨#[]⟩)]⟩,
 ⟨.slice 41,1,24,[.nl]⟩,
 ⟨.slice 9,1,24,[.nl]⟩,
 ⟨.slice 178,1,24,[.nl]⟩,
 ⟨.struct [0,1,2,3,4,5,6,7,8,9,10],11,200,[.v (.string ⟨#[]⟩),.v (.string ⟨#[]⟩),.bl false,(.v (.int .i64 0)),.nl,.bl false,.nl,.nl,.nl,.nl,.nl]⟩,
 ⟨.struct [0,1,2,3,4,5,6,7,8,9,10],11,200,[.v (.string ⟨#[]⟩),.v (.string ⟨#[]⟩),.bl false,(.v (.int .i64 0)),.nl,.bl false,.nl,.nl,.nl,.nl,.nl]⟩,
 ⟨.scalar,0,0,[]⟩,
 ⟨.scalar,0,0,[]⟩,
 ⟨.int .i64,1,8,[(.v (.int .i64 0))]⟩,
 ⟨.scalar,0,0,[]⟩,
 ⟨.scalar,0,0,[]⟩,
 ⟨.slice 46,1,24,[.nl]⟩,
 ⟨.slice 106,1,24,[.nl]⟩,
 ⟨.struct [0,1],2,40,[.v (.string ⟨#[]⟩),.nl]⟩,
 ⟨.struct [0,1],2,40,[.v (.string ⟨#[]⟩),.nl]⟩,
 ⟨.slice 61,1,24,[.nl]⟩,
 ⟨.struct [0,2,3],4,72,[.v (.string ⟨#[]⟩),.nl,(.v (.int .i64 0)),.nl]⟩,
 ⟨.struct [0,2,3],4,72,[.v (.string ⟨#[]⟩),.nl,(.v (.int .i64 0)),.nl]⟩,
 ⟨.slice 33,1,24,[.nl]⟩,
 ⟨.struct [0,1],2,32,[(.v (.int .i64 0)),.nl]⟩,
 ⟨.struct [0,1],2,32,[(.v (.int .i64 0)),.nl]⟩,
 ⟨.scalar,0,0,[]⟩,
 ⟨.scalar,0,0,[]⟩,
 ⟨.scalar,0,0,[]⟩,
 ⟨.scalar,0,0,[]⟩,
 ⟨.slice 148,1,24,[.nl]⟩,
 ⟨.slice 55,1,24,[.nl]⟩,
 ⟨.struct [0,1],2,48,[.nl,.nl]⟩,
 ⟨.struct [0,1],2,48,[.nl,.nl]⟩,
 ⟨.scalar,0,0,[]⟩,
 ⟨.slice 59,1,24,[.nl]⟩,
 ⟨.slice 116,1,24,[.nl]⟩,
 ⟨.struct [0,1,2],3,72,[.nl,.nl,.nl]⟩,
 ⟨.struct [0,1,2],3,72,[.nl,.nl,.nl]⟩,
 ⟨.scalar,0,0,[]⟩,
 ⟨.scalar,0,0,[]⟩,
 ⟨.scalar,0,0,[]⟩,
 ⟨.scalar,0,0,[]⟩,
 ⟨.scalar,0,0,[]⟩,
 ⟨.scalar,0,0,[]⟩,
 ⟨.scalar,0,0,[]⟩,
 ⟨.struct [0,1],2,32,[.nl,(.v (.int .i64 0))]⟩,
 ⟨.struct [0,1],2,32,[.nl,(.v (.int .i64 0))]⟩,
 ⟨.scalar,0,0,[]⟩,
 ⟨.scalar,0,0,[]⟩,
 ⟨.slice 257,1,24,[.nl]⟩,
 ⟨.scalar,0,0,[]⟩,
 ⟨.scalar,0,0,[]⟩,
 ⟨.scalar,0,0,[]⟩,
 ⟨.scalar,0,0,[]⟩,
 ⟨.scalar,0,0,[]⟩,
 ⟨.scalar,0,0,[]⟩,
 ⟨.scalar,1,8,[.v (.pointer none)]⟩,
 ⟨.struct [0,1,2,3,5,6],7,160,[.nl,.nl,.nl,.v (.string ⟨#[]⟩),.nl,.nl,.nl]⟩,
 ⟨.struct [0,1,2,3,5,6],7,160,[.nl,.nl,.nl,.v (.string ⟨#[]⟩),.nl,.nl,.nl]⟩,
 ⟨.scalar,0,0,[]⟩,
 ⟨.scalar,1,8,[.v (.pointer none)]⟩,
 ⟨.scalar,0,0,[]⟩,
 ⟨.scalar,0,0,[]⟩,
 ⟨.scalar,0,0,[]⟩,
 ⟨.scalar,0,0,[]⟩,
 ⟨.scalar,0,0,[]⟩,
 ⟨.scalar,0,0,[]⟩,
 ⟨.scalar,0,0,[]⟩,
 ⟨.struct [0,1,2,3],4,32,[.v (.string ⟨#[]⟩),(.v (.int .i64 0)),.bl false,.bl false]⟩,
 ⟨.struct [0,1,2,3],4,32,[.v (.string ⟨#[]⟩),(.v (.int .i64 0)),.bl false,.bl false]⟩,
 ⟨.scalar,0,0,[]⟩,
 ⟨.scalar,0,0,[]⟩,
 ⟨.scalar,0,0,[]⟩,
 ⟨.scalar,0,0,[]⟩,
 ⟨.scalar,0,0,[]⟩,
 ⟨.scalar,0,0,[]⟩,
 ⟨.scalar,0,0,[]⟩,
 ⟨.scalar,0,0,[]⟩,
 ⟨.struct [0,1,2],3,56,[(.v (.int .i64 0)),.nl,.nl]⟩,
 ⟨.struct [0,1,2],3,56,[(.v (.int .i64 0)),.nl,.nl]⟩,
 ⟨.scalar,0,0,[]⟩,
 ⟨.scalar,0,0,[]⟩,
 ⟨.scalar,0,0,[]⟩,
 ⟨.scalar,0,0,[]⟩,
 ⟨.scalar,0,0,[]⟩,
 ⟨.scalar,0,0,[]⟩,
 ⟨.scalar,0,0,[]⟩,
 ⟨.scalar,0,0,[]⟩,
 ⟨.scalar,0,0,[]⟩,
 ⟨.scalar,0,0,[]⟩,
 ⟨.scalar,0,0,[]⟩,
 ⟨.slice 25,1,24,[.nl]⟩,
 ⟨.scalar,0,0,[]⟩,
 ⟨.scalar,0,0,[]⟩,
 ⟨.scalar,0,0,[]⟩,
 ⟨.scalar,0,0,[]⟩,
 ⟨.scalar,0,0,[]⟩,
 ⟨.scalar,0,0,[]⟩,
 ⟨.scalar,0,0,[]⟩,
 ⟨.scalar,0,0,[]⟩,
 ⟨.scalar,0,0,[]⟩,
 ⟨.scalar,0,0,[]⟩,
 ⟨.scalar,0,0,[]⟩,
 ⟨.scalar,0,0,[]⟩,
 ⟨.scalar,0,0,[]⟩,
 ⟨.scalar,0,0,[]⟩,
 ⟨.scalar,0,0,[]⟩,
 ⟨.scalar,0,0,[]⟩,
 ⟨.scalar,0,0,[]⟩,
 ⟨.scalar,0,0,[]⟩,
 ⟨.struct [0,1,2,3],4,72,[.v (.string ⟨#[]⟩),.bl false,.nl,.nl]⟩,
 ⟨.struct [0,1,2,3],4,72,[.v (.string ⟨#[]⟩),.bl false,.nl,.nl]⟩,
 ⟨.scalar,0,0,[]⟩,
 ⟨.scalar,0,0,[]⟩,
 ⟨.scalar,0,0,[]⟩,
 ⟨.scalar,0,0,[]⟩,
 ⟨.scalar,0,0,[]⟩,
 ⟨.scalar,0,0,[]⟩,
 ⟨.scalar,0,0,[]⟩,
 ⟨.map 3 4,1,8,[.v (.map none)]⟩,
 ⟨.scalar,0,0,[]⟩,
 ⟨.scalar,0,0,[]⟩,
 ⟨.scalar,0,0,[]⟩,
 ⟨.scalar,0,0,[]⟩,
 ⟨.map 33 4,1,8,[.v (.map none)]⟩,
 ⟨.scalar,0,0,[]⟩,
 ⟨.scalar,0,0,[]⟩,
 ⟨.scalar,0,0,[]⟩,
 ⟨.scalar,0,0,[]⟩,
 ⟨.scalar,0,0,[]⟩,
 ⟨.scalar,0,0,[]⟩,
 ⟨.scalar,0,0,[]⟩,
 ⟨.scalar,0,0,[]⟩,
 ⟨.scalar,0,0,[]⟩,
 ⟨.scalar,0,0,[]⟩,
 ⟨.scalar,0,0,[]⟩,
 ⟨.scalar,0,0,[]⟩,
 ⟨.scalar,0,0,[]⟩,
 ⟨.scalar,0,0,[]⟩,
 ⟨.scalar,0,0,[]⟩,
 ⟨.struct [0,1,2,3],4,48,[.v (.string ⟨#[]⟩),.v (.string ⟨#[]⟩),(.v (.int .i64 0)),(.v (.int .i64 0))]⟩,
 ⟨.struct [0,1,2,3],4,48,[.v (.string ⟨#[]⟩),.v (.string ⟨#[]⟩),(.v (.int .i64 0)),(.v (.int .i64 0))]⟩,
 ⟨.scalar,0,0,[]⟩,
 ⟨.scalar,0,0,[]⟩,
 ⟨.scalar,0,0,[]⟩,
 ⟨.scalar,0,0,[]⟩,
 ⟨.scalar,0,0,[]⟩,
 ⟨.scalar,0,0,[]⟩,
 ⟨.scalar,0,0,[]⟩,
 ⟨.array 6 9,6,96,[.v (.string ⟨#[]⟩),.v (.string ⟨#[]⟩),.v (.string ⟨#[]⟩),.v (.string ⟨#[]⟩),.v (.string ⟨#[]⟩),.v (.string ⟨#[]⟩)]⟩,
 ⟨.scalar,0,0,[]⟩,
 ⟨.scalar,0,0,[]⟩,
 ⟨.scalar,0,0,[]⟩,
 ⟨.scalar,0,0,[]⟩,
 ⟨.scalar,0,0,[]⟩,
 ⟨.scalar,0,0,[]⟩,
 ⟨.scalar,0,0,[]⟩,
 ⟨.scalar,0,0,[]⟩,
 ⟨.scalar,0,0,[]⟩,
 ⟨.scalar,0,0,[]⟩,
 ⟨.scalar,0,0,[]⟩,
 ⟨.scalar,0,0,[]⟩,
 ⟨.scalar,0,0,[]⟩,
 ⟨.scalar,0,0,[]⟩,
 ⟨.scalar,0,0,[]⟩,
 ⟨.scalar,0,0,[]⟩,
 ⟨.scalar,0,0,[]⟩,
 ⟨.scalar,0,0,[]⟩,
 ⟨.scalar,0,0,[]⟩,
 ⟨.scalar,0,0,[]⟩,
 ⟨.scalar,0,0,[]⟩,
 ⟨.scalar,0,0,[]⟩,
 ⟨.scalar,0,0,[]⟩,
 ⟨.scalar,0,0,[]⟩,
 ⟨.scalar,0,0,[]⟩,
 ⟨.scalar,0,0,[]⟩,
 ⟨.scalar,0,0,[]⟩,
 ⟨.scalar,1,8,[.v (.pointer none)]⟩,
 ⟨.struct [0,2,3,4],5,112,[.v (.string ⟨#[]⟩),.nl,.nl,.nl,.nl]⟩,
 ⟨.struct [0,2,3,4],5,112,[.v (.string ⟨#[]⟩),.nl,.nl,.nl,.nl]⟩,
 ⟨.scalar,0,0,[]⟩,
 ⟨.slice 220,1,24,[.nl]⟩,
 ⟨.struct [0,1,2,3],4,72,[.v (.string ⟨#[]⟩),(.v (.int .i64 0)),.nl,.nl]⟩,
 ⟨.struct [0,1,2,3],4,72,[.v (.string ⟨#[]⟩),(.v (.int .i64 0)),.nl,.nl]⟩,
 ⟨.scalar,0,0,[]⟩,
 ⟨.scalar,0,0,[]⟩,
 ⟨.scalar,0,0,[]⟩,
 ⟨.scalar,0,0,[]⟩,
 ⟨.scalar,0,0,[]⟩,
 ⟨.scalar,0,0,[]⟩,
 ⟨.scalar,0,0,[]⟩,
 ⟨.scalar,0,0,[]⟩,
 ⟨.scalar,0,0,[]⟩,
 ⟨.scalar,0,0,[]⟩,
 ⟨.scalar,0,0,[]⟩,
 ⟨.scalar,0,0,[]⟩,
 ⟨.slice 5,1,24,[.nl]⟩,
 ⟨.scalar,0,0,[]⟩,
 ⟨.scalar,0,0,[]⟩,
 ⟨.scalar,0,0,[]⟩,
 ⟨.scalar,0,0,[]⟩,
 ⟨.scalar,0,0,[]⟩,
 ⟨.scalar,0,0,[]⟩,
 ⟨.scalar,0,0,[]⟩,
 ⟨.scalar,0,0,[]⟩,
 ⟨.scalar,0,0,[]⟩,
 ⟨.scalar,0,0,[]⟩,
 ⟨.slice 2,1,24,[.nl]⟩,
 ⟨.scalar,0,0,[]⟩,
 ⟨.scalar,0,0,[]⟩,
 ⟨.scalar,0,0,[]⟩,
 ⟨.scalar,0,0,[]⟩,
 ⟨.scalar,0,0,[]⟩,
 ⟨.scalar,0,0,[]⟩,
 ⟨.scalar,0,0,[]⟩,
 ⟨.scalar,0,0,[]⟩,
 ⟨.scalar,0,0,[]⟩,
 ⟨.array 9 4,9,9,[.bl false,.bl false,.bl false,.bl false,.bl false,.bl false,.bl false,.bl false,.bl false]⟩,
 ⟨.scalar,0,0,[]⟩,
 ⟨.struct [0,1],2,32,[.v (.string ⟨#[]⟩),.v (.string ⟨#[]⟩)]⟩,
 ⟨.struct [0,1],2,32,[.v (.string ⟨#[]⟩),.v (.string ⟨#[]⟩)]⟩,
 ⟨.int .u64,1,8,[(.v (.int .u64 0))]⟩,
 ⟨.struct [0,1],2,16,[(.v (.int .i64 0)),(.v (.int .u64 0))]⟩,
 ⟨.struct [0,1],2,16,[(.v (.int .i64 0)),(.v (.int .u64 0))]⟩,
 ⟨.scalar,0,0,[]⟩,
 ⟨.scalar,0,0,[]⟩,
 ⟨.scalar,0,0,[]⟩,
 ⟨.scalar,0,0,[]⟩,
 ⟨.scalar,0,0,[]⟩,
 ⟨.scalar,0,0,[]⟩,
 ⟨.scalar,0,0,[]⟩,
 ⟨.scalar,0,0,[]⟩,
 ⟨.scalar,0,0,[]⟩,
 ⟨.int .u64,1,8,[(.v (.int .u64 0))]⟩,
 ⟨.scalar,0,0,[]⟩,
 ⟨.scalar,0,0,[]⟩,
 ⟨.struct [0,1,2,3],4,40,[.v (.pointer none),.v (.pointer none),.v (.pointer none),.v (.string ⟨#[]⟩)]⟩,
 ⟨.struct [0,1,2,3],4,40,[.v (.pointer none),.v (.pointer none),.v (.pointer none),.v (.string ⟨#[]⟩)]⟩,
 ⟨.scalar,0,0,[]⟩,
 ⟨.scalar,0,0,[]⟩,
 ⟨.scalar,0,0,[]⟩,
 ⟨.scalar,0,0,[]⟩,
 ⟨.int .u32,1,4,[(.v (.int .u32 0))]⟩,
 ⟨.int .u8,1,1,[(.v (.int .u8 0))]⟩,
 ⟨.int .u8,1,1,[(.v (.int .u8 0))]⟩,
 ⟨.scalar,0,0,[]⟩,
 ⟨.scalar,1,8,[.v (.pointer none)]⟩,
 ⟨.int .i32,1,4,[(.v (.int .i32 0))]⟩,
 ⟨.int .i32,1,4,[(.v (.int .i32 0))]⟩,
 ⟨.struct [0,1,2,3,4,5,6,7,8,9,10],11,48,[(.v (.int .u64 0)),(.v (.int .u64 0)),(.v (.int .u32 0)),(.v (.int .u8 0)),(.v (.int .u8 0)),(.v (.int .u8 0)),(.v (.int .u8 0)),.v .nilFunc,.v (.pointer none),(.v (.int .i32 0)),(.v (.int .i32 0))]⟩,
 ⟨.struct [0,1,2,3,4,5,6,7,8,9,10],11,48,[(.v (.int .u64 0)),(.v (.int .u64 0)),(.v (.int .u32 0)),(.v (.int .u8 0)),(.v (.int .u8 0)),(.v (.int .u8 0)),(.v (.int .u8 0)),.v .nilFunc,.v (.pointer none),(.v (.int .i32 0)),(.v (.int .i32 0))]⟩,
 ⟨.scalar,0,0,[]⟩]
theorem ztj:ziH Proofs.Tryz.prog tabA tabA.length=true:=by kernel_rfl
theorem mix_ok:Proofs.Tryz.prog.follows .mixedOrders=true:=by kernel_rfl
namespace B
noncomputable abbrev law21_StatementSees:Func:=Proofs.Tryz.f3
noncomputable abbrev world_New:Func:=Proofs.Tryz.f6
noncomputable abbrev world_Tape_Store:Func:=Proofs.Tryz.f7
noncomputable abbrev ref9_Find:Func:=Proofs.Tryz.f8
noncomputable abbrev world_Mod:Func:=Proofs.Tryz.f9
noncomputable abbrev world_Lit:Func:=Proofs.Tryz.f10
noncomputable abbrev statement_Run:Func:=Proofs.Tryz.f11
noncomputable abbrev ref1_Number:Func:=Proofs.Tryz.f12
noncomputable abbrev law21_known:Func:=Proofs.Tryz.f13
noncomputable abbrev world_Schemas:Func:=Proofs.Tryz.f20
noncomputable abbrev world_Tape_TableOf:Func:=Proofs.Tryz.f21
noncomputable abbrev store_Find:Func:=Proofs.Tryz.f22
noncomputable abbrev slices_Concat_Table:Func:=Proofs.Tryz.f23
noncomputable abbrev dml_Candidates:Func:=Proofs.Tryz.f24
noncomputable abbrev deep_Tables:Func:=Proofs.Tryz.f25
noncomputable abbrev slices_Clone_int:Func:=Proofs.Tryz.f26
noncomputable abbrev dml_Assigned:Func:=Proofs.Tryz.f27
noncomputable abbrev before_Statement:Func:=Proofs.Tryz.f28
noncomputable abbrev before_Applicable:Func:=Proofs.Tryz.f29
noncomputable abbrev statement_run_rows:Func:=Proofs.Tryz.f30
noncomputable abbrev keys_Apply:Func:=Proofs.Tryz.f31
noncomputable abbrev world_Schema:Func:=Proofs.Tryz.f32
noncomputable abbrev world_Num:Func:=Proofs.Tryz.f33
noncomputable abbrev world_Tape_Next:Func:=Proofs.Tryz.f36
noncomputable abbrev world_Tape_Bool:Func:=Proofs.Tryz.f37
noncomputable abbrev world_Tape_Typed:Func:=Proofs.Tryz.f39
noncomputable abbrev world_Tape_Small:Func:=Proofs.Tryz.f40
noncomputable abbrev ref5_Fits:Func:=Proofs.Tryz.f48
noncomputable abbrev world_Tape_Row:Func:=Proofs.Tryz.f57
noncomputable abbrev slices_IndexFunc_Table:Func:=Proofs.Tryz.f58
noncomputable abbrev store_Find_c1:Func:=Proofs.Tryz.f59
noncomputable abbrev slices_Grow_Table:Func:=Proofs.Tryz.f60
noncomputable abbrev dml_target:Func:=Proofs.Tryz.f61
noncomputable abbrev dml_inserted:Func:=Proofs.Tryz.f62
noncomputable abbrev evaluate_True:Func:=Proofs.Tryz.f65
noncomputable abbrev slices_Clone_Value:Func:=Proofs.Tryz.f67
noncomputable abbrev deep_list_api_Table:Func:=Proofs.Tryz.f68
noncomputable abbrev deep_Table:Func:=Proofs.Tryz.f69
noncomputable abbrev slices_ContainsFunc_string:Func:=Proofs.Tryz.f70
noncomputable abbrev before_Applicable_c1:Func:=Proofs.Tryz.f71
noncomputable abbrev slices_Contains_string:Func:=Proofs.Tryz.f72
noncomputable abbrev deep_Trigger:Func:=Proofs.Tryz.f73
noncomputable abbrev slices_Contains_int:Func:=Proofs.Tryz.f74
noncomputable abbrev statement_run_row:Func:=Proofs.Tryz.f75
noncomputable abbrev keys_Valid:Func:=Proofs.Tryz.f76
noncomputable abbrev keys_fits:Func:=Proofs.Tryz.f77
noncomputable abbrev slices_Clone_Column:Func:=Proofs.Tryz.f78
noncomputable abbrev table_Duplicate:Func:=Proofs.Tryz.f79
noncomputable abbrev world_Tape_Number:Func:=Proofs.Tryz.f81
noncomputable abbrev world_Tape_Word:Func:=Proofs.Tryz.f82
noncomputable abbrev ref4_Fits:Func:=Proofs.Tryz.f94
noncomputable abbrev syntax_ValidAction:Func:=Proofs.Tryz.f98
noncomputable abbrev scope_Source:Func:=Proofs.Tryz.f99
noncomputable abbrev evaluate_Value:Func:=Proofs.Tryz.f100
noncomputable abbrev slices_ContainsFunc_Value:Func:=Proofs.Tryz.f102
noncomputable abbrev slices_Clone_Frame:Func:=Proofs.Tryz.f104
noncomputable abbrev logic_Valid:Func:=Proofs.Tryz.f105
noncomputable abbrev logic_IsTrue:Func:=Proofs.Tryz.f106
noncomputable abbrev schema_Find:Func:=Proofs.Tryz.f107
noncomputable abbrev deep_Schema:Func:=Proofs.Tryz.f108
noncomputable abbrev deep_list_api_Row:Func:=Proofs.Tryz.f109
noncomputable abbrev deep_Row:Func:=Proofs.Tryz.f110
noncomputable abbrev slices_IndexFunc_string:Func:=Proofs.Tryz.f111
noncomputable abbrev slices_Index_string:Func:=Proofs.Tryz.f112
noncomputable abbrev slices_Clone_string:Func:=Proofs.Tryz.f113
noncomputable abbrev slices_Clone_Rank:Func:=Proofs.Tryz.f114
noncomputable abbrev deep_Exprs:Func:=Proofs.Tryz.f115
noncomputable abbrev deep_list_api_Action:Func:=Proofs.Tryz.f116
noncomputable abbrev deep_Action:Func:=Proofs.Tryz.f117
noncomputable abbrev slices_Index_int:Func:=Proofs.Tryz.f118
noncomputable abbrev before_Row:Func:=Proofs.Tryz.f119
noncomputable abbrev table_Valid:Func:=Proofs.Tryz.f120
noncomputable abbrev keys_rows:Func:=Proofs.Tryz.f121
noncomputable abbrev keys_Valid_c1:Func:=Proofs.Tryz.f123
noncomputable abbrev tuple_Fits:Func:=Proofs.Tryz.f124
noncomputable abbrev schema_KeyColumn:Func:=Proofs.Tryz.f125
noncomputable abbrev ref1_Valid:Func:=Proofs.Tryz.f130
noncomputable abbrev schema_ValidName:Func:=Proofs.Tryz.f141
noncomputable abbrev syntax_validRows:Func:=Proofs.Tryz.f142
noncomputable abbrev syntax_ValidQuery:Func:=Proofs.Tryz.f143
noncomputable abbrev syntax_validSets:Func:=Proofs.Tryz.f144
noncomputable abbrev syntax_condition:Func:=Proofs.Tryz.f145
noncomputable abbrev scope_Source_c1:Func:=Proofs.Tryz.f147
noncomputable abbrev scope_Formed:Func:=Proofs.Tryz.f148
noncomputable abbrev scope_Resolve:Func:=Proofs.Tryz.f149
noncomputable abbrev evaluate_aggregate:Func:=Proofs.Tryz.f150
noncomputable abbrev evaluate_operation:Func:=Proofs.Tryz.f151
noncomputable abbrev evaluate_selected:Func:=Proofs.Tryz.f152
noncomputable abbrev slices_IndexFunc_Value:Func:=Proofs.Tryz.f154
noncomputable abbrev value_Valid:Func:=Proofs.Tryz.f155
noncomputable abbrev value_Truth:Func:=Proofs.Tryz.f156
noncomputable abbrev slices_IndexFunc_Column:Func:=Proofs.Tryz.f157
noncomputable abbrev schema_Find_c1:Func:=Proofs.Tryz.f158
noncomputable abbrev deep_list_api_Expr:Func:=Proofs.Tryz.f159
noncomputable abbrev deep_Expr:Func:=Proofs.Tryz.f160
noncomputable abbrev deep_list_Lapi_Expr:Func:=Proofs.Tryz.f161
noncomputable abbrev deep_list_api_Query:Func:=Proofs.Tryz.f162
noncomputable abbrev deep_Query:Func:=Proofs.Tryz.f163
noncomputable abbrev deep_list_api_Set:Func:=Proofs.Tryz.f164
noncomputable abbrev deep_set:Func:=Proofs.Tryz.f165
noncomputable abbrev slices_Clone_Trigger:Func:=Proofs.Tryz.f166
noncomputable abbrev pick_Eligible:Func:=Proofs.Tryz.f167
noncomputable abbrev pick_Choose:Func:=Proofs.Tryz.f168
noncomputable abbrev before_row_fire:Func:=Proofs.Tryz.f169
noncomputable abbrev slices_Delete_Trigger:Func:=Proofs.Tryz.f170
noncomputable abbrev schema_Valid:Func:=Proofs.Tryz.f171
noncomputable abbrev schema_Fits:Func:=Proofs.Tryz.f172
noncomputable abbrev schema_KeyColumn_c1:Func:=Proofs.Tryz.f173
noncomputable abbrev slices_ContainsFunc_Expr:Func:=Proofs.Tryz.f187
noncomputable abbrev syntax_validRows_c1:Func:=Proofs.Tryz.f188
noncomputable abbrev syntax_validExprs:Func:=Proofs.Tryz.f189
noncomputable abbrev syntax_source:Func:=Proofs.Tryz.f190
noncomputable abbrev syntax_ValidExpr:Func:=Proofs.Tryz.f191
noncomputable abbrev syntax_names:Func:=Proofs.Tryz.f192
noncomputable abbrev evaluate_aggregate_c1:Func:=Proofs.Tryz.f193
noncomputable abbrev evaluate_isNull:Func:=Proofs.Tryz.f194
noncomputable abbrev value_Number:Func:=Proofs.Tryz.f195
noncomputable abbrev evaluate_sum:Func:=Proofs.Tryz.f196
noncomputable abbrev slices_MinFunc_Value:Func:=Proofs.Tryz.f197
noncomputable abbrev value_Compare:Func:=Proofs.Tryz.f198
noncomputable abbrev slices_MaxFunc_Value:Func:=Proofs.Tryz.f199
noncomputable abbrev evaluate_truth:Func:=Proofs.Tryz.f200
noncomputable abbrev logic_Not:Func:=Proofs.Tryz.f201
noncomputable abbrev evaluate_between:Func:=Proofs.Tryz.f202
noncomputable abbrev evaluate_arithmetic:Func:=Proofs.Tryz.f203
noncomputable abbrev logic_And:Func:=Proofs.Tryz.f204
noncomputable abbrev logic_Or:Func:=Proofs.Tryz.f205
noncomputable abbrev evaluate_comparison:Func:=Proofs.Tryz.f206
noncomputable abbrev evaluate_find:Func:=Proofs.Tryz.f207
noncomputable abbrev evaluate_inside:Func:=Proofs.Tryz.f208
noncomputable abbrev value_plain:Func:=Proofs.Tryz.f209
noncomputable abbrev order_Precedes:Func:=Proofs.Tryz.f210
noncomputable abbrev trigger_Frames:Func:=Proofs.Tryz.f211
noncomputable abbrev before_row_set:Func:=Proofs.Tryz.f212
noncomputable abbrev slices_IndexFunc_Expr:Func:=Proofs.Tryz.f222
noncomputable abbrev slices_ContainsFunc_Expr_175:Func:=Proofs.Tryz.f223
noncomputable abbrev syntax_validExprs_c1:Func:=Proofs.Tryz.f224
noncomputable abbrev syntax_bare:Func:=Proofs.Tryz.f225
noncomputable abbrev syntax_column:Func:=Proofs.Tryz.f226
noncomputable abbrev syntax_inner:Func:=Proofs.Tryz.f227
noncomputable abbrev syntax_arguments:Func:=Proofs.Tryz.f228
noncomputable abbrev arith_Sum:Func:=Proofs.Tryz.f229
noncomputable abbrev cmp_Or_int:Func:=Proofs.Tryz.f230
noncomputable abbrev cmp_Compare_int:Func:=Proofs.Tryz.f231
noncomputable abbrev cmp_Compare_int64:Func:=Proofs.Tryz.f232
noncomputable abbrev cmp_Compare_string:Func:=Proofs.Tryz.f233
noncomputable abbrev arith_Add:Func:=Proofs.Tryz.f234
noncomputable abbrev arith_Subtract:Func:=Proofs.Tryz.f235
noncomputable abbrev arith_Multiply:Func:=Proofs.Tryz.f236
noncomputable abbrev arith_Divide:Func:=Proofs.Tryz.f237
noncomputable abbrev arith_Modulo:Func:=Proofs.Tryz.f238
noncomputable abbrev logic_and:Func:=Proofs.Tryz.f239
noncomputable abbrev evaluate_find_c1:Func:=Proofs.Tryz.f240
noncomputable abbrev slices_Contains_Link:Func:=Proofs.Tryz.f241
noncomputable abbrev slices_IndexFunc_Expr_199:Func:=Proofs.Tryz.f249
noncomputable abbrev math_bits_Add64:Func:=Proofs.Tryz.f250
noncomputable abbrev cmp_isNaN_int:Func:=Proofs.Tryz.f251
noncomputable abbrev cmp_isNaN_int64:Func:=Proofs.Tryz.f252
noncomputable abbrev cmp_isNaN_string:Func:=Proofs.Tryz.f253
noncomputable abbrev slices_Index_Link:Func:=Proofs.Tryz.f254
end B
namespace At
theorem law21_StatementSees:Proofs.Tryz.prog.funcs[S.law21_StatementSees]?=some B.law21_StatementSees:=Proofs.Tryz.func3
theorem world_New:Proofs.Tryz.prog.funcs[S.world_New]?=some B.world_New:=Proofs.Tryz.func6
theorem world_Tape_Store:Proofs.Tryz.prog.funcs[S.world_Tape_Store]?=some B.world_Tape_Store:=Proofs.Tryz.func7
theorem ref9_Find:Proofs.Tryz.prog.funcs[S.ref9_Find]?=some B.ref9_Find:=Proofs.Tryz.func8
theorem world_Mod:Proofs.Tryz.prog.funcs[S.world_Mod]?=some B.world_Mod:=Proofs.Tryz.func9
theorem world_Lit:Proofs.Tryz.prog.funcs[S.world_Lit]?=some B.world_Lit:=Proofs.Tryz.func10
theorem statement_Run:Proofs.Tryz.prog.funcs[S.statement_Run]?=some B.statement_Run:=Proofs.Tryz.func11
theorem ref1_Number:Proofs.Tryz.prog.funcs[S.ref1_Number]?=some B.ref1_Number:=Proofs.Tryz.func12
theorem law21_known:Proofs.Tryz.prog.funcs[S.law21_known]?=some B.law21_known:=Proofs.Tryz.func13
theorem world_Schemas:Proofs.Tryz.prog.funcs[S.world_Schemas]?=some B.world_Schemas:=Proofs.Tryz.func20
theorem world_Tape_TableOf:Proofs.Tryz.prog.funcs[S.world_Tape_TableOf]?=some B.world_Tape_TableOf:=Proofs.Tryz.func21
theorem store_Find:Proofs.Tryz.prog.funcs[S.store_Find]?=some B.store_Find:=Proofs.Tryz.func22
theorem slices_Concat_Table:Proofs.Tryz.prog.funcs[S.slices_Concat_Table]?=some B.slices_Concat_Table:=Proofs.Tryz.func23
theorem dml_Candidates:Proofs.Tryz.prog.funcs[S.dml_Candidates]?=some B.dml_Candidates:=Proofs.Tryz.func24
theorem deep_Tables:Proofs.Tryz.prog.funcs[S.deep_Tables]?=some B.deep_Tables:=Proofs.Tryz.func25
theorem slices_Clone_int:Proofs.Tryz.prog.funcs[S.slices_Clone_int]?=some B.slices_Clone_int:=Proofs.Tryz.func26
theorem dml_Assigned:Proofs.Tryz.prog.funcs[S.dml_Assigned]?=some B.dml_Assigned:=Proofs.Tryz.func27
theorem before_Statement:Proofs.Tryz.prog.funcs[S.before_Statement]?=some B.before_Statement:=Proofs.Tryz.func28
theorem before_Applicable:Proofs.Tryz.prog.funcs[S.before_Applicable]?=some B.before_Applicable:=Proofs.Tryz.func29
theorem statement_run_rows:Proofs.Tryz.prog.funcs[S.statement_run_rows]?=some B.statement_run_rows:=Proofs.Tryz.func30
theorem keys_Apply:Proofs.Tryz.prog.funcs[S.keys_Apply]?=some B.keys_Apply:=Proofs.Tryz.func31
theorem world_Schema:Proofs.Tryz.prog.funcs[S.world_Schema]?=some B.world_Schema:=Proofs.Tryz.func32
theorem world_Num:Proofs.Tryz.prog.funcs[S.world_Num]?=some B.world_Num:=Proofs.Tryz.func33
theorem world_Tape_Next:Proofs.Tryz.prog.funcs[S.world_Tape_Next]?=some B.world_Tape_Next:=Proofs.Tryz.func36
theorem world_Tape_Bool:Proofs.Tryz.prog.funcs[S.world_Tape_Bool]?=some B.world_Tape_Bool:=Proofs.Tryz.func37
theorem world_Tape_Typed:Proofs.Tryz.prog.funcs[S.world_Tape_Typed]?=some B.world_Tape_Typed:=Proofs.Tryz.func39
theorem world_Tape_Small:Proofs.Tryz.prog.funcs[S.world_Tape_Small]?=some B.world_Tape_Small:=Proofs.Tryz.func40
theorem ref5_Fits:Proofs.Tryz.prog.funcs[S.ref5_Fits]?=some B.ref5_Fits:=Proofs.Tryz.func48
theorem world_Tape_Row:Proofs.Tryz.prog.funcs[S.world_Tape_Row]?=some B.world_Tape_Row:=Proofs.Tryz.func57
theorem slices_IndexFunc_Table:Proofs.Tryz.prog.funcs[S.slices_IndexFunc_Table]?=some B.slices_IndexFunc_Table:=Proofs.Tryz.func58
theorem store_Find_c1:Proofs.Tryz.prog.funcs[S.store_Find_c1]?=some B.store_Find_c1:=Proofs.Tryz.func59
theorem slices_Grow_Table:Proofs.Tryz.prog.funcs[S.slices_Grow_Table]?=some B.slices_Grow_Table:=Proofs.Tryz.func60
theorem dml_target:Proofs.Tryz.prog.funcs[S.dml_target]?=some B.dml_target:=Proofs.Tryz.func61
theorem dml_inserted:Proofs.Tryz.prog.funcs[S.dml_inserted]?=some B.dml_inserted:=Proofs.Tryz.func62
theorem evaluate_True:Proofs.Tryz.prog.funcs[S.evaluate_True]?=some B.evaluate_True:=Proofs.Tryz.func65
theorem slices_Clone_Value:Proofs.Tryz.prog.funcs[S.slices_Clone_Value]?=some B.slices_Clone_Value:=Proofs.Tryz.func67
theorem deep_list_api_Table:Proofs.Tryz.prog.funcs[S.deep_list_api_Table]?=some B.deep_list_api_Table:=Proofs.Tryz.func68
theorem deep_Table:Proofs.Tryz.prog.funcs[S.deep_Table]?=some B.deep_Table:=Proofs.Tryz.func69
theorem slices_ContainsFunc_string:Proofs.Tryz.prog.funcs[S.slices_ContainsFunc_string]?=some B.slices_ContainsFunc_string:=Proofs.Tryz.func70
theorem before_Applicable_c1:Proofs.Tryz.prog.funcs[S.before_Applicable_c1]?=some B.before_Applicable_c1:=Proofs.Tryz.func71
theorem slices_Contains_string:Proofs.Tryz.prog.funcs[S.slices_Contains_string]?=some B.slices_Contains_string:=Proofs.Tryz.func72
theorem deep_Trigger:Proofs.Tryz.prog.funcs[S.deep_Trigger]?=some B.deep_Trigger:=Proofs.Tryz.func73
theorem slices_Contains_int:Proofs.Tryz.prog.funcs[S.slices_Contains_int]?=some B.slices_Contains_int:=Proofs.Tryz.func74
theorem statement_run_row:Proofs.Tryz.prog.funcs[S.statement_run_row]?=some B.statement_run_row:=Proofs.Tryz.func75
theorem keys_Valid:Proofs.Tryz.prog.funcs[S.keys_Valid]?=some B.keys_Valid:=Proofs.Tryz.func76
theorem keys_fits:Proofs.Tryz.prog.funcs[S.keys_fits]?=some B.keys_fits:=Proofs.Tryz.func77
theorem slices_Clone_Column:Proofs.Tryz.prog.funcs[S.slices_Clone_Column]?=some B.slices_Clone_Column:=Proofs.Tryz.func78
theorem table_Duplicate:Proofs.Tryz.prog.funcs[S.table_Duplicate]?=some B.table_Duplicate:=Proofs.Tryz.func79
theorem world_Tape_Number:Proofs.Tryz.prog.funcs[S.world_Tape_Number]?=some B.world_Tape_Number:=Proofs.Tryz.func81
theorem world_Tape_Word:Proofs.Tryz.prog.funcs[S.world_Tape_Word]?=some B.world_Tape_Word:=Proofs.Tryz.func82
theorem ref4_Fits:Proofs.Tryz.prog.funcs[S.ref4_Fits]?=some B.ref4_Fits:=Proofs.Tryz.func94
theorem syntax_ValidAction:Proofs.Tryz.prog.funcs[S.syntax_ValidAction]?=some B.syntax_ValidAction:=Proofs.Tryz.func98
theorem scope_Source:Proofs.Tryz.prog.funcs[S.scope_Source]?=some B.scope_Source:=Proofs.Tryz.func99
theorem evaluate_Value:Proofs.Tryz.prog.funcs[S.evaluate_Value]?=some B.evaluate_Value:=Proofs.Tryz.func100
theorem slices_ContainsFunc_Value:Proofs.Tryz.prog.funcs[S.slices_ContainsFunc_Value]?=some B.slices_ContainsFunc_Value:=Proofs.Tryz.func102
theorem slices_Clone_Frame:Proofs.Tryz.prog.funcs[S.slices_Clone_Frame]?=some B.slices_Clone_Frame:=Proofs.Tryz.func104
theorem logic_Valid:Proofs.Tryz.prog.funcs[S.logic_Valid]?=some B.logic_Valid:=Proofs.Tryz.func105
theorem logic_IsTrue:Proofs.Tryz.prog.funcs[S.logic_IsTrue]?=some B.logic_IsTrue:=Proofs.Tryz.func106
theorem schema_Find:Proofs.Tryz.prog.funcs[S.schema_Find]?=some B.schema_Find:=Proofs.Tryz.func107
theorem deep_Schema:Proofs.Tryz.prog.funcs[S.deep_Schema]?=some B.deep_Schema:=Proofs.Tryz.func108
theorem deep_list_api_Row:Proofs.Tryz.prog.funcs[S.deep_list_api_Row]?=some B.deep_list_api_Row:=Proofs.Tryz.func109
theorem deep_Row:Proofs.Tryz.prog.funcs[S.deep_Row]?=some B.deep_Row:=Proofs.Tryz.func110
theorem slices_IndexFunc_string:Proofs.Tryz.prog.funcs[S.slices_IndexFunc_string]?=some B.slices_IndexFunc_string:=Proofs.Tryz.func111
theorem slices_Index_string:Proofs.Tryz.prog.funcs[S.slices_Index_string]?=some B.slices_Index_string:=Proofs.Tryz.func112
theorem slices_Clone_string:Proofs.Tryz.prog.funcs[S.slices_Clone_string]?=some B.slices_Clone_string:=Proofs.Tryz.func113
theorem slices_Clone_Rank:Proofs.Tryz.prog.funcs[S.slices_Clone_Rank]?=some B.slices_Clone_Rank:=Proofs.Tryz.func114
theorem deep_Exprs:Proofs.Tryz.prog.funcs[S.deep_Exprs]?=some B.deep_Exprs:=Proofs.Tryz.func115
theorem deep_list_api_Action:Proofs.Tryz.prog.funcs[S.deep_list_api_Action]?=some B.deep_list_api_Action:=Proofs.Tryz.func116
theorem deep_Action:Proofs.Tryz.prog.funcs[S.deep_Action]?=some B.deep_Action:=Proofs.Tryz.func117
theorem slices_Index_int:Proofs.Tryz.prog.funcs[S.slices_Index_int]?=some B.slices_Index_int:=Proofs.Tryz.func118
theorem before_Row:Proofs.Tryz.prog.funcs[S.before_Row]?=some B.before_Row:=Proofs.Tryz.func119
theorem table_Valid:Proofs.Tryz.prog.funcs[S.table_Valid]?=some B.table_Valid:=Proofs.Tryz.func120
theorem keys_rows:Proofs.Tryz.prog.funcs[S.keys_rows]?=some B.keys_rows:=Proofs.Tryz.func121
theorem keys_Valid_c1:Proofs.Tryz.prog.funcs[S.keys_Valid_c1]?=some B.keys_Valid_c1:=Proofs.Tryz.func123
theorem tuple_Fits:Proofs.Tryz.prog.funcs[S.tuple_Fits]?=some B.tuple_Fits:=Proofs.Tryz.func124
theorem schema_KeyColumn:Proofs.Tryz.prog.funcs[S.schema_KeyColumn]?=some B.schema_KeyColumn:=Proofs.Tryz.func125
theorem ref1_Valid:Proofs.Tryz.prog.funcs[S.ref1_Valid]?=some B.ref1_Valid:=Proofs.Tryz.func130
theorem schema_ValidName:Proofs.Tryz.prog.funcs[S.schema_ValidName]?=some B.schema_ValidName:=Proofs.Tryz.func141
theorem syntax_validRows:Proofs.Tryz.prog.funcs[S.syntax_validRows]?=some B.syntax_validRows:=Proofs.Tryz.func142
theorem syntax_ValidQuery:Proofs.Tryz.prog.funcs[S.syntax_ValidQuery]?=some B.syntax_ValidQuery:=Proofs.Tryz.func143
theorem syntax_validSets:Proofs.Tryz.prog.funcs[S.syntax_validSets]?=some B.syntax_validSets:=Proofs.Tryz.func144
theorem syntax_condition:Proofs.Tryz.prog.funcs[S.syntax_condition]?=some B.syntax_condition:=Proofs.Tryz.func145
theorem scope_Source_c1:Proofs.Tryz.prog.funcs[S.scope_Source_c1]?=some B.scope_Source_c1:=Proofs.Tryz.func147
theorem scope_Formed:Proofs.Tryz.prog.funcs[S.scope_Formed]?=some B.scope_Formed:=Proofs.Tryz.func148
theorem scope_Resolve:Proofs.Tryz.prog.funcs[S.scope_Resolve]?=some B.scope_Resolve:=Proofs.Tryz.func149
theorem evaluate_aggregate:Proofs.Tryz.prog.funcs[S.evaluate_aggregate]?=some B.evaluate_aggregate:=Proofs.Tryz.func150
theorem evaluate_operation:Proofs.Tryz.prog.funcs[S.evaluate_operation]?=some B.evaluate_operation:=Proofs.Tryz.func151
theorem evaluate_selected:Proofs.Tryz.prog.funcs[S.evaluate_selected]?=some B.evaluate_selected:=Proofs.Tryz.func152
theorem slices_IndexFunc_Value:Proofs.Tryz.prog.funcs[S.slices_IndexFunc_Value]?=some B.slices_IndexFunc_Value:=Proofs.Tryz.func154
theorem value_Valid:Proofs.Tryz.prog.funcs[S.value_Valid]?=some B.value_Valid:=Proofs.Tryz.func155
theorem value_Truth:Proofs.Tryz.prog.funcs[S.value_Truth]?=some B.value_Truth:=Proofs.Tryz.func156
theorem slices_IndexFunc_Column:Proofs.Tryz.prog.funcs[S.slices_IndexFunc_Column]?=some B.slices_IndexFunc_Column:=Proofs.Tryz.func157
theorem schema_Find_c1:Proofs.Tryz.prog.funcs[S.schema_Find_c1]?=some B.schema_Find_c1:=Proofs.Tryz.func158
theorem deep_list_api_Expr:Proofs.Tryz.prog.funcs[S.deep_list_api_Expr]?=some B.deep_list_api_Expr:=Proofs.Tryz.func159
theorem deep_Expr:Proofs.Tryz.prog.funcs[S.deep_Expr]?=some B.deep_Expr:=Proofs.Tryz.func160
theorem deep_list_Lapi_Expr:Proofs.Tryz.prog.funcs[S.deep_list_Lapi_Expr]?=some B.deep_list_Lapi_Expr:=Proofs.Tryz.func161
theorem deep_list_api_Query:Proofs.Tryz.prog.funcs[S.deep_list_api_Query]?=some B.deep_list_api_Query:=Proofs.Tryz.func162
theorem deep_Query:Proofs.Tryz.prog.funcs[S.deep_Query]?=some B.deep_Query:=Proofs.Tryz.func163
theorem deep_list_api_Set:Proofs.Tryz.prog.funcs[S.deep_list_api_Set]?=some B.deep_list_api_Set:=Proofs.Tryz.func164
theorem deep_set:Proofs.Tryz.prog.funcs[S.deep_set]?=some B.deep_set:=Proofs.Tryz.func165
theorem slices_Clone_Trigger:Proofs.Tryz.prog.funcs[S.slices_Clone_Trigger]?=some B.slices_Clone_Trigger:=Proofs.Tryz.func166
theorem pick_Eligible:Proofs.Tryz.prog.funcs[S.pick_Eligible]?=some B.pick_Eligible:=Proofs.Tryz.func167
theorem pick_Choose:Proofs.Tryz.prog.funcs[S.pick_Choose]?=some B.pick_Choose:=Proofs.Tryz.func168
theorem before_row_fire:Proofs.Tryz.prog.funcs[S.before_row_fire]?=some B.before_row_fire:=Proofs.Tryz.func169
theorem slices_Delete_Trigger:Proofs.Tryz.prog.funcs[S.slices_Delete_Trigger]?=some B.slices_Delete_Trigger:=Proofs.Tryz.func170
theorem schema_Valid:Proofs.Tryz.prog.funcs[S.schema_Valid]?=some B.schema_Valid:=Proofs.Tryz.func171
theorem schema_Fits:Proofs.Tryz.prog.funcs[S.schema_Fits]?=some B.schema_Fits:=Proofs.Tryz.func172
theorem schema_KeyColumn_c1:Proofs.Tryz.prog.funcs[S.schema_KeyColumn_c1]?=some B.schema_KeyColumn_c1:=Proofs.Tryz.func173
theorem slices_ContainsFunc_Expr:Proofs.Tryz.prog.funcs[S.slices_ContainsFunc_Expr]?=some B.slices_ContainsFunc_Expr:=Proofs.Tryz.func187
theorem syntax_validRows_c1:Proofs.Tryz.prog.funcs[S.syntax_validRows_c1]?=some B.syntax_validRows_c1:=Proofs.Tryz.func188
theorem syntax_validExprs:Proofs.Tryz.prog.funcs[S.syntax_validExprs]?=some B.syntax_validExprs:=Proofs.Tryz.func189
theorem syntax_source:Proofs.Tryz.prog.funcs[S.syntax_source]?=some B.syntax_source:=Proofs.Tryz.func190
theorem syntax_ValidExpr:Proofs.Tryz.prog.funcs[S.syntax_ValidExpr]?=some B.syntax_ValidExpr:=Proofs.Tryz.func191
theorem syntax_names:Proofs.Tryz.prog.funcs[S.syntax_names]?=some B.syntax_names:=Proofs.Tryz.func192
theorem evaluate_aggregate_c1:Proofs.Tryz.prog.funcs[S.evaluate_aggregate_c1]?=some B.evaluate_aggregate_c1:=Proofs.Tryz.func193
theorem evaluate_isNull:Proofs.Tryz.prog.funcs[S.evaluate_isNull]?=some B.evaluate_isNull:=Proofs.Tryz.func194
theorem value_Number:Proofs.Tryz.prog.funcs[S.value_Number]?=some B.value_Number:=Proofs.Tryz.func195
theorem evaluate_sum:Proofs.Tryz.prog.funcs[S.evaluate_sum]?=some B.evaluate_sum:=Proofs.Tryz.func196
theorem slices_MinFunc_Value:Proofs.Tryz.prog.funcs[S.slices_MinFunc_Value]?=some B.slices_MinFunc_Value:=Proofs.Tryz.func197
theorem value_Compare:Proofs.Tryz.prog.funcs[S.value_Compare]?=some B.value_Compare:=Proofs.Tryz.func198
theorem slices_MaxFunc_Value:Proofs.Tryz.prog.funcs[S.slices_MaxFunc_Value]?=some B.slices_MaxFunc_Value:=Proofs.Tryz.func199
theorem evaluate_truth:Proofs.Tryz.prog.funcs[S.evaluate_truth]?=some B.evaluate_truth:=Proofs.Tryz.func200
theorem logic_Not:Proofs.Tryz.prog.funcs[S.logic_Not]?=some B.logic_Not:=Proofs.Tryz.func201
theorem evaluate_between:Proofs.Tryz.prog.funcs[S.evaluate_between]?=some B.evaluate_between:=Proofs.Tryz.func202
theorem evaluate_arithmetic:Proofs.Tryz.prog.funcs[S.evaluate_arithmetic]?=some B.evaluate_arithmetic:=Proofs.Tryz.func203
theorem logic_And:Proofs.Tryz.prog.funcs[S.logic_And]?=some B.logic_And:=Proofs.Tryz.func204
theorem logic_Or:Proofs.Tryz.prog.funcs[S.logic_Or]?=some B.logic_Or:=Proofs.Tryz.func205
theorem evaluate_comparison:Proofs.Tryz.prog.funcs[S.evaluate_comparison]?=some B.evaluate_comparison:=Proofs.Tryz.func206
theorem evaluate_find:Proofs.Tryz.prog.funcs[S.evaluate_find]?=some B.evaluate_find:=Proofs.Tryz.func207
theorem evaluate_inside:Proofs.Tryz.prog.funcs[S.evaluate_inside]?=some B.evaluate_inside:=Proofs.Tryz.func208
theorem value_plain:Proofs.Tryz.prog.funcs[S.value_plain]?=some B.value_plain:=Proofs.Tryz.func209
theorem order_Precedes:Proofs.Tryz.prog.funcs[S.order_Precedes]?=some B.order_Precedes:=Proofs.Tryz.func210
theorem trigger_Frames:Proofs.Tryz.prog.funcs[S.trigger_Frames]?=some B.trigger_Frames:=Proofs.Tryz.func211
theorem before_row_set:Proofs.Tryz.prog.funcs[S.before_row_set]?=some B.before_row_set:=Proofs.Tryz.func212
theorem slices_IndexFunc_Expr:Proofs.Tryz.prog.funcs[S.slices_IndexFunc_Expr]?=some B.slices_IndexFunc_Expr:=Proofs.Tryz.func222
theorem slices_ContainsFunc_Expr_175:Proofs.Tryz.prog.funcs[S.slices_ContainsFunc_Expr_175]?=some B.slices_ContainsFunc_Expr_175:=Proofs.Tryz.func223
theorem syntax_validExprs_c1:Proofs.Tryz.prog.funcs[S.syntax_validExprs_c1]?=some B.syntax_validExprs_c1:=Proofs.Tryz.func224
theorem syntax_bare:Proofs.Tryz.prog.funcs[S.syntax_bare]?=some B.syntax_bare:=Proofs.Tryz.func225
theorem syntax_column:Proofs.Tryz.prog.funcs[S.syntax_column]?=some B.syntax_column:=Proofs.Tryz.func226
theorem syntax_inner:Proofs.Tryz.prog.funcs[S.syntax_inner]?=some B.syntax_inner:=Proofs.Tryz.func227
theorem syntax_arguments:Proofs.Tryz.prog.funcs[S.syntax_arguments]?=some B.syntax_arguments:=Proofs.Tryz.func228
theorem arith_Sum:Proofs.Tryz.prog.funcs[S.arith_Sum]?=some B.arith_Sum:=Proofs.Tryz.func229
theorem cmp_Or_int:Proofs.Tryz.prog.funcs[S.cmp_Or_int]?=some B.cmp_Or_int:=Proofs.Tryz.func230
theorem cmp_Compare_int:Proofs.Tryz.prog.funcs[S.cmp_Compare_int]?=some B.cmp_Compare_int:=Proofs.Tryz.func231
theorem cmp_Compare_int64:Proofs.Tryz.prog.funcs[S.cmp_Compare_int64]?=some B.cmp_Compare_int64:=Proofs.Tryz.func232
theorem cmp_Compare_string:Proofs.Tryz.prog.funcs[S.cmp_Compare_string]?=some B.cmp_Compare_string:=Proofs.Tryz.func233
theorem arith_Add:Proofs.Tryz.prog.funcs[S.arith_Add]?=some B.arith_Add:=Proofs.Tryz.func234
theorem arith_Subtract:Proofs.Tryz.prog.funcs[S.arith_Subtract]?=some B.arith_Subtract:=Proofs.Tryz.func235
theorem arith_Multiply:Proofs.Tryz.prog.funcs[S.arith_Multiply]?=some B.arith_Multiply:=Proofs.Tryz.func236
theorem arith_Divide:Proofs.Tryz.prog.funcs[S.arith_Divide]?=some B.arith_Divide:=Proofs.Tryz.func237
theorem arith_Modulo:Proofs.Tryz.prog.funcs[S.arith_Modulo]?=some B.arith_Modulo:=Proofs.Tryz.func238
theorem logic_and:Proofs.Tryz.prog.funcs[S.logic_and]?=some B.logic_and:=Proofs.Tryz.func239
theorem evaluate_find_c1:Proofs.Tryz.prog.funcs[S.evaluate_find_c1]?=some B.evaluate_find_c1:=Proofs.Tryz.func240
theorem slices_Contains_Link:Proofs.Tryz.prog.funcs[S.slices_Contains_Link]?=some B.slices_Contains_Link:=Proofs.Tryz.func241
theorem slices_IndexFunc_Expr_199:Proofs.Tryz.prog.funcs[S.slices_IndexFunc_Expr_199]?=some B.slices_IndexFunc_Expr_199:=Proofs.Tryz.func249
theorem math_bits_Add64:Proofs.Tryz.prog.funcs[S.math_bits_Add64]?=some B.math_bits_Add64:=Proofs.Tryz.func250
theorem cmp_isNaN_int:Proofs.Tryz.prog.funcs[S.cmp_isNaN_int]?=some B.cmp_isNaN_int:=Proofs.Tryz.func251
theorem cmp_isNaN_int64:Proofs.Tryz.prog.funcs[S.cmp_isNaN_int64]?=some B.cmp_isNaN_int64:=Proofs.Tryz.func252
theorem cmp_isNaN_string:Proofs.Tryz.prog.funcs[S.cmp_isNaN_string]?=some B.cmp_isNaN_string:=Proofs.Tryz.func253
theorem slices_Index_Link:Proofs.Tryz.prog.funcs[S.slices_Index_Link]?=some B.slices_Index_Link:=Proofs.Tryz.func254
end At
end Go.AM
namespace Go.AM
theorem Rel.nilRow {E:Env0} {h:Heap} {β:List Con} {S:Addr→Prop} {w:World} (r:Rel E h β S w) (e:TypeId) (a:Option Addr) :
  Ext h β S w (h++[Blk.row e [] false]) (β++[.nil a]) S w∧Rel E (h++[Blk.row e [] false]) (β++[.nil a]) S w :=
 r.newRow e [] false (.nil a) ⟨rfl,rfl,rfl,Nat.le_refl _,fun _ _=>rfl⟩ (fun g hg=>by cases hg) rfl
theorem zhU {T:TypeId→TI} {h:Heap} {β:List Con} {S:Addr→Prop} {w:World} {v:Value} (hv:RelV T h β w S .nl v):∃ a,v=.slice a 0 0:=by
 cases hv with
 | d _ _ hd=>cases hd
 | nl a=>exact ⟨a,rfl⟩
theorem Rel.ownNil {E:Env0} {h:Heap} {β:List Con} {S:Addr→Prop} {w:World} (r:Rel E h β S w) (e:TypeId) (a:Option Addr) :
  RelV E.T (h++[Blk.row e [] false]) (β++[.nil a]) w S (.own h.length 0) (.slice a 0 0) :=
 .own _ _ _ e [] false (getElem?_append_new _ _) (Nat.le_refl _) (fun _=>by rw [← r.len,getElem?_append_new];rfl) rfl
theorem zr5 {E:Env0} {fn:Func} {h0:Heap} {c:Cfg} {R:AV→Heap→Prop} (t:Nat) (e:TypeId) (hc:look c.ts t=.nl)
  (hg:Good E fn h0 ⟨c.n,c.todo,(t,.own c.h.length 0)::c.ts,c.h++[Blk.row e [] false]⟩ R):Good E fn h0 c R:=by
 intro β0 S0 w0 β S w tmps hb0 hn x0 r rt
 have ht:=rt t
 rw [hc] at ht
 obtain ⟨a,ha⟩:=zhU ht
 obtain ⟨x1,r1⟩:=r.nilRow e a
 refine hg β0 S0 w0 _ S w tmps hb0 hn (x0.trans x1) r1 fun t'=>?_
 simp only [look]
 cases hb:Nat.beq t t' with
 | true =>
  have:=Nat.eq_of_beq_eq_true hb
  subst this
  simp only
  rw [ha]
  exact r.ownNil e a
 | false=>exact (rt t').ext x1
theorem zch {E:Env0} {fn:Func} {h0 H:Heap} {c:Cfg} {R:AV→Heap→Prop} (e:TypeId) (hg:Good E fn h0 c fun r h=>r=.nl∧h=H)
  (hR:R (.own H.length 0) (H++[Blk.row e [] false])):Good E fn h0 c R:=by
 intro β0 S0 w0 β S w tmps hb0 hn x0 r rt
 refine zcJ (zmt fun en w' hp=>?_) _ _ _ _ (hg β0 S0 w0 β S w tmps hb0 hn x0 r rt)
 obtain ⟨y,h',β',S',v,he,⟨rfl,rfl⟩,r',x',hv⟩:=hp
 obtain ⟨a,rfl⟩:=zhU hv
 obtain ⟨x1,r1⟩:=r'.nilRow e a
 exact ⟨_,_,_,S',_,he,hR,r1,x'.trans x1,r'.ownNil e a⟩
theorem zfh {h:Heap} {β:List Con} {S:Addr→Prop} {w:World} {b:Nat} {cs:List AV} (hb:h[b]?=some (.box cs)) (cs':List AV):Ext h β S w (h.set b (.box cs')) β S w :=
 { Ext.refl h β S w with
  box:=fun b' cs1 h1=>by
   by_cases hbb:b=b'
   ·subst hbb
    exact ⟨cs',by rw [List.getElem?_set_self (List.getElem?_eq_some_iff.1 hb).1]⟩
   ·exact ⟨cs1,by rw [List.getElem?_set_ne hbb];exact h1⟩
  row:=fun b' e xs sh h1=>by
   have hbb:b≠b':=fun e=>by subst e;rw [hb] at h1;cases h1
   exact ⟨xs,sh,by rw [List.getElem?_set_ne hbb];exact h1,Nat.le_refl _,fun _=>rfl⟩
  mp:=fun b' es h1=>by
   have hbb:b≠b':=fun e=>by subst e;rw [hb] at h1;cases h1
   exact ⟨es,by rw [List.getElem?_set_ne hbb];exact h1⟩ }
theorem Rel.setBox {E:Env0} {h:Heap} {β:List Con} {S:Addr→Prop} {w:World} (r:Rel E h β S w) {b:Nat} {cs:List AV} (hb:h[b]?=some (.box cs)) (cs':List AV)
  (hc:∀ (g:Nat) (vs:List Value) (t:TypeId),β[b]?=some (.box g)→w.heap[g]?=some (.cells vs.toArray t (0,0))→cs.length=vs.length→(∀ (i:Nat) (x:AV) (y:Value),cs[i]?=some x→vs[i]?=some y→RelV E.T h β w S x y∧y.oneCell'=true) →
   cs'.length=vs.length∧∀ (i:Nat) (x:AV) (y:Value),cs'[i]?=some x→vs[i]?=some y→RelV E.T h β w S x y∧y.oneCell'=true):Rel E (h.set b (.box cs')) β S w:=by
 have x:=zfh (β:=β) (S:=S) (w:=w) hb cs'
 have ne:∀ {b':Nat} {e:TypeId} {xs:List (List AV)} {sh:Bool},(h.set b (.box cs'))[b']?=some (.row e xs sh)→b≠b'∧h[b']?=some (.row e xs sh):=by
  intro b' e xs sh h1
  by_cases hbb:b=b'
  ·subst hbb
   rw [List.getElem?_set_self (List.getElem?_eq_some_iff.1 hb).1] at h1
   cases h1
  ·rw [List.getElem?_set_ne hbb] at h1
   exact ⟨hbb,h1⟩
 have nem:∀ {b':Nat} {es:List (AV × AV)},(h.set b (.box cs'))[b']?=some (.mp es)→h[b']?=some (.mp es):=by
  intro b' es h1
  by_cases hbb:b=b'
  ·subst hbb
   rw [List.getElem?_set_self (List.getElem?_eq_some_iff.1 hb).1] at h1
   cases h1
  ·rw [List.getElem?_set_ne hbb] at h1
   exact h1
 refine { r with len:=by simpa using r.len,box:=?_,row:=fun b' e xs sh h1=>r.row b' e xs sh (ne h1).2,mp:=fun b' es h1=>r.mp b' es (nem h1),free:=?_ }
 ·intro b' cs1 h1
  by_cases hbb:b=b'
  ·subst hbb
   rw [List.getElem?_set_self (List.getElem?_eq_some_iff.1 hb).1] at h1
   cases h1
   obtain ⟨g,vs,t,h2,h3,h4,h5⟩:=r.box b cs hb
   obtain ⟨h6,h7⟩:=hc g vs t h2 h3 h4 h5
   exact ⟨g,vs,t,h2,h3,h6,fun i y z hy hz=>⟨(h7 i y z hy hz).1.ext x,(h7 i y z hy hz).2⟩⟩
  ·rw [List.getElem?_set_ne hbb] at h1
   obtain ⟨g,vs,t,h2,h3,h4,h5⟩:=r.box b' cs1 h1
   exact ⟨g,vs,t,h2,h3,h4,fun i y z hy hz=>⟨(h5 i y z hy hz).1.ext x,(h5 i y z hy hz).2⟩⟩
 ·intro b' k g a h1 h2 h3 h4
  obtain ⟨e,xs,h5,h6⟩:=r.free b' k g a h1 h2 h3 h4
  have hbb:b≠b':=fun e=>by subst e;rw [hb] at h5;cases h5
  exact ⟨e,xs,by rw [List.getElem?_set_ne hbb];exact h5,h6⟩
theorem zoL {E:Env0} {fn:Func} {h0:Heap} {c:Cfg} {R:AV→Heap→Prop} (b i:Nat) (e:TypeId) {cs:List AV} (hb:c.h[b]?=some (.box cs)) (hi:cs[i]?=some .nl)
  (hg:Good E fn h0 ⟨c.n,c.todo,c.ts,(c.h++[Blk.row e [] false]).set b (.box (cs.set i (.own c.h.length 0)))⟩ R):Good E fn h0 c R:=by
 intro β0 S0 w0 β S w tmps hb0 hn x0 r rt
 obtain ⟨g,vs,t,h2,h3,h4,h5⟩:=r.box b cs hb
 have hil:i < vs.length:=by rw [← h4];exact (List.getElem?_eq_some_iff.1 hi).1
 have hv:=h5 i .nl vs[i] hi (by simp [hil])
 obtain ⟨a,ha⟩:=zhU hv.1
 obtain ⟨x1,r1⟩:=r.nilRow e a
 have hb1:(c.h++[Blk.row e [] false])[b]?=some (.box cs):=by rw [List.getElem?_append_left (List.getElem?_eq_some_iff.1 hb).1];exact hb
 have x2:=zfh (β:=β++[.nil a]) (S:=S) (w:=w) hb1 (cs.set i (.own c.h.length 0))
 have r2:=r1.setBox hb1 (cs.set i (.own c.h.length 0)) (fun g' vs' t' e2 e3 e4 e5=>by
  refine ⟨by simpa using e4,fun j x y hx hy=>?_⟩
  by_cases hij:i=j
  ·subst hij
   rw [List.getElem?_set_self (List.getElem?_eq_some_iff.1 hi).1] at hx
   cases hx
   have:=e5 i .nl y hi hy
   refine ⟨?_,this.2⟩
   have hg:(β++[Con.nil a])[b]?=some (.box g):=x1.con b g h2
   rw [hg] at e2
   cases e2
   rw [h3] at e3
   have hvs:vs=vs':=by
    have e6:vs.toArray=vs'.toArray:=by injection e3 with e3;injection e3
    simpa using congrArg Array.toList e6
   subst hvs
   have:y=vs[i]:=by
    rw [List.getElem?_eq_getElem hil] at hy
    cases hy
    rfl
   rw [this,ha]
   exact r.ownNil e a
  ·rw [List.getElem?_set_ne hij] at hx
   exact e5 j x y hx hy)
 exact hg β0 S0 w0 _ S w tmps hb0 hn ((x0.trans x1).trans x2) r2 fun t'=>((rt t').ext x1).ext x2
theorem za0 {E:Env0} {fn:Func} {h0:Heap} {c c':Cfg} {R:AV→Heap→Prop} (t:Nat) (e:TypeId) (live:List Nat) (m:Nat) (hc:look c.ts t=.nl) (hm:Nat.ble h0.length m=true)
  (he:cut live m ⟨c.n,c.todo,(t,.own c.h.length 0)::c.ts,c.h++[Blk.row e [] false]⟩=c') (hg:Good E fn h0 c' R):Good E fn h0 c R :=
 zr5 t e hc (zdd live m (Nat.le_of_ble_eq_true hm) (he ▸ hg))
theorem zhj {E:Env0} {fn:Func} {h0:Heap} {c c':Cfg} {R:AV→Heap→Prop} (b i:Nat) (e:TypeId) (live:List Nat) (m:Nat) {cs:List AV} (hb:c.h[b]?=some (.box cs)) (hi:cs[i]?=some .nl) (hm:Nat.ble h0.length m=true)
  (he:cut live m ⟨c.n,c.todo,c.ts,(c.h++[Blk.row e [] false]).set b (.box (cs.set i (.own c.h.length 0)))⟩=c') (hg:Good E fn h0 c' R):Good E fn h0 c R :=
 zoL b i e hb hi (zdd live m (Nat.le_of_ble_eq_true hm) (he ▸ hg))
theorem zpC {E:Env0} {fn:Func} {h0:Heap} {c c':Cfg} {R:AV→Heap→Prop} (t:Nat) (b:Bool) (live:List Nat) (m:Nat) (hc:look c.ts t=.bl b) (hm:Nat.ble h0.length m=true)
  (he:cut live m ⟨c.n,c.todo,(t,.v (.bool b))::c.ts,c.h⟩=c') (hg:Good E fn h0 c' R):Good E fn h0 c R:=by
 have hg':=zdd live m (Nat.le_of_ble_eq_true hm) (he ▸ hg)
 intro β0 S0 w0 β S w tmps hb0 hn x0 r rt
 refine hg' β0 S0 w0 β S w tmps hb0 hn x0 r fun t'=>?_
 simp only [look]
 cases hb:Nat.beq t t' with
 | true =>
  have:=Nat.eq_of_beq_eq_true hb
  subst this
  have ht:=rt t
  rw [hc] at ht
  rw [ht.bl_inv]
  exact zbW _
 | false=>exact rt t'
theorem zj3 {E:Env0} {fn:Func} {h0:Heap} {c c':Cfg} {R:AV→Heap→Prop} (t:Nat) {v:AV} {q:Prop} (live:List Nat) (m:Nat) (hc:look c.ts t=v) (hq:frzO c.h v=q) (ho:q) (hm:Nat.ble h0.length m=true)
  (he:cut live m ⟨c.n,c.todo,(t,frz c.h v)::c.ts,share c.h (frzM v)⟩=c') (hg:Good E fn h0 c' R):Good E fn h0 c R:=by
 have hg':=zdd live m (Nat.le_of_ble_eq_true hm) (he ▸ hg)
 intro β0 S0 w0 β S w tmps hb0 hn x0 r rt
 have hv:=rt t
 rw [hc] at hv
 obtain ⟨S',⟨x1,r1⟩,d1⟩:=znn E v c.h β S w _ r hv (by rw [hq];exact ho)
 refine hg' β0 S0 w0 β S' w tmps hb0 hn (x0.trans x1) r1 fun t'=>?_
 simp only [look]
 cases hb:Nat.beq t t' with
 | true =>
  have:=Nat.eq_of_beq_eq_true hb
  subst this
  exact .d _ _ d1
 | false=>exact (rt t').ext x1
theorem zkS {E:Env0} {fn:Func} {h0:Heap} {c c':Cfg} {R:AV→Heap→Prop} (t b n:Nat) (live:List Nat) (m:Nat) (hc:look c.ts t=.own b n) (hm:Nat.ble h0.length m=true)
  (he:cut live m ⟨c.n,c.todo,(t,.os b n 0 n)::c.ts,c.h⟩=c') (hg:Good E fn h0 c' R):Good E fn h0 c R:=by
 have hg':=zdd live m (Nat.le_of_ble_eq_true hm) (he ▸ hg)
 intro β0 S0 w0 β S w tmps hb0 hn x0 r rt
 refine hg' β0 S0 w0 β S w tmps hb0 hn x0 r fun t'=>?_
 simp only [look]
 cases hb:Nat.beq t t' with
 | true =>
  have:=Nat.eq_of_beq_eq_true hb
  subst this
  have ht:=rt t
  rw [hc] at ht
  exact r.own_os ht
 | false=>exact rt t'
def zq4 (E:Env0) (c:Cfg):Option (Nat × List (List AV) × Bool):=match c.todo with
 | .ops all (o::_)::_=>match zjF all o c.ts&&zaE c.n o.dst,o.op with
  | true,.binOp op t x (.const (.slice none 0 0)) _=>match (E.T t).kind,ev E.G c.ts x,op with
   | .slice _,.own b n,.eql=>match c.h[b]? with
    | some (.row _ xs _)=>some (n,xs,true)
    | _=>none
   | .slice _,.own b n,.neq=>match c.h[b]? with
    | some (.row _ xs _)=>some (n,xs,false)
    | _=>none
   | _,_,_=>none
  | _,_=>none
 | _=>none
theorem zrn {E:Env0} (ht:zax E) {fn:Func} {h0:Heap} {c:Cfg} {R:AV→Heap→Prop} {n:Nat} {xs:List (List AV)} {e:Bool} (hc:zq4 E c=some (n,xs,e)) (hnx:n=xs.length) (hg:∀ b:Bool,(xs≠[]→b=false)→Good E fn h0 (zbi c (b==e)) R):Good E fn h0 c R:=by
 intro β0 S0 w0 β S w tmps hb0 hn x0 r rt
 obtain ⟨nn,todo,ts,h⟩:=c
 simp only at hn x0 r rt ⊢
 unfold zq4 at hc
 simp only at hc
 split at hc
 ·rename_i all o rest k
  split at hc
  ·rename_i op t x ty hchk hop
   simp only [Bool.and_eq_true] at hchk
   obtain ⟨hgo,hd⟩:=hchk
   have hx:=zaG (ds:=[]) r rt x
   simp only [kont,Exit.then]
   have fin:∀ (el:TypeId) (b:Nat) (e':TypeId) (sh:Bool) (hk:(E.T t).kind=.slice el) (he:ev E.G ts x=.own b n) (hb:h[b]?=some (.row e' xs sh)) (hop2:op=if e then .eql else .neq),wpList E.P all.toArray (kont E.P k (bodyPost E.P fn (Post E h0 β0 S0 w0 R))) (o::rest) ⟨tmps,[]⟩ w:=by
    intro el b e' sh hk he hb hop2
    rw [he] at hx
    obtain ⟨ti,dd,z,tok⟩:=ht.at_ (zaq (by rw [hk];simp):E.T t≠_)
    obtain ⟨rfl,_⟩:=tok.slice_ hk
    refine wpList_step fun K hK=>?_
    rw [if_pos (zlS rt hgo)]
    generalize hev:Act.eval ⟨tmps,[]⟩ x=y at hx
    obtain ⟨A,len,cap,rfl,hA⟩:∃ A len cap,y=.slice A len cap∧(xs≠[]→A.isNone=false):=by
     cases hx with
     | d _ _ hd1=>cases hd1
     | own _ _ _ e2 xs2 sh2 hb2 _ hy _ =>
      rw [hb] at hb2
      cases hb2
      have hcur:=hy hnx
      obtain ⟨kk,k1,hrow⟩:=r.row b e' xs sh hb
      rw [k1] at hcur
      cases kk with
      | mp _=>exact hrow.elim
      | box _=>exact hrow.elim
      | nil a =>
       have hx0:xs=[]:=hrow
       simp only [Option.bind_some,Con.cur,Option.some.injEq] at hcur
       exact ⟨a,0,0,hcur.symm,fun hne=>absurd hx0 hne⟩
      | row gg cap =>
       simp only [Option.bind_some,Con.cur,Option.some.injEq] at hcur
       exact ⟨_,_,_,hcur.symm,fun _=>rfl⟩
    have hrun:(execOp (Act.eval ⟨tmps,[]⟩) o).run E.P w=.ok (.value (.bool (A.isNone==e))) w:=by
     have h1:=zid E.P op t x (.const (.slice none 0 0)) A none len 0 cap 0 w
     have h2:=zex (P:=E.P) w tok.und A len cap
     have hcst:Act.eval ⟨tmps,[]⟩ (.const (.slice none 0 0))=.slice none 0 0:=rfl
     cases e
     ·simp only [Bool.false_eq_true,if_false] at hop2
      subst hop2
      simp only [execOp,hop,hev,hcst,Sem.run_bind,h1,Result.andThen_ok,binOp,h2,Sem.run_pure]
      cases A.isNone <;> rfl
     ·simp only [if_true] at hop2
      subst hop2
      simp only [execOp,hop,hev,hcst,Sem.run_bind,h1,Result.andThen_ok,binOp,h2,Sem.run_pure]
      cases A.isNone <;> rfl
    unfold Oper.wp
    rw [hrun,Oper.upon_value,zbB]
    refine hK _ _ ?_
    have:=hg A.isNone hA β0 S0 w0 β S w (Act.put ⟨tmps,[]⟩ o.dst (.bool (A.isNone==e))).tmps hb0 (by simp only [zbi];rw [zb2];exact hn) x0 r (rt.put (by rw [hn];exact hd) (zbW _))
    simp only [zbi,kont,Exit.then] at this
    exact this
   split at hc
   ·rename_i el b n' hk he
    split at hc
    ·rename_i e' xs' sh hb
     simp only [Option.some.injEq,Prod.mk.injEq] at hc
     obtain ⟨rfl,rfl,rfl⟩:=hc
     exact fin el b e' sh hk he hb rfl
    ·cases hc
   ·rename_i el b n' hk he
    split at hc
    ·rename_i e' xs' sh hb
     simp only [Option.some.injEq,Prod.mk.injEq] at hc
     obtain ⟨rfl,rfl,rfl⟩:=hc
     exact fin el b e' sh hk he hb rfl
    ·cases hc
   ·cases hc
  ·cases hc
 ·cases hc
theorem zmv {E:Env0} {fn:Func} {h0:Heap} {c c':Cfg} {R:AV→Heap→Prop} (b i:Nat) (x:Bool) (live:List Nat) (m:Nat) {cs:List AV} (hb:c.h[b]?=some (.box cs)) (hi:cs[i]?=some (.bl x)) (hm:Nat.ble h0.length m=true)
  (he:cut live m ⟨c.n,c.todo,c.ts,c.h.set b (.box (cs.set i (.v (.bool x))))⟩=c') (hg:Good E fn h0 c' R):Good E fn h0 c R:=by
 have hg':=zdd live m (Nat.le_of_ble_eq_true hm) (he ▸ hg)
 intro β0 S0 w0 β S w tmps hb0 hn x0 r rt
 have x2:=zfh (β:=β) (S:=S) (w:=w) hb (cs.set i (.v (.bool x)))
 have r2:=r.setBox hb (cs.set i (.v (.bool x))) (fun g' vs' t' e2 e3 e4 e5=>by
  refine ⟨by simpa using e4,fun j x' y hx hy=>?_⟩
  by_cases hij:i=j
  ·subst hij
   rw [List.getElem?_set_self (List.getElem?_eq_some_iff.1 hi).1] at hx
   cases hx
   have:=e5 i (.bl x) y hi hy
   refine ⟨?_,this.2⟩
   rw [this.1.bl_inv]
   exact zbW _
  ·rw [List.getElem?_set_ne hij] at hx
   exact e5 j x' y hx hy)
 exact hg' β0 S0 w0 β S w tmps hb0 hn (x0.trans x2) r2 fun t'=>(rt t').ext x2
theorem zar {E:Env0} {fn:Func} {h0:Heap} {n:Nat} {todo:List It} {ts ts':TS} {h h':Heap} {R:AV→Heap→Prop} (e1:ts=ts') (e2:h=h') (hg:Good E fn h0 ⟨n,todo,ts',h'⟩ R):Good E fn h0 ⟨n,todo,ts,h⟩ R:=by
 subst e1;subst e2;exact hg
end Go.AM
namespace Go.AM
structure St where
 o:List Orc
 p:List Prop
 h:allP p
def orcs:List St→List Orc
 | []=>[]
 | s::r=>s.o++orcs r
def za9:List St→List Prop
 | []=>[]
 | s::r=>s.p++za9 r
theorem znt:∀ {a b:List Prop},allP a→allP b→allP (a++b)
 | [],_,_,hb=>hb
 | [_],[],ha,_=>ha
 | [_],_::_,ha,hb=>⟨ha,hb⟩
 | _::q::r,_,ha,hb=>⟨ha.1,znt (a:=q::r) ha.2 hb⟩
theorem zaR:∀ l:List St,allP (za9 l)
 | []=>trivial
 | s::r=>znt s.h (zaR r)
def sb {c b:Bool} (h:c=b):St:=⟨[.b b],[c=b],h⟩
def si {e n:Int} (h:e=n):St:=⟨[.i n],[e=n],h⟩
def se {xs:List (List AV)} {i:Int} {c:List AV} {n:Nat} (h:ElAt xs i c n):St:=⟨[.el c],[ElAt xs i c n],h⟩
def sa {cs:List AV} {i:Int} {n:Nat} {c:List AV} {k:Nat} (h:ArrAt cs i n c k):St:=⟨[.el c],[ArrAt cs i n c k],h⟩
def sy {s:ByteArray} {i n:Int} (h:ByteAt s i n):St:=⟨[.i n],[ByteAt s i n],h⟩
def sc {E:Env0} {f:FuncId} {args:List AV} {r:AV} {h':Heap} (h:zaa E f args [] r h'):St:=⟨[.call [] r h'],[zaa E f args [] r h'],h⟩
def sl {E:Env0} {f:FuncId} {args:List AV} {hl:Heap} {r:AV} {h':Heap} (lend:List Nat) (h:zaa E f args hl r h'):St:=⟨[.call lend r h'],[zaa E f args hl r h'],h⟩
def sln {E:Env0} {f:FuncId} {args:List AV} {hl:Heap} {r:AV} {h':Heap} (lend:List Nat) (h:zaa E f args hl r h'):St:=⟨[.calln lend r h'],[zaa E f args hl r h'],h⟩
def sk {E:Env0} {f:FuncId} {args:List AV} {hl:Heap} {r:AV} {h':Heap} {p:Prop} (hp:p) (lend:List Nat) (h:zaa E f args hl r h'):St:=⟨[.call lend r h'],[p∧zaa E f args hl r h'],⟨hp,h⟩⟩
theorem conv {E:Env0} {f:FuncId} {args args':List AV} {hl hl':Heap} {r:AV} {h':Heap} (h:zaa E f args' hl' r h') (e1:args=args') (e2:hl=hl'):zaa E f args hl r h':=by
 subst e1;subst e2;exact h
def sq {p:Prop} (h:p):St:=⟨[],[p],h⟩
def sx (o:Orc) {p:Prop} (h:p):St:=⟨[o],[p],h⟩
def sg {c b:Bool} (h:c=b):St:=⟨[.b b],[c=b∧True],⟨h,trivial⟩⟩
def so {c b:Bool} (h:c=b) (s:St):St:=⟨.b b::s.o,[c=b∧allP s.p],⟨h,s.h⟩⟩
def zmF:List (Nat × List St)→List (Nat × List Orc)
 | []=>[]
 | (i,l)::r=>(i,orcs l)::zmF r
def zkF:List (Nat × List St)→List St
 | []=>[]
 | (_,l)::r=>l++zkF r
def sd (l:List (Nat × List St)):St:=⟨[.draw (zmF l)],[allP (za9 (zkF l))],zaR _⟩
def zpS (p:Prop) (ts:TS) (h:Heap):Nat→Prop
 | 0=>True
 | n+1=>(p∧ts=ts∧h=h)∧zpS p ts h n
theorem zng {p:Prop} (hp:p) (ts:TS) (h:Heap):∀ n,zpS p ts h n
 | 0=>trivial
 | n+1=>⟨⟨hp,rfl,rfl⟩,zng hp ts h n⟩
def sdm (l:List (Nat × List St)) (n:Nat) (ts:TS) (h:Heap):St:=⟨[.draw (zmF l)],[allP (za9 (zkF l))∧zpS (allP (za9 (zkF l))) ts h (n+1)],⟨zaR _,zng (zaR _) ts h _⟩⟩
theorem walk {E : Env0} (ht : zax E) (hmix : E.P.follows .mixedOrders = true) {f : FuncId} {fn : Func} {c : Code} {args : List AV} {r y : AV} (hf : E.P.funcs[f]? = some fn) (hb : fn.body = some c) (hname : (fn.name == "runtime.NumGoroutine") = false)
  (hn:Nat.ble args.length fn.ntmps=true) (n:Nat) (l:List St) (hfin:fin (mk E) fn 0 n ⟨fn.ntmps,[.code c],zbL 0 args,[]⟩ (orcs l)=some (za9 l,y,[])) (hr:y=r):zaa E f args [] r [] :=
 zfy ht hmix hf hb hname hn n (orcs l) hfin (zaR l) ⟨hr,rfl⟩
theorem walkH {E : Env0} (ht : zax E) (hmix : E.P.follows .mixedOrders = true) {f : FuncId} {fn : Func} {c : Code} {args : List AV} {h : Heap} {r y : AV} {H H' : Heap} (hf : E.P.funcs[f]? = some fn) (hb : fn.body = some c) (hname : (fn.name == "runtime.NumGoroutine") = false)
  (hn:Nat.ble args.length fn.ntmps=true) (n:Nat) (l:List St) (hfin:fin (mk E) fn h.length n ⟨fn.ntmps,[.code c],zbL 0 args,h⟩ (orcs l)=some (za9 l,y,H)) (hr:y=r∧H=H'):zaa E f args h r H' :=
 zfy ht hmix hf hb hname hn n (orcs l) hfin (zaR l) hr
def upto (E:Env) (live:List Nat) (m n:Nat) (c:Cfg) (os:List Orc):List Prop × Cfg:=match run E n c os with
 | (q,c',_)=>(q,cut live m c')
theorem zcm {E:Env0} (ht:zax E) (hmix:E.P.follows .mixedOrders=true) {fn:Func} {R:AV→Heap→Prop} {h0:Heap} {c c':Cfg} (n:Nat) (l:List St) (live:List Nat) (m:Nat) (hm:Nat.ble h0.length m=true)
  (hu:upto (mk E) live m n c (orcs l)=(za9 l,c')) (hg:Good E fn h0 c' R):Good E fn h0 c R:=by
 unfold upto at hu
 have h1:(run (mk E) n c (orcs l)).1=za9 l:=by
  have:=congrArg Prod.fst hu
  exact this
 have h2:cut live m (run (mk E) n c (orcs l)).2.1=c':=congrArg Prod.snd hu
 exact zjB ht hmix n (orcs l) live m hm h1 h2 (zaR l) hg
theorem zeR {E:Env0} (ht:zax E) (hmix:E.P.follows .mixedOrders=true) {fn:Func} {R:AV→Heap→Prop} {h0:Heap} {c:Cfg} {y:AV} {H:Heap} {m:Nat} (n:Nat) (l:List St)
  (hfin:fin (mk E) fn m n c (orcs l)=some (za9 l,y,H)) (hR:R y H):Good E fn h0 c (Shut m R) :=
 zh4 ht hmix n (orcs l) hfin (zaR l) hR
theorem zb9 {E:Env0} (ht:zax E) (hmix:E.P.follows .mixedOrders=true) {fn:Func} {R:AV→Heap→Prop} {h0:Heap} {c:Cfg} {y:AV} {H:Heap} (n:Nat) (l:List St)
  (hfin:finK (mk E) fn n c (orcs l)=some (za9 l,y,H)) (hR:R y H):Good E fn h0 c R :=
 zmd ht hmix n (orcs l) hfin (zaR l) hR
theorem zrK {E:Env0} (ht:zax E) (hmix:E.P.follows .mixedOrders=true) {f:FuncId} {fn:Func} {c:Code} {args:List AV} {h:Heap} {R:AV→Heap→Prop} (hf:E.P.funcs[f]?=some fn) (hb:fn.body=some c)
  (hname : (fn.name == "runtime.NumGoroutine") = false) (hn : Nat.ble args.length fn.ntmps = true) (n : Nat) (l : List St) (live : List Nat) (m : Nat) {c' : Cfg} (hm : Nat.ble h.length m = true)
  (hu:upto (mk E) live m n ⟨fn.ntmps,[.code c],zbL 0 args,h⟩ (orcs l)=(za9 l,c')) (hg:Good E fn h c' R):zbw E f args h R :=
 zaM hf hb hname (Nat.le_of_ble_eq_true hn) (zcm ht hmix n l live m hm hu hg)
theorem zf7 {E:Env0} (ht:zax E) (hmix:E.P.follows .mixedOrders=true) {f:FuncId} {fn:Func} {c:Code} {args:List AV} {h:Heap} {R:AV→Heap→Prop} (hf:E.P.funcs[f]?=some fn) (hb:fn.body=some c)
  (hname : (fn.name == "runtime.NumGoroutine") = false) (hn : Nat.ble args.length fn.ntmps = true) (n : Nat) (l : List St) (live : List Nat) (m : Nat) {c' : Cfg} (hm : Nat.ble h.length m = true)
  (hu:upto (mk E) live m n ⟨fn.ntmps,[.code c],zbL 0 args,h⟩ (orcs l)=(za9 l,c')) (hg:Good E fn h c' (Shut h.length R)):zbw E f args h R :=
 zdw (zaM hf hb hname (Nat.le_of_ble_eq_true hn) (zcm ht hmix n l live m hm hu hg))
end Go.AM
namespace Go.AM
open Go.RowKit
theorem zpt {x:Value} {k:IntKind} (h:shp x=.int k):∃ a,x=.int k a:=by
 cases x <;> simp [shp] at h
 rename_i k' n;subst h;exact ⟨n,rfl⟩
def zjC (t:TI):Shp→Bool
 | .int _=>match t.kind with|.int _=>Nat.beq t.size 1&&!t.isAgg|_=>false
 | .str=>match t.kind with|.str=>Nat.beq t.size 1&&!t.isAgg|_=>false
 | .bool=>match t.kind with|.bool=>Nat.beq t.size 1&&!t.isAgg|_=>false
 | .other=>false
def flat (T:TypeId→TI):Nat→List Field→List Shp→Bool
 | _,[],[]=>true
 | i, f :: fs, s :: ss => (f.name != "_") && Nat.beq f.offset i && zjC (T f.type) s && flat T (i + 1) fs ss
 | _,_,_=>false
theorem eqCell {E:Env0} (ht:zax E) {t:TypeId} {x y:Value} {r:Bool} (d:Nat) (hs:zjC (E.T t) (shp x)=true) (he:zcY x y=some r) (w:World):(Op.equalIn (d+1) t x y).run E.P w=.ok r w:=by
 cases x <;> simp [shp,zjC] at hs
 case bool a =>
  split at hs
  ·rename_i hk
   obtain ⟨i,dd,z,tok⟩:=ht.at_ (t:=t) (by intro h;rw [h] at hk;cases hk)
   cases y <;> simp [zcY] at he
   subst he
   have:=tok.bool_ hk
   subst this
   exact run_equalIn_bool' w d t _ _ tok.und
  ·cases hs
 case int k a =>
  split at hs
  ·rename_i k' hk
   obtain ⟨i,dd,z,tok⟩:=ht.at_ (t:=t) (by intro h;rw [h] at hk;cases hk)
   cases y <;> simp [zcY] at he
   obtain ⟨rfl,rfl⟩:=he
   have:=tok.int_ hk
   subst this
   exact run_equalIn_int w d t _ _ _ _ tok.und
  ·cases hs
 case string a =>
  split at hs
  ·rename_i hk
   obtain ⟨i,dd,z,tok⟩:=ht.at_ (t:=t) (by intro h;rw [h] at hk;cases hk)
   cases y <;> simp [zcY] at he
   subst he
   have:=tok.str_ hk
   subst this
   rw [run_equalIn_string w d t _ _ tok.und,beq_toListBytes]
  ·cases hs
theorem zkE {t:TI} {s:Shp} (h:zjC t s=true):t.size=1∧t.isAgg=false∧t≠⟨.scalar,0,0,[]⟩:=by
 unfold zjC at h
 split at h <;> try cases h
 all_goals
  split at h
  ·rename_i hk
   simp only [Bool.and_eq_true,Bool.not_eq_true'] at h
   exact ⟨Nat.eq_of_beq_eq_true h.1,h.2,by intro h';rw [h'] at hk;cases hk⟩
  ·cases h
theorem zj4 {E:Env0} (ht:zax E) (d:Nat) (w:World):∀ (fs:List Field) (px py xs ys:List Value) (r:Bool),px.length=py.length→flat E.T px.length fs (xs.map shp)=true→za1 xs ys=some r →
  (Op.eqFields (d+1) (px++xs).toArray (py++ys).toArray fs).run E.P w=.ok r w
 | [],px,py,xs,ys,r,hp,hf,he=>by
  cases xs with
  | cons x xs=>simp [flat] at hf
  | nil =>
   cases ys <;> simp [za1] at he
   subst he
   rfl
 | f::fs,px,py,[],ys,r,hp,hf,he=>by simp [flat] at hf
 | f::fs,px,py,x::xs,[],r,hp,hf,he=>by simp [za1] at he
 | f::fs,px,py,x::xs,y::ys,r,hp,hf,he=>by
  simp only [List.map_cons,flat,Bool.and_eq_true,bne_iff_ne] at hf
  obtain ⟨⟨⟨hn,ho⟩,hs⟩,hrest⟩:=hf
  have ho:=Nat.eq_of_beq_eq_true ho
  simp only [za1] at he
  split at he
  ·rename_i a b h1 h2
   simp only [Option.some.injEq] at he
   subst he
   obtain ⟨hsz,hagg,hne⟩:=zkE hs
   obtain ⟨i,dd,z,tok⟩:=ht.at_ hne
   have p1:=zga tok w (px++x::xs) f.offset (by rw [hsz,ho];simp)
   have p2:=zga tok w (py++y::ys) f.offset (by rw [hsz,ho,hp];simp)
   rw [hsz,ho] at p1
   rw [hsz,ho,hp] at p2
   simp only [List.drop_left,List.take_succ_cons,List.take_zero,zel,hagg] at p1 p2
   have p3:=eqCell ht d hs h1 w
   have ih:=zj4 ht d w fs (px++[x]) (py++[y]) xs ys b (by simp [hp]) (by simpa using hrest) h2
   simp only [List.append_assoc,List.singleton_append] at ih
   simp only [Op.eqFields,ne_eq,hn,not_false_eq_true,if_true,Sem.run_bind,ho]
   rw [p1,Result.andThen_ok,hp,p2,Result.andThen_ok]
   simp only [List.headD_cons]
   rw [p3,Result.andThen_ok]
   cases a
   ·rfl
   ·simpa using ih
  ·cases he
theorem zq5 {E:Env0} (ht:zax E) {t:TypeId} {fs:Array Field} {ss:List Shp} (hu:E.P.underlying t=some (.struct fs)) (hp:E.P.stoodInHeld t=false) (hg:E.P.eqGuardType E.P.depth t=false) (hf:flat E.T 0 fs.toList ss=true) :
  StructEq E.P t ss:=by
 refine ⟨hg,fun w xs ys r hs he=>?_⟩
 have hfo:E.P.fieldsOf t=fs:=by simp [Program.fieldsOf,hu]
 have h1:=run_equalIn_struct (P:=E.P) w 9999 t xs.toArray ys.toArray (by rw [hfo];exact hu) hp
 rw [hfo] at h1
 have h2:=zj4 ht 9998 w fs.toList [] [] xs ys r rfl (by rw [hs];exact hf) he
 simp only [List.nil_append] at h2
 unfold Op.equal Op.maxDepth
 rw [h1]
 exact h2
end Go.AM
namespace Go.AM
abbrev Str:=ByteArray
def zd5 (l:List UInt8):Str:=⟨l.toArray⟩
abbrev iv (n:Int):AV:=.v (.int .i64 n)
abbrev bv (b:Bool):AV:=.v (.bool b)
abbrev sv (s:Str):AV:=.v (.string s)
def zdx:List Str:=[zd5 [],zd5 [97],zd5 [98],zd5 [105,116,39,115],zd5 [90,32,122],zd5 [126]]
def globs (g:Nat):Option (List AV) :=
 match Nat.beq g S.g_world_words with
 | true=>some (zdx.map sv)
 | false=>none
noncomputable def E0:Env0:=⟨Proofs.Tryz.prog,zh6 tabA,globs⟩
theorem E0ok:zax E0:=zr4 ztj
theorem mix0:E0.P.follows .mixedOrders=true:=mix_ok
structure V where
 kind:Int
 int:Int
 text:Str
def V.cells (v:V):List AV:=[iv v.kind,iv v.int,sv v.text]
abbrev V.av (v:V):AV:=.agg v.cells
def V.null:V:=⟨0,0,⟨#[]⟩⟩
mutual
inductive X where
 | mk (kind op:Int) (not:Bool) (val:V) (table name:Str) (args:List X) (sub:List Qy)
inductive Qy where
 | mk (star:Bool) (items:List X) (frm:Str) (wh:List X)
end
def X.kind:X→Int|.mk k _ _ _ _ _ _ _=>k
def X.op:X→Int|.mk _ o _ _ _ _ _ _=>o
def X.not:X→Bool|.mk _ _ n _ _ _ _ _=>n
def X.val:X→V|.mk _ _ _ v _ _ _ _=>v
def X.table:X→Str|.mk _ _ _ _ t _ _ _=>t
def X.name:X→Str|.mk _ _ _ _ _ m _ _=>m
def X.args:X→List X|.mk _ _ _ _ _ _ xs _=>xs
def X.sub:X→List Qy|.mk _ _ _ _ _ _ _ qs=>qs
def Qy.star:Qy→Bool|.mk s _ _ _=>s
def Qy.items:Qy→List X|.mk _ i _ _=>i
def Qy.frm:Qy→Str|.mk _ _ f _=>f
def Qy.wh:Qy→List X|.mk _ _ _ w=>w
@[simp] theorem X.kind_mk (k o:Int) (n:Bool) (v:V) (t m:Str) (xs:List X) (qs:List Qy):(X.mk k o n v t m xs qs).kind=k:=rfl
@[simp] theorem X.op_mk (k o:Int) (n:Bool) (v:V) (t m:Str) (xs:List X) (qs:List Qy):(X.mk k o n v t m xs qs).op=o:=rfl
@[simp] theorem X.not_mk (k o:Int) (n:Bool) (v:V) (t m:Str) (xs:List X) (qs:List Qy):(X.mk k o n v t m xs qs).not=n:=rfl
@[simp] theorem X.val_mk (k o:Int) (n:Bool) (v:V) (t m:Str) (xs:List X) (qs:List Qy):(X.mk k o n v t m xs qs).val=v:=rfl
@[simp] theorem X.table_mk (k o:Int) (n:Bool) (v:V) (t m:Str) (xs:List X) (qs:List Qy):(X.mk k o n v t m xs qs).table=t:=rfl
@[simp] theorem X.name_mk (k o:Int) (n:Bool) (v:V) (t m:Str) (xs:List X) (qs:List Qy):(X.mk k o n v t m xs qs).name=m:=rfl
@[simp] theorem X.args_mk (k o:Int) (n:Bool) (v:V) (t m:Str) (xs:List X) (qs:List Qy):(X.mk k o n v t m xs qs).args=xs:=rfl
@[simp] theorem X.sub_mk (k o:Int) (n:Bool) (v:V) (t m:Str) (xs:List X) (qs:List Qy):(X.mk k o n v t m xs qs).sub=qs:=rfl
@[simp] theorem Qy.star_mk (s:Bool) (i:List X) (f:Str) (w:List X):(Qy.mk s i f w).star=s:=rfl
@[simp] theorem Qy.items_mk (s:Bool) (i:List X) (f:Str) (w:List X):(Qy.mk s i f w).items=i:=rfl
@[simp] theorem Qy.frm_mk (s:Bool) (i:List X) (f:Str) (w:List X):(Qy.mk s i f w).frm=f:=rfl
@[simp] theorem Qy.wh_mk (s:Bool) (i:List X) (f:Str) (w:List X):(Qy.mk s i f w).wh=w:=rfl
mutual
def X.raw:X→List AV
 | .mk k o n v t m xs qs=>[iv k,iv o,bv n,iv v.kind,iv v.int,sv v.text,sv t,sv m,.sl (zac xs),.sl (zaf qs)]
def Qy.raw:Qy→List AV
 | .mk s is f w=>[bv s,.sl (zac is),sv f,.sl (zac w)]
def zac:List X→List (List AV)
 | []=>[]
 | x::r=>X.raw x::zac r
def zaf:List Qy→List (List AV)
 | []=>[]
 | x::r=>Qy.raw x::zaf r
end
def X.cells (x:X):List AV:=[iv x.kind,iv x.op,bv x.not,iv x.val.kind,iv x.val.int,sv x.val.text,sv x.table,sv x.name,.sl (zac x.args),.sl (zaf x.sub)]
def Qy.cells (x:Qy):List AV:=[bv x.star,.sl (zac x.items),sv x.frm,.sl (zac x.wh)]
theorem X.raw_eq (x:X):x.raw=x.cells:=by cases x;simp [X.raw,X.cells,X.kind,X.op,X.not,X.val,X.table,X.name,X.args,X.sub]
theorem Qy.raw_eq (x:Qy):x.raw=x.cells:=by cases x;simp [Qy.raw,Qy.cells,Qy.star,Qy.items,Qy.frm,Qy.wh]
theorem zdi:∀ l:List X,zac l=l.map X.cells
 | []=>by simp [zac]
 | x::r=>by simp [zac,zdi r,X.raw_eq]
theorem zdp:∀ l:List Qy,zaf l=l.map Qy.cells
 | []=>by simp [zaf]
 | x::r=>by simp [zaf,zdp r,Qy.raw_eq]
@[simp] theorem zbR:zac []=[]:=zdi []
@[simp] theorem zbz (x:X) (r:List X):zac (x::r)=x.cells::zac r:=by simp [zdi]
@[simp] theorem zbN (a b:List X):zac (a++b)=zac a++zac b:=by simp [zdi]
@[simp] theorem zic (a:List X):(zac a).length=a.length:=by simp [zdi]
@[simp] theorem zbQ:zaf []=[]:=zdp []
@[simp] theorem zbA (x:Qy) (r:List Qy):zaf (x::r)=x.cells::zaf r:=by simp [zdp]
@[simp] theorem zdD (a:List Qy):(zaf a).length=a.length:=by simp [zdp]
@[simp] theorem X.cells_length (x:X):x.cells.length=10:=rfl
@[simp] theorem Qy.cells_length (x:Qy):x.cells.length=4:=rfl
abbrev X.av (x:X):AV:=.agg x.cells
abbrev Qy.av (x:Qy):AV:=.agg x.cells
structure Col where
 name:Str
 type:Int
 notNull:Bool
 key:Bool
def Col.cells (c:Col):List AV:=[sv c.name,iv c.type,bv c.notNull,bv c.key]
structure Sch where
 name:Str
 cols:List Col
def Sch.cells (s:Sch):List AV:=[sv s.name,.sl (s.cols.map Col.cells)]
abbrev Sch.av (s:Sch):AV:=.agg s.cells
structure Rw where
 id:Int
 vals:List V
def Rw.cells (r:Rw):List AV:=[iv r.id,.sl (r.vals.map V.cells)]
structure Tb where
 sch:Sch
 next:Int
 rows:List Rw
def Tb.cells (t:Tb):List AV:=[sv t.sch.name,.sl (t.sch.cols.map Col.cells),iv t.next,.sl (t.rows.map Rw.cells)]
abbrev Tb.av (t:Tb):AV:=.agg t.cells
structure Fr where
 name:Str
 strict:Bool
 cols:List Col
 vals:List V
def Fr.cells (f:Fr):List AV:=[sv f.name,bv f.strict,.sl (f.cols.map Col.cells),.sl (f.vals.map V.cells)]
abbrev vsl (l:List V):AV:=.sl (l.map V.cells)
abbrev fsl (l:List Fr):AV:=.sl (l.map Fr.cells)
abbrev tsl (l:List Tb):AV:=.sl (l.map Tb.cells)
abbrev xsl (l:List X):AV:=.sl (zac l)
abbrev Pure (f:FuncId) (args:List AV) (r:AV):Prop:=zaa E0 f args [] r []
theorem zbV {f : FuncId} {fn : Func} {c : Code} {args : List AV} {r : AV} (hf : E0.P.funcs[f]? = some fn) (hb : fn.body = some c) (hname : (fn.name == "runtime.NumGoroutine") = false) (hn : Nat.ble args.length fn.ntmps = true)
  (n:Nat) (os:List Orc) {q:List Prop} (hfin:fin (mk E0) fn 0 n ⟨fn.ntmps,[.code c],zbL 0 args,[]⟩ os=some (q,r,[])) (hq:allP q):Pure f args r :=
 zfy E0ok mix0 hf hb hname hn n os hfin hq ⟨rfl,rfl⟩
@[simp] theorem V.cells_length (x:V):x.cells.length=3:=rfl
@[simp] theorem Col.cells_length (x:Col):x.cells.length=4:=rfl
@[simp] theorem Sch.cells_length (x:Sch):x.cells.length=2:=rfl
@[simp] theorem Rw.cells_length (x:Rw):x.cells.length=2:=rfl
@[simp] theorem Tb.cells_length (x:Tb):x.cells.length=4:=rfl
@[simp] theorem Fr.cells_length (x:Fr):x.cells.length=4:=rfl
theorem zcj {l:List X} {i:Nat} {x:X} (h:l[i]?=some x):ElAt (zac l) (i:Int) x.cells 10 :=
 ⟨by omega,by simp [zdi,h],rfl⟩
theorem zaO {l:List Qy} {i:Nat} {x:Qy} (h:l[i]?=some x):ElAt (zaf l) (i:Int) x.cells 4 :=
 ⟨by omega,by simp [zdp,h],rfl⟩
theorem zah {α:Type} (f:α→List AV) {l:List α} {i:Nat} {x:α} (h:l[i]?=some x) {n:Nat} (hn:(f x).length=n):ElAt (l.map f) (i:Int) (f x) n :=
 ⟨by omega,by simp [h],hn⟩
theorem zje {α:Type} (f:α→List AV) {l:List α} {n i:Nat} {x:α} (hn:n=l.length) (h:l[i]?=some x):OwnEl (l.map f) n i (f x) :=
 ⟨by simp [hn],by simp [h]⟩
theorem zak (i:Nat) (h:i < 9223372036854775807):IntKind.i64.wrap ((i:Int)+1)=((i+1:Nat):Int):=by
 rw [IntKind.wrap_i64];omega
theorem zeS {t:Int} {n:Nat} (h1:t=(n:Int)) (h2:n≤9223372036854775807):IntKind.i64.wrap t=(n:Int):=by
 rw [h1,IntKind.wrap_i64];omega
def pm1:Nat→Int
 | 0=>-1
 | k+1=>(k:Int)
theorem pm1_eq (k:Nat):pm1 k=(k:Int) - 1:=by cases k <;> simp [pm1]
theorem znq (k:Nat) (h:k < 9223372036854775806):IntKind.i64.wrap ((k:Int) - 1)=pm1 k:=by
 rw [pm1_eq,IntKind.wrap_i64];omega
theorem za8 {α:Type} {l:List α} {i:Nat} {x:α} (h:l[i]?=some x):l.drop i=x::l.drop (i+1):=by
 obtain ⟨h1,h2⟩:=List.getElem?_eq_some_iff.mp h
 rw [List.drop_eq_getElem_cons h1,h2]
theorem zd6 {α:Type} {l:List α} {i:Nat} {x:α} (h:l[i]?=some x):i < l.length:=(List.getElem?_eq_some_iff.mp h).1
theorem zaz {α:Type} {l:List α} {i:Nat} (h:i < l.length):∃ x,l[i]?=some x:=⟨l[i],by simp [h]⟩
structure Tp where
 l:List Int
 pos:Nat
 ok:l.length≤500
def Tp.cells (t:Tp):List AV:=[.sl (t.l.map fun n=>[iv n]),iv t.pos]
structure Pl where
 frs:List Fr
 tbs:List Sch
def Pl.cells (p:Pl):List AV:=[.sl (p.frs.map Fr.cells),.sl (p.tbs.map Sch.cells)]
abbrev Pl.av (p:Pl):AV:=.agg p.cells
abbrev ssl (l:List Str):AV:=.sl (l.map fun s=>[sv s])
structure Se where
 col:Str
 ex:X
def Se.cells (s:Se):List AV:=sv s.col::s.ex.cells
structure Ac where
 kind:Int
 table:Str
 rows:List (List X)
 query:List Qy
 sets:List Se
 wh:List X
 text:Str
def Ac.cells (a:Ac):List AV:=[iv a.kind,sv a.table,.sl (a.rows.map fun r=>[.sl (zac r)]),.sl (zaf a.query),.sl (a.sets.map Se.cells),.sl (zac a.wh),sv a.text]
abbrev Ac.av (a:Ac):AV:=.agg a.cells
structure Rk where
 table:Str
 col:Str
 low:Int
 high:Int
def Rk.cells (r:Rk):List AV:=[sv r.table,sv r.col,iv r.low,iv r.high]
structure Tg where
 name:Str
 table:Str
 before:Bool
 event:Int
 of:List Str
 each:Bool
 prec:List Str
 foll:List Str
 rank:List Rk
 when_:List X
 acts:List Ac
def Tg.cells (t:Tg):List AV:=[sv t.name,sv t.table,bv t.before,iv t.event,ssl t.of,bv t.each,ssl t.prec,ssl t.foll,.sl (t.rank.map Rk.cells),.sl (zac t.when_),.sl (t.acts.map Ac.cells)]
abbrev Tg.av (t:Tg):AV:=.agg t.cells
@[simp] theorem Se.cells_length (x:Se):x.cells.length=11:=rfl
@[simp] theorem Ac.cells_length (x:Ac):x.cells.length=7:=rfl
@[simp] theorem Rk.cells_length (x:Rk):x.cells.length=4:=rfl
@[simp] theorem Tg.cells_length (x:Tg):x.cells.length=11:=rfl
theorem zbh:StructEq E0.P Ty.Value [.int .i64,.int .i64,.str] :=
 zq5 E0ok (fs:=E0.P.fieldsOf Ty.Value) kr kr kr kr
end Go.AM
namespace Go.AM
noncomputable def runF (fn:Func) (args:List AV) (h:Heap) (os:List Orc):Option (List Prop × AV × Heap) :=
 match fn.body, (fn.name == "runtime.NumGoroutine"), Nat.ble args.length fn.ntmps with
 | some c,false,true=>fin (mk E0) fn h.length 3000 ⟨fn.ntmps,[.code c],zbL 0 args,h⟩ os
 | _,_,_=>none
noncomputable def zhW (fn:Func) (args:List AV) (h:Heap) (live:List Nat) (m:Nat) (os:List Orc):Option (List Prop × Cfg) :=
 match fn.body, (fn.name == "runtime.NumGoroutine"), Nat.ble args.length fn.ntmps, Nat.ble h.length m with
 | some c,false,true,true=>some (upto (mk E0) live m 3000 ⟨fn.ntmps,[.code c],zbL 0 args,h⟩ os)
 | _,_,_,_=>none
noncomputable def zhP (h0:Heap) (live:List Nat) (m:Nat) (c:Cfg) (os:List Orc):Option (List Prop × Cfg) :=
 match Nat.ble h0.length m with
 | true=>some (upto (mk E0) live m 3000 c os)
 | false=>none
theorem wk {f:FuncId} {fn:Func} {args:List AV} {h H:Heap} {r:AV} (hf:E0.P.funcs[f]?=some fn) (l:List St) (hfin:runF fn args h (orcs l)=some (za9 l,r,H)):zaa E0 f args h r H:=by
 unfold runF at hfin
 split at hfin
 ·rename_i c hb hn ha
  exact zfy E0ok mix0 hf hb hn ha 3000 (orcs l) hfin (zaR l) ⟨rfl,rfl⟩
 ·cases hfin
theorem wkc {f:FuncId} {fn:Func} {args:List AV} {h:Heap} {R:AV→Heap→Prop} {c':Cfg} (hf:E0.P.funcs[f]?=some fn) (l:List St) (live:List Nat) (m:Nat) (hu:zhW fn args h live m (orcs l)=some (za9 l,c'))
  (hg:Good E0 fn h c' (Shut h.length R)):zbw E0 f args h R:=by
 unfold zhW at hu
 split at hu
 ·rename_i c hb hn ha hm
  exact zf7 E0ok mix0 hf hb hn ha 3000 l live m hm (Option.some.inj hu) hg
 ·cases hu
theorem wkl {fn:Func} {R:AV→Heap→Prop} {h0:Heap} {c c':Cfg} (l:List St) (live:List Nat) (m:Nat) (hu:zhP h0 live m c (orcs l)=some (za9 l,c')) (hg:Good E0 fn h0 c' R):Good E0 fn h0 c R:=by
 unfold zhP at hu
 split at hu
 ·rename_i hm
  exact zcm E0ok mix0 3000 l live m hm (Option.some.inj hu) hg
 ·cases hu
theorem wkr {fn:Func} {h0:Heap} {c:Cfg} {r:AV} {H:Heap} {m:Nat} (l:List St) (hfin:fin (mk E0) fn m 3000 c (orcs l)=some (za9 l,r,H)):Good E0 fn h0 c (Shut m fun y h=>y=r∧h=H) :=
 zeR E0ok mix0 3000 l hfin ⟨rfl,rfl⟩
noncomputable def runFK (fn:Func) (args:List AV) (h:Heap) (os:List Orc):Option (List Prop × AV × Heap) :=
 match fn.body, (fn.name == "runtime.NumGoroutine"), Nat.ble args.length fn.ntmps with
 | some c,false,true=>finK (mk E0) fn 3000 ⟨fn.ntmps,[.code c],zbL 0 args,h⟩ os
 | _,_,_=>none
theorem wkK {f:FuncId} {fn:Func} {args:List AV} {h H:Heap} {r:AV} (hf:E0.P.funcs[f]?=some fn) (l:List St) (hfin:runFK fn args h (orcs l)=some (za9 l,r,H)):zaa E0 f args h r H:=by
 unfold runFK at hfin
 split at hfin
 ·rename_i c hb hn ha
  exact zoU E0ok mix0 hf hb hn ha 3000 (orcs l) hfin (zaR l) ⟨rfl,rfl⟩
 ·cases hfin
def pickS (l:List (Nat × List St)) (i:Nat):List St:=match l with
 | []=>[]
 | (j,s)::r=>match Nat.beq j i with
  | true=>s
  | false=>pickS r i
def pickL (l:List (Nat × List St)):List Nat→List St
 | []=>[]
 | i::r=>pickS l i++pickL l r
def zqf (l:List (Nat × List St)) (ts:TS) (h:Heap):List (List Nat)→Prop
 | []=>True
 | o::r=>(allP (za9 (pickL l o))∧ts=ts∧h=h)∧zqf l ts h r
theorem znz (l:List (Nat × List St)) (ts:TS) (h:Heap):∀ o,zqf l ts h o
 | []=>trivial
 | _::r=>⟨⟨zaR _,rfl,rfl⟩,znz l ts h r⟩
def sdp (l:List (Nat × List St)) (os:List (List Nat)) (ts:TS) (h:Heap):St:=⟨[.draw (zmF l)],[allP (za9 (zkF l))∧zqf l ts h os],⟨zaR _,znz l ts h os⟩⟩
theorem wkS {f:FuncId} {fn:Func} {args:List AV} {h H H':Heap} {r y:AV} (hf:E0.P.funcs[f]?=some fn) (l:List St) (hfin:runF fn args h (orcs l)=some (za9 l,y,H)) (e:y=r∧H=H'):zaa E0 f args h r H':=by
 obtain ⟨rfl,rfl⟩:=e
 exact wk hf l hfin
theorem owed {p:Prop} (h:p:=by first|assumption|(simp;done)|(simp;omega)|omega|rfl|(refine ⟨⟨?_⟩,?_⟩ <;> first|(simp;done)|(simp;omega)|omega)|(refine ⟨⟨?_⟩,?_,?_⟩ <;> first|(simp;done)|(simp;omega)|omega)|(refine ⟨?_,?_,?_⟩ <;> first|(simp;done)|(simp;omega)|omega)|(refine ⟨?_,⟨?_⟩,?_,?_⟩ <;> first|(simp;done)|(simp;omega)|omega)|(constructor <;> first|(simp;done)|(simp;omega)|omega|(simp at *;omega))):p:=h
def sqx (p:Prop) (h:p:=by first|assumption|(simp;done)|(simp;omega)|omega|rfl|(refine ⟨⟨?_⟩,?_⟩ <;> first|(simp;done)|(simp;omega)|omega)|(refine ⟨⟨?_⟩,?_,?_⟩ <;> first|(simp;done)|(simp;omega)|omega)|(refine ⟨?_,?_,?_⟩ <;> first|(simp;done)|(simp;omega)|omega)|(refine ⟨?_,⟨?_⟩,?_,?_⟩ <;> first|(simp;done)|(simp;omega)|omega)|(constructor <;> first|(simp;done)|(simp;omega)|omega|(simp at *;omega))):St:=sq h
def skx (p:Prop) {E:Env0} {f:FuncId} {args:List AV} {hl:Heap} {r:AV} {h':Heap} (lend:List Nat) (h:zaa E f args hl r h') (hp:p:=by first|assumption|(simp;done)|(simp;omega)|omega|rfl|(refine ⟨⟨?_⟩,?_⟩ <;> first|(simp;done)|(simp;omega)|omega)|(refine ⟨⟨?_⟩,?_,?_⟩ <;> first|(simp;done)|(simp;omega)|omega)|(refine ⟨?_,?_,?_⟩ <;> first|(simp;done)|(simp;omega)|omega)|(refine ⟨?_,⟨?_⟩,?_,?_⟩ <;> first|(simp;done)|(simp;omega)|omega)|(constructor <;> first|(simp;done)|(simp;omega)|omega|(simp at *;omega))):St:=sk hp lend h
end Go.AM
namespace Go.AM
set_option maxRecDepth 100000
def cmpI (a b:Int):Int:=if a < b then -1 else if b < a then 1 else 0
def ltS (a b:Str):Bool:=Op.bytesLess a.toList b.toList
def eqS (a b:Str):Bool:=a.toList==b.toList
def cmpS (a b:Str):Int:=if ltS a b then -1 else if !(ltS a b || eqS a b) then 1 else 0
theorem zca (n:Int):Pure S.cmp_isNaN_int [iv n] (bv (n != n)) :=
 zbV At.cmp_isNaN_int rfl kr kr 100 [] (q:=[]) kr trivial
theorem zbT (n:Int):Pure S.cmp_isNaN_int64 [iv n] (bv (n != n)) :=
 zbV At.cmp_isNaN_int64 rfl kr kr 100 [] (q:=[]) kr trivial
theorem zbG (n:Str):Pure S.cmp_isNaN_string [sv n] (bv (!(n.toList==n.toList))) :=
 zbV At.cmp_isNaN_string rfl kr kr 100 [] (q:=[]) kr trivial
theorem zjU (a b:Int):Pure S.cmp_Compare_int [iv a,iv b] (iv (cmpI a b)):=by
 unfold cmpI
 by_cases h1:a < b
 ·rw [if_pos h1]
  exact zbV At.cmp_Compare_int rfl kr kr 200 [.call [] (bv (a != a)) [],.call [] (bv (b != b)) [],.b false,.b false,.b true]
   (q:=[Pure S.cmp_isNaN_int [iv a] (bv (a != a)),Pure S.cmp_isNaN_int [iv b] (bv (b != b)),(a != a)=false,(b != b)=false,decide (a < b)=true]) kr
   ⟨zca a,zca b,by simp,by simp,by simpa [allP] using h1⟩
 ·rw [if_neg h1]
  by_cases h2:b < a
  ·rw [if_pos h2]
   exact zbV At.cmp_Compare_int rfl kr kr 200 [.call [] (bv (a != a)) [],.call [] (bv (b != b)) [],.b false,.b false,.b false,.b true]
    (q:=[Pure S.cmp_isNaN_int [iv a] (bv (a != a)),Pure S.cmp_isNaN_int [iv b] (bv (b != b)),(a != a)=false,(b != b)=false,decide (a < b)=false,decide (b < a)=true]) kr
    ⟨zca a,zca b,by simp,by simp,by simpa using h1,by simpa [allP] using h2⟩
  ·rw [if_neg h2]
   exact zbV At.cmp_Compare_int rfl kr kr 200 [.call [] (bv (a != a)) [],.call [] (bv (b != b)) [],.b false,.b false,.b false,.b false]
    (q:=[Pure S.cmp_isNaN_int [iv a] (bv (a != a)),Pure S.cmp_isNaN_int [iv b] (bv (b != b)),(a != a)=false,(b != b)=false,decide (a < b)=false,decide (b < a)=false]) kr
    ⟨zca a,zca b,by simp,by simp,by simpa using h1,by simpa [allP] using h2⟩
theorem zbl (b:Bool):Pure S.value_Truth [bv b] (V.av ⟨2,if b then 1 else 0,⟨#[]⟩⟩):=by
 cases b
 ·exact zbV At.value_Truth rfl kr kr 100 [.b false] (q:=[false=false]) kr rfl
 ·exact zbV At.value_Truth rfl kr kr 100 [.b true] (q:=[true=true]) kr rfl
theorem zaS (n:Int):Pure S.value_Number [iv n] (V.av ⟨1,n,⟨#[]⟩⟩) :=
 zbV At.value_Number rfl kr kr 100 [] (q:=[]) kr trivial
theorem zae (v:V):Pure S.evaluate_isNull [v.av] (bv (v.kind==0)) :=
 zbV At.evaluate_isNull rfl kr kr 100 [] (q:=[]) kr trivial
end Go.AM
namespace Go.AM
set_option maxRecDepth 100000
theorem ziy (a b:Int):Pure S.cmp_Compare_int64 [iv a,iv b] (iv (cmpI a b)):=by
 unfold cmpI
 by_cases h1:a < b
 ·rw [if_pos h1]
  exact zbV At.cmp_Compare_int64 rfl kr kr 1500 ([.call [] (bv (a != a)) [],.call [] (bv (b != b)) [],.b false,.b false,.b true]) (q:=[zaa E0 S.cmp_isNaN_int64 [AV.v (Value.int IntKind.i64 a)] [] (AV.v (Value.bool (a != a))) [],zaa E0 S.cmp_isNaN_int64 [AV.v (Value.int IntKind.i64 b)] [] (AV.v (Value.bool (b != b))) [],(a != a)=false,(b != b)=false,decide (a < b)=true]) kr ⟨zbT a,zbT b,by simp,by simp,by simpa [allP] using h1⟩
 ·rw [if_neg h1]
  by_cases h2:b < a
  ·rw [if_pos h2]
   exact zbV At.cmp_Compare_int64 rfl kr kr 1500 ([.call [] (bv (a != a)) [],.call [] (bv (b != b)) [],.b false,.b false,.b false,.b true]) (q:=[zaa E0 S.cmp_isNaN_int64 [AV.v (Value.int IntKind.i64 a)] [] (AV.v (Value.bool (a != a))) [],zaa E0 S.cmp_isNaN_int64 [AV.v (Value.int IntKind.i64 b)] [] (AV.v (Value.bool (b != b))) [],(a != a)=false,(b != b)=false,decide (a < b)=false,decide (b < a)=true]) kr ⟨zbT a,zbT b,by simp,by simp,by simpa using h1,by simpa [allP] using h2⟩
  ·rw [if_neg h2]
   exact zbV At.cmp_Compare_int64 rfl kr kr 1500 ([.call [] (bv (a != a)) [],.call [] (bv (b != b)) [],.b false,.b false,.b false,.b false]) (q:=[zaa E0 S.cmp_isNaN_int64 [AV.v (Value.int IntKind.i64 a)] [] (AV.v (Value.bool (a != a))) [],zaa E0 S.cmp_isNaN_int64 [AV.v (Value.int IntKind.i64 b)] [] (AV.v (Value.bool (b != b))) [],(a != a)=false,(b != b)=false,decide (a < b)=false,decide (b < a)=false]) kr ⟨zbT a,zbT b,by simp,by simp,by simpa using h1,by simpa [allP] using h2⟩
theorem zhX (a b:Str):Pure S.cmp_Compare_string [sv a,sv b] (iv (cmpS a b)):=by
 unfold cmpS ltS eqS
 cases h1:Op.bytesLess a.toList b.toList
 ·rw [if_neg (by simp)]
  cases h2:(!(Op.bytesLess a.toList b.toList || a.toList==b.toList))
  ·rw [h1] at h2
   rw [h2,if_neg (by simp)]
   exact zbV At.cmp_Compare_string rfl kr kr 1500 ([.call [] (bv (!(a.toList==a.toList))) [],.call [] (bv (!(b.toList==b.toList))) [],.b false,.b false,.b false,.b false]) (q:=[zaa E0 S.cmp_isNaN_string [AV.v (Value.string a)] [] (AV.v (Value.bool !ByteArray.toList a==ByteArray.toList a)) [],zaa E0 S.cmp_isNaN_string [AV.v (Value.string b)] [] (AV.v (Value.bool !ByteArray.toList b==ByteArray.toList b)) [],(!ByteArray.toList a==ByteArray.toList a)=false,(!ByteArray.toList b==ByteArray.toList b)=false,Op.bytesLess (ByteArray.toList a) (ByteArray.toList b)=false,(!(Op.bytesLess (ByteArray.toList a) (ByteArray.toList b) || ByteArray.toList a==ByteArray.toList b))=false]) kr ⟨zbG a,zbG b,by simp,by simp,h1,by simp only [allP];rw [h1];exact h2⟩
  ·rw [h1] at h2
   rw [h2,if_pos rfl]
   exact zbV At.cmp_Compare_string rfl kr kr 1500 ([.call [] (bv (!(a.toList==a.toList))) [],.call [] (bv (!(b.toList==b.toList))) [],.b false,.b false,.b false,.b true]) (q:=[zaa E0 S.cmp_isNaN_string [AV.v (Value.string a)] [] (AV.v (Value.bool !ByteArray.toList a==ByteArray.toList a)) [],zaa E0 S.cmp_isNaN_string [AV.v (Value.string b)] [] (AV.v (Value.bool !ByteArray.toList b==ByteArray.toList b)) [],(!ByteArray.toList a==ByteArray.toList a)=false,(!ByteArray.toList b==ByteArray.toList b)=false,Op.bytesLess (ByteArray.toList a) (ByteArray.toList b)=false,(!(Op.bytesLess (ByteArray.toList a) (ByteArray.toList b) || ByteArray.toList a==ByteArray.toList b))=true]) kr ⟨zbG a,zbG b,by simp,by simp,h1,by simp only [allP];rw [h1];exact h2⟩
 ·rw [if_pos rfl]
  exact zbV At.cmp_Compare_string rfl kr kr 1500 ([.call [] (bv (!(a.toList==a.toList))) [],.call [] (bv (!(b.toList==b.toList))) [],.b false,.b false,.b true]) (q:=[zaa E0 S.cmp_isNaN_string [AV.v (Value.string a)] [] (AV.v (Value.bool !ByteArray.toList a==ByteArray.toList a)) [],zaa E0 S.cmp_isNaN_string [AV.v (Value.string b)] [] (AV.v (Value.bool !ByteArray.toList b==ByteArray.toList b)) [],(!ByteArray.toList a==ByteArray.toList a)=false,(!ByteArray.toList b==ByteArray.toList b)=false,Op.bytesLess (ByteArray.toList a) (ByteArray.toList b)=true]) kr ⟨zbG a,zbG b,by simp,by simp,h1⟩
def orI:List Int→Int
 | []=>0
 | x::r=>if x=0 then orI r else x
abbrev isl (l:List Int):AV:=.sl (l.map fun n=>[iv n])
noncomputable def L_Or (l:List Int) (i:Nat):Cfg:=zan B.cmp_Or_int 0 [(3,iv 0),(6,.sl (l.map fun n=>[iv n])),(7,iv ((l.map fun n=>[iv n]).length:Nat)),(8,iv (i:Nat))] []
theorem zq3 (l:List Int) (hl:l.length < 9223372036854775807):∀ (k i:Nat),i+k=l.length→Good E0 B.cmp_Or_int [] (L_Or l i) (Shut 0 fun r h=>r=iv (orI (l.drop i))∧h=[]):=by
 intro k
 induction k with
 | zero =>
  intro i hi
  refine zab ?_
  refine zh4 E0ok mix0 1500 ([.b false]) (q:=[decide ((i:Int) < (↑(List.map (fun n=>[iv n]) l).length:Int))=false]) (y:=iv 0) (H:=[]) kr ?_ ⟨?_,rfl⟩
  ·simp [allP];omega
  ·rw [List.drop_of_length_le (by omega)];rfl
 | succ k ih =>
  intro i hi
  obtain ⟨x,hx⟩:=zaz (l:=l) (i:=i) (by omega)
  have hlt:=zd6 hx
  refine zab ?_
  rw [za8 hx,orI]
  by_cases h0:x=0
  ·rw [if_pos h0]
   exact zjB E0ok mix0 1500 ([.b true,.el [iv x],.b false,.i ((i+1:Nat):Int)]) [3,6,7,8] 0 (q:=[decide ((i:Int) < (↑(List.map (fun n=>[iv n]) l).length:Int))=true,ElAt (List.map (fun n=>[iv n]) l) (i:Int) [AV.v (Value.int IntKind.i64 x)] (1:Nat),(x != (0:Int))=false,IntKind.i64.wrap ((i:Int)+(1:Int))=(↑(i+(1:Nat)):Int)]) kr kr kr ⟨by simp;omega,zah (fun n=>[iv n]) hx rfl,by simp [h0],zak i (by omega)⟩ (ih (i+1) (by omega))
  ·rw [if_neg h0]
   exact zh4 E0ok mix0 1500 ([.b true,.el [iv x],.b true]) (q:=[decide ((i:Int) < (↑(List.map (fun n=>[iv n]) l).length:Int))=true,ElAt (List.map (fun n=>[iv n]) l) (i:Int) [AV.v (Value.int IntKind.i64 x)] (1:Nat),(x != (0:Int))=true]) (y:=iv x) (H:=[]) kr ⟨by simp;omega,zah (fun n=>[iv n]) hx rfl,by simpa [allP] using h0⟩ ⟨rfl,rfl⟩
theorem zn7 (l:List Int) (hl:l.length < 9223372036854775807):Pure S.cmp_Or_int [.sl (l.map fun n=>[iv n])] (iv (orI l)) :=
 zrV E0ok mix0 At.cmp_Or_int rfl kr kr 1500 ([]) [3,6,7,8] 0 (q:=[]) kr kr kr trivial (zq3 l hl l.length 0 (by omega))
end Go.AM
namespace Go.AM
set_option maxRecDepth 100000
def cmpV (a b:V):Int:=orI [cmpI a.kind b.kind,cmpI a.int b.int,cmpS a.text b.text]
theorem zcy (a b:V):Pure S.value_Compare [a.av,b.av] (iv (cmpV a b)) :=
 walk E0ok mix0 At.value_Compare rfl kr kr 1500 [sd [(4,[sc (zjU a.kind b.kind)]),(9,[sc (ziy a.int b.int)]),(14,[sc (zhX a.text b.text)]),(16,[sc (zn7 [cmpI a.kind b.kind,cmpI a.int b.int,cmpS a.text b.text] (by simp))])]] kr rfl
end Go.AM
namespace Go.AM
set_option maxRecDepth 100000
def okB (c:Nat):Bool:=!(decide ((c:Int) < 32))&&!(decide ((126:Int) < c))
def zf0 (l:List UInt8):Bool:=match l with
 | []=>true
 | c::r=>okB c.toNat&&zf0 r
def zc8 (s:Str):Bool:=zf0 s.data.toList&&decide ((s.size:Int)≤64)
noncomputable def zlP (s:Str) (i:Nat):Cfg:=zan B.value_plain 0 [(0,sv s),(5,iv (s.size:Nat)),(6,iv (i:Nat))] []
theorem zoi (s:Str) (hl:s.size < 9223372036854775807):∀ (k i:Nat),i+k=s.size→Good E0 B.value_plain [] (zlP s i) (Shut 0 fun r h=>r=bv (zf0 (s.data.toList.drop i)&&decide ((s.size:Int)≤64))∧h=[]):=by
 intro k
 induction k with
 | zero =>
  intro i hi
  refine zab ?_
  have h0:decide ((i:Int) < (s.size:Int))=false:=by simp;omega
  have e0:s.data.toList.drop i=[]:=List.drop_of_length_le (by simp [← hi])
  rw [e0]
  exact zeR E0ok mix0 3000 (y:=AV.v (Value.bool (decide ((↑(ByteArray.size s):Int)≤(64:Int))))) [sb h0] kr ⟨rfl,rfl⟩
 | succ k ih =>
  intro i hi
  have ih:=ih (i+1) (by omega)
  have hlt:i < s.size:=by omega
  have h0:decide ((i:Int) < (s.size:Int))=true:=by simp;omega
  have hb:ByteAt s (i:Int) ((s[i].toNat:Nat):Int):=⟨by omega,by simp [hlt]⟩
  have hw:=zak i (by omega)
  have e0:s.data.toList.drop i=s[i]::s.data.toList.drop (i+1):=by
   rw [List.drop_eq_getElem_cons (by simpa using hlt)];rfl
  rw [e0]
  generalize s[i]=c at hb
  simp only [zf0,okB]
  refine zab ?_
  cases h1:decide ((c.toNat:Int) < (32:Int))
  ·cases h2:decide ((126:Int) < (c.toNat:Int))
   ·exact zcm E0ok mix0 3000 (c':=zlP s (i+(1:Nat))) [sb h0,sy hb,sg h1,sy hb,sb h2,si hw] [0,5,6] 0 kr kr (by simpa [h1,h2] using ih)
   ·exact zeR E0ok mix0 3000 (y:=AV.v (Value.bool false)) [sb h0,sy hb,sg h1,sy hb,sb h2] kr ⟨by simp [h1,h2],rfl⟩
  ·exact zeR E0ok mix0 3000 (y:=AV.v (Value.bool false)) [sb h0,sy hb,sb h1] kr ⟨by simp [h1],rfl⟩
theorem zmn (s:Str) (hl:s.size < 9223372036854775807):Pure S.value_plain [sv s] (bv (zc8 s)):=by
 exact zf7 E0ok mix0 At.value_plain rfl kr kr 3000 (c':=zlP s (0:Nat)) [] [0,5,6] 0 kr kr (by simpa [zc8] using zoi s hl s.size 0 (by simp))
end Go.AM
namespace Go.AM
set_option maxRecDepth 100000
set_option linter.unusedSimpArgs false
set_option linter.unusedVariables false
theorem zea {p:Prop} (h:p:=by first|assumption|omega|(simp;done)|(simp;omega)):p:=h
theorem zh2 {p:Prop} (h:p:=by first|assumption|exact zra _ _ (by decide)|exact zqB _ _ _):p:=h
theorem zgk {p:Prop} (h:p:=by first|assumption|exact zo5 _ _):p:=h
theorem zjG {p:Prop} (h:p:=by first|assumption|exact zra _ _ (by simp_all;omega)):p:=h
abbrev V.small (v:V):Prop:=v.text.size < 9223372036854775807
theorem zhd:(⟨#[]⟩:Str).size < 9223372036854775807:=by decide
def zaD (v:V):Bool :=
 bif v.kind==(0:Int) then
  v.kind==(0:Int)&&(v.int==(0:Int)&&(v.text==ByteArray.mk #[]&&true))
 else
  bif v.kind==(1:Int) then
   ByteArray.toList v.text==(ByteArray.mk #[]).toList
  else
   bif v.kind==(2:Int) then
    bif v.int==(0:Int) then
     ByteArray.toList v.text==(ByteArray.mk #[]).toList
    else
     bif v.int==(1:Int) then
      ByteArray.toList v.text==(ByteArray.mk #[]).toList
     else
      false
   else
    bif v.kind==(3:Int) then
     bif v.int==(0:Int) then
      zc8 v.text
     else
      false
    else
     false
theorem zcc (v:V) (hv:v.small):zaa E0 S.value_Valid [v.av] [] (bv (zaD v)) []:=by
 cases h1:v.kind==(0:Int)
 ·cases h2:v.kind==(1:Int)
  ·cases h3:v.kind==(2:Int)
   ·cases h4:v.kind==(3:Int)
    ·exact walk E0ok mix0 At.value_Valid rfl kr kr 3000 (y:=AV.v (Value.bool false)) [sb h1,sb h2,sb h3,sb h4] kr (by simp only [zaD,cond_true,cond_false,h1,h2,h3,h4] <;> rfl)
    ·cases h5:v.int==(0:Int)
     ·exact walk E0ok mix0 At.value_Valid rfl kr kr 3000 (y:=AV.v (Value.bool false)) [sb h1,sb h2,sb h3,sb h4,sb h5] kr (by simp only [zaD,cond_true,cond_false,h1,h2,h3,h4,h5] <;> rfl)
     ·exact walk E0ok mix0 At.value_Valid rfl kr kr 3000 (y:=AV.v (Value.bool (zc8 v.text))) [sb h1,sb h2,sb h3,sb h4,sg h5,sc (zmn v.text (by first|assumption|(simp;done)|omega|(simp;omega)))] kr (by simp only [zaD,cond_true,cond_false,h1,h2,h3,h4,h5] <;> rfl)
   ·cases h6:v.int==(0:Int)
    ·cases h7:v.int==(1:Int)
     ·exact walk E0ok mix0 At.value_Valid rfl kr kr 3000 (y:=AV.v (Value.bool false)) [sb h1,sb h2,sb h3,sg h6,sb h7] kr (by simp only [zaD,cond_true,cond_false,h1,h2,h3,h6,h7] <;> rfl)
     ·exact walk E0ok mix0 At.value_Valid rfl kr kr 3000 (y:=AV.v (Value.bool (ByteArray.toList v.text==(ByteArray.mk #[]).toList))) [sb h1,sb h2,sb h3,sg h6,sg h7] kr (by simp only [zaD,cond_true,cond_false,h1,h2,h3,h6,h7] <;> rfl)
    ·exact walk E0ok mix0 At.value_Valid rfl kr kr 3000 (y:=AV.v (Value.bool (ByteArray.toList v.text==(ByteArray.mk #[]).toList))) [sb h1,sb h2,sb h3,sb h6] kr (by simp only [zaD,cond_true,cond_false,h1,h2,h3,h6] <;> rfl)
  ·exact walk E0ok mix0 At.value_Valid rfl kr kr 3000 (y:=AV.v (Value.bool (ByteArray.toList v.text==(ByteArray.mk #[]).toList))) [sb h1,sb h2] kr (by simp only [zaD,cond_true,cond_false,h1,h2] <;> rfl)
 ·exact walk E0ok mix0 At.value_Valid rfl kr kr 3000 (y:=AV.v (Value.bool (v.kind==(0:Int)&&(v.int==(0:Int)&&(v.text==ByteArray.mk #[]&&true))))) [sb h1,sq zbh] kr (by simp only [zaD,cond_true,cond_false,h1] <;> rfl)
def zcw (v:V):Bool :=
 bif zaD v then
  bif v.kind==2 then
   true
  else
   v.kind==(0:Int)
 else
  false
theorem zaT (v:V) (hv:v.small):zaa E0 S.logic_Valid [v.av] [] (bv (zcw v)) []:=by
 unfold zcw
 cases h1:zaD v
 ·exact wk At.logic_Valid [sc (zcc v zea),sb h1] kr
 ·cases h2:v.kind==2
  ·exact wk At.logic_Valid [sc (zcc v zea),sg h1,sg h2] kr
  ·exact wk At.logic_Valid [sc (zcc v zea),sg h1,sb h2] kr
def lnot (v:V):V × Bool :=
 bif !zcw v then
  (V.mk 0 0 (ByteArray.mk #[]),false)
 else
  bif v.kind==0 then
   (v,true)
  else
   (V.mk (2:Int) (if (v.int==(0:Int))=true then (1:Int) else (0:Int)) (ByteArray.mk #[]),true)
theorem zeP (v:V) (hv:v.small):zaa E0 S.logic_Not [v.av] [] (.tup [(lnot v).1.av,bv (lnot v).2]) []:=by
 unfold lnot
 cases h1:!zcw v
 ·cases h2:v.kind==0
  ·exact wk At.logic_Not [sc (zaT v zea),sb h1,sb h2,sc (zbl (v.int==0))] kr
  ·exact wk At.logic_Not [sc (zaT v zea),sb h1,sb h2] kr
 ·exact wk At.logic_Not [sc (zaT v zea),sb h1] kr
def zeO (a b:V):V :=
 bif a.kind==2&&((a.int==if false=true then 1 else 0)&&(a.text==ByteArray.mk #[]&&true)) then
  V.mk 2 (if false=true then 1 else 0) (ByteArray.mk #[])
 else
  bif b.kind==2&&((b.int==if false=true then 1 else 0)&&(b.text==ByteArray.mk #[]&&true)) then
   V.mk 2 (if false=true then 1 else 0) (ByteArray.mk #[])
  else
   bif a.kind==0 then
    V.mk 0 0 (ByteArray.mk #[])
   else
    bif b.kind==0 then
     V.mk 0 0 (ByteArray.mk #[])
    else
     V.mk 2 (if true=true then 1 else 0) (ByteArray.mk #[])
theorem zjW (a b:V) :zaa E0 S.logic_and [a.av,b.av] [] ((zeO a b).av) []:=by
 unfold zeO
 cases h1:a.kind==2&&((a.int==if false=true then 1 else 0)&&(a.text==ByteArray.mk #[]&&true))
 ·cases h2:b.kind==2&&((b.int==if false=true then 1 else 0)&&(b.text==ByteArray.mk #[]&&true))
  ·cases h3:a.kind==0
   ·cases h4:b.kind==0
    ·exact wk At.logic_and [sc (zbl false),sq zbh,sg h1,sq zbh,sb h2,sg h3,sb h4,sc (zbl true)] kr
    ·exact wk At.logic_and [sc (zbl false),sq zbh,sg h1,sq zbh,sb h2,sg h3,sb h4] kr
   ·exact wk At.logic_and [sc (zbl false),sq zbh,sg h1,sq zbh,sb h2,sb h3] kr
  ·exact wk At.logic_and [sc (zbl false),sq zbh,sg h1,sq zbh,sb h2] kr
 ·exact wk At.logic_and [sc (zbl false),sq zbh,sb h1] kr
def land (a b:V):V × Bool :=
 bif !zcw a then
  (V.mk 0 0 (ByteArray.mk #[]),false)
 else
  bif !zcw b then
   (V.mk 0 0 (ByteArray.mk #[]),false)
  else
   (zeO a b,true)
theorem zkb (a b:V) (ha:a.small) (hb:b.small):zaa E0 S.logic_And [a.av,b.av] [] (.tup [(land a b).1.av,bv (land a b).2]) []:=by
 unfold land
 cases h1:!zcw a
 ·cases h2:!zcw b
  ·exact wk At.logic_And [sc (zaT a zea),sg h1,sc (zaT b zea),sb h2,sc (zjW a b)] kr
  ·exact wk At.logic_And [sc (zaT a zea),sg h1,sc (zaT b zea),sb h2] kr
 ·exact wk At.logic_And [sc (zaT a zea),sb h1] kr
theorem zqp (c:Bool) {a b:V} (ha:a.small) (hb:b.small):(bif c then a else b).small:=by cases c <;> assumption
theorem zoY (c:Bool) {α:Type} {a b:V × α} (ha:a.1.small) (hb:b.1.small):(bif c then a else b).1.small:=by cases c <;> assumption
theorem zo5 (a b:V):(zeO a b).small:=by
 unfold zeO;repeat' (first|apply zqp|exact zhd)
def lor (a b:V):V × Bool :=
 bif !zcw a then
  (V.mk 0 0 (ByteArray.mk #[]),false)
 else
  bif !zcw b then
   (V.mk 0 0 (ByteArray.mk #[]),false)
  else
   ((lnot (zeO (lnot a).fst (lnot b).fst)).fst,(lnot (zeO (lnot a).fst (lnot b).fst)).snd)
theorem zqO (a b:V) (ha:a.small) (hb:b.small):zaa E0 S.logic_Or [a.av,b.av] [] (.tup [(lor a b).1.av,bv (lor a b).2]) []:=by
 unfold lor
 cases h1:!zcw a
 ·cases h2:!zcw b
  ·exact wk At.logic_Or [sc (zaT a zgk),sg h1,sc (zaT b zgk),sb h2,sc (zeP a zgk),sc (zeP b zgk),sc (zjW ((lnot a).fst) ((lnot b).fst)),sc (zeP (zeO (lnot a).fst (lnot b).fst) zgk)] kr
  ·exact wk At.logic_Or [sc (zaT a zgk),sg h1,sc (zaT b zgk),sb h2] kr
 ·exact wk At.logic_Or [sc (zaT a zgk),sb h1] kr
def zrP (a:V):Bool :=
 a.kind==(2:Int)&&((a.int==if true=true then (1:Int) else (0:Int))&&(a.text==ByteArray.mk #[]&&true))
theorem zlC (a:V) :zaa E0 S.logic_IsTrue [a.av] [] (bv (zrP a)) []:=by
 exact wk At.logic_IsTrue [sd [(1,[sc (zbl true)]),(2,[sq zbh])]] kr
def aAdd (a b:Int):Int × Bool :=
 bif decide (0 < b) then
  bif decide (IntKind.i64.wrap (9223372036854775807 - b) < a) then
   (0,false)
  else
   bif decide (b < 0) then
    bif decide (a < IntKind.i64.wrap (-9223372036854775808 - b)) then
     (0,false)
    else
     (IntKind.i64.wrap (a+b),true)
   else
    (IntKind.i64.wrap (a+b),true)
 else
  bif decide (b < 0) then
   bif decide (a < IntKind.i64.wrap (-9223372036854775808 - b)) then
    (0,false)
   else
    (IntKind.i64.wrap (a+b),true)
  else
   (IntKind.i64.wrap (a+b),true)
theorem zcW (a b:Int) :zaa E0 S.arith_Add [iv a,iv b] [] (.tup [iv (aAdd a b).1,bv (aAdd a b).2]) []:=by
 unfold aAdd
 cases h1:decide (0 < b)
 ·cases h2:decide (b < 0)
  ·exact wk At.arith_Add [sb h1,sb h2,si (e:=IntKind.i64.wrap (a+b)) rfl] kr
  ·cases h3:decide (a < IntKind.i64.wrap (-9223372036854775808 - b))
   ·exact wk At.arith_Add [sb h1,sg h2,si (e:=IntKind.i64.wrap (-9223372036854775808 - b)) rfl,sb h3,si (e:=IntKind.i64.wrap (a+b)) rfl] kr
   ·exact wk At.arith_Add [sb h1,sg h2,si (e:=IntKind.i64.wrap (-9223372036854775808 - b)) rfl,sb h3] kr
 ·cases h4:decide (IntKind.i64.wrap (9223372036854775807 - b) < a)
  ·cases h5:decide (b < 0)
   ·exact wk At.arith_Add [sg h1,si (e:=IntKind.i64.wrap (9223372036854775807 - b)) rfl,sg h4,sb h5,si (e:=IntKind.i64.wrap (a+b)) rfl] kr
   ·cases h6:decide (a < IntKind.i64.wrap (-9223372036854775808 - b))
    ·exact wk At.arith_Add [sg h1,si (e:=IntKind.i64.wrap (9223372036854775807 - b)) rfl,sg h4,sg h5,si (e:=IntKind.i64.wrap (-9223372036854775808 - b)) rfl,sb h6,si (e:=IntKind.i64.wrap (a+b)) rfl] kr
    ·exact wk At.arith_Add [sg h1,si (e:=IntKind.i64.wrap (9223372036854775807 - b)) rfl,sg h4,sg h5,si (e:=IntKind.i64.wrap (-9223372036854775808 - b)) rfl,sb h6] kr
  ·exact wk At.arith_Add [sg h1,si (e:=IntKind.i64.wrap (9223372036854775807 - b)) rfl,sb h4] kr
def aSub (a b:Int):Int × Bool :=
 bif decide (b < 0) then
  bif decide (IntKind.i64.wrap (9223372036854775807+b) < a) then
   (0,false)
  else
   bif decide (0 < b) then
    bif decide (a < IntKind.i64.wrap (-9223372036854775808+b)) then
     (0,false)
    else
     (IntKind.i64.wrap (a - b),true)
   else
    (IntKind.i64.wrap (a - b),true)
 else
  bif decide (0 < b) then
   bif decide (a < IntKind.i64.wrap (-9223372036854775808+b)) then
    (0,false)
   else
    (IntKind.i64.wrap (a - b),true)
  else
   (IntKind.i64.wrap (a - b),true)
theorem zb4 (a b:Int) :zaa E0 S.arith_Subtract [iv a,iv b] [] (.tup [iv (aSub a b).1,bv (aSub a b).2]) []:=by
 unfold aSub
 cases h1:decide (b < 0)
 ·cases h2:decide (0 < b)
  ·exact wk At.arith_Subtract [sb h1,sb h2,si (e:=IntKind.i64.wrap (a - b)) rfl] kr
  ·cases h3:decide (a < IntKind.i64.wrap (-9223372036854775808+b))
   ·exact wk At.arith_Subtract [sb h1,sg h2,si (e:=IntKind.i64.wrap (-9223372036854775808+b)) rfl,sb h3,si (e:=IntKind.i64.wrap (a - b)) rfl] kr
   ·exact wk At.arith_Subtract [sb h1,sg h2,si (e:=IntKind.i64.wrap (-9223372036854775808+b)) rfl,sb h3] kr
 ·cases h4:decide (IntKind.i64.wrap (9223372036854775807+b) < a)
  ·cases h5:decide (0 < b)
   ·exact wk At.arith_Subtract [sg h1,si (e:=IntKind.i64.wrap (9223372036854775807+b)) rfl,sg h4,sb h5,si (e:=IntKind.i64.wrap (a - b)) rfl] kr
   ·cases h6:decide (a < IntKind.i64.wrap (-9223372036854775808+b))
    ·exact wk At.arith_Subtract [sg h1,si (e:=IntKind.i64.wrap (9223372036854775807+b)) rfl,sg h4,sg h5,si (e:=IntKind.i64.wrap (-9223372036854775808+b)) rfl,sb h6,si (e:=IntKind.i64.wrap (a - b)) rfl] kr
    ·exact wk At.arith_Subtract [sg h1,si (e:=IntKind.i64.wrap (9223372036854775807+b)) rfl,sg h4,sg h5,si (e:=IntKind.i64.wrap (-9223372036854775808+b)) rfl,sb h6] kr
  ·exact wk At.arith_Subtract [sg h1,si (e:=IntKind.i64.wrap (9223372036854775807+b)) rfl,sb h4] kr
def aMul (a b:Int):Int × Bool :=
 bif a==0 then
  (0,true)
 else
  bif b==0 then
   (0,true)
  else
   bif a==-9223372036854775808 then
    bif b==-1 then
     (0,false)
    else
     bif b==-9223372036854775808 then
      bif a==-1 then
       (0,false)
      else
       bif IntKind.i64.wrap ((IntKind.i64.wrap (a * b)).tdiv b) != a then
        (0,false)
       else
        (IntKind.i64.wrap (a * b),true)
     else
      bif IntKind.i64.wrap ((IntKind.i64.wrap (a * b)).tdiv b) != a then
       (0,false)
      else
       (IntKind.i64.wrap (a * b),true)
   else
    bif b==-9223372036854775808 then
     bif a==-1 then
      (0,false)
     else
      bif IntKind.i64.wrap ((IntKind.i64.wrap (a * b)).tdiv b) != a then
       (0,false)
      else
       (IntKind.i64.wrap (a * b),true)
    else
     bif IntKind.i64.wrap ((IntKind.i64.wrap (a * b)).tdiv b) != a then
      (0,false)
     else
      (IntKind.i64.wrap (a * b),true)
theorem zb3 (a b:Int) :zaa E0 S.arith_Multiply [iv a,iv b] [] (.tup [iv (aMul a b).1,bv (aMul a b).2]) []:=by
 unfold aMul
 cases h1:a==0
 ·cases h2:b==0
  ·cases h3:a==-9223372036854775808
   ·cases h4:b==-9223372036854775808
    ·cases h5:IntKind.i64.wrap ((IntKind.i64.wrap (a * b)).tdiv b) != a
     ·exact wk At.arith_Multiply [sg h1,sb h2,sb h3,sb h4,si (e:=IntKind.i64.wrap (a * b)) rfl,sx (.i (IntKind.i64.wrap ((IntKind.i64.wrap (a * b)).tdiv b))) (show b≠(0:Int)∧(IntKind.i64.wrap ((IntKind.i64.wrap (a * b)).tdiv b):Int)=IntKind.i64.wrap ((IntKind.i64.wrap (a * b)).tdiv b) from ⟨(by simp_all),rfl⟩),sb h5] kr
     ·exact wk At.arith_Multiply [sg h1,sb h2,sb h3,sb h4,si (e:=IntKind.i64.wrap (a * b)) rfl,sx (.i (IntKind.i64.wrap ((IntKind.i64.wrap (a * b)).tdiv b))) (show b≠(0:Int)∧(IntKind.i64.wrap ((IntKind.i64.wrap (a * b)).tdiv b):Int)=IntKind.i64.wrap ((IntKind.i64.wrap (a * b)).tdiv b) from ⟨(by simp_all),rfl⟩),sb h5] kr
    ·cases h6:a==-1
     ·cases h7:IntKind.i64.wrap ((IntKind.i64.wrap (a * b)).tdiv b) != a
      ·exact wk At.arith_Multiply [sg h1,sb h2,sb h3,sg h4,sb h6,si (e:=IntKind.i64.wrap (a * b)) rfl,sx (.i (IntKind.i64.wrap ((IntKind.i64.wrap (a * b)).tdiv b))) (show b≠(0:Int)∧(IntKind.i64.wrap ((IntKind.i64.wrap (a * b)).tdiv b):Int)=IntKind.i64.wrap ((IntKind.i64.wrap (a * b)).tdiv b) from ⟨(by simp_all),rfl⟩),sb h7] kr
      ·exact wk At.arith_Multiply [sg h1,sb h2,sb h3,sg h4,sb h6,si (e:=IntKind.i64.wrap (a * b)) rfl,sx (.i (IntKind.i64.wrap ((IntKind.i64.wrap (a * b)).tdiv b))) (show b≠(0:Int)∧(IntKind.i64.wrap ((IntKind.i64.wrap (a * b)).tdiv b):Int)=IntKind.i64.wrap ((IntKind.i64.wrap (a * b)).tdiv b) from ⟨(by simp_all),rfl⟩),sb h7] kr
     ·exact wk At.arith_Multiply [sg h1,sb h2,sb h3,sg h4,sb h6] kr
   ·cases h8:b==-1
    ·cases h9:b==-9223372036854775808
     ·cases h10:IntKind.i64.wrap ((IntKind.i64.wrap (a * b)).tdiv b) != a
      ·exact wk At.arith_Multiply [sg h1,sb h2,sg h3,sg h8,sb h9,si (e:=IntKind.i64.wrap (a * b)) rfl,sx (.i (IntKind.i64.wrap ((IntKind.i64.wrap (a * b)).tdiv b))) (show b≠(0:Int)∧(IntKind.i64.wrap ((IntKind.i64.wrap (a * b)).tdiv b):Int)=IntKind.i64.wrap ((IntKind.i64.wrap (a * b)).tdiv b) from ⟨(by simp_all),rfl⟩),sb h10] kr
      ·exact wk At.arith_Multiply [sg h1,sb h2,sg h3,sg h8,sb h9,si (e:=IntKind.i64.wrap (a * b)) rfl,sx (.i (IntKind.i64.wrap ((IntKind.i64.wrap (a * b)).tdiv b))) (show b≠(0:Int)∧(IntKind.i64.wrap ((IntKind.i64.wrap (a * b)).tdiv b):Int)=IntKind.i64.wrap ((IntKind.i64.wrap (a * b)).tdiv b) from ⟨(by simp_all),rfl⟩),sb h10] kr
     ·cases h11:a==-1
      ·cases h12:IntKind.i64.wrap ((IntKind.i64.wrap (a * b)).tdiv b) != a
       ·exact wk At.arith_Multiply [sg h1,sb h2,sg h3,sg h8,sg h9,sb h11,si (e:=IntKind.i64.wrap (a * b)) rfl,sx (.i (IntKind.i64.wrap ((IntKind.i64.wrap (a * b)).tdiv b))) (show b≠(0:Int)∧(IntKind.i64.wrap ((IntKind.i64.wrap (a * b)).tdiv b):Int)=IntKind.i64.wrap ((IntKind.i64.wrap (a * b)).tdiv b) from ⟨(by simp_all),rfl⟩),sb h12] kr
       ·exact wk At.arith_Multiply [sg h1,sb h2,sg h3,sg h8,sg h9,sb h11,si (e:=IntKind.i64.wrap (a * b)) rfl,sx (.i (IntKind.i64.wrap ((IntKind.i64.wrap (a * b)).tdiv b))) (show b≠(0:Int)∧(IntKind.i64.wrap ((IntKind.i64.wrap (a * b)).tdiv b):Int)=IntKind.i64.wrap ((IntKind.i64.wrap (a * b)).tdiv b) from ⟨(by simp_all),rfl⟩),sb h12] kr
      ·exact wk At.arith_Multiply [sg h1,sb h2,sg h3,sg h8,sg h9,sb h11] kr
    ·exact wk At.arith_Multiply [sg h1,sb h2,sg h3,sb h8] kr
  ·exact wk At.arith_Multiply [sg h1,sb h2] kr
 ·exact wk At.arith_Multiply [sb h1] kr
def aDiv (a b:Int):Int × Bool :=
 bif b==0 then
  (0,false)
 else
  bif a==-9223372036854775808 then
   bif b==-1 then
    (0,false)
   else
    (IntKind.i64.wrap (a.tdiv b),true)
  else
   (IntKind.i64.wrap (a.tdiv b),true)
theorem zgW (a b:Int) :zaa E0 S.arith_Divide [iv a,iv b] [] (.tup [iv (aDiv a b).1,bv (aDiv a b).2]) []:=by
 unfold aDiv
 cases h1:b==0
 ·cases h2:a==-9223372036854775808
  ·exact wk At.arith_Divide [sg h1,sb h2,sx (.i (IntKind.i64.wrap (a.tdiv b))) (show b≠(0:Int)∧(IntKind.i64.wrap (a.tdiv b):Int)=IntKind.i64.wrap (a.tdiv b) from ⟨(by simp_all),rfl⟩)] kr
  ·cases h3:b==-1
   ·exact wk At.arith_Divide [sg h1,sg h2,sb h3,sx (.i (IntKind.i64.wrap (a.tdiv b))) (show b≠(0:Int)∧(IntKind.i64.wrap (a.tdiv b):Int)=IntKind.i64.wrap (a.tdiv b) from ⟨(by simp_all),rfl⟩)] kr
   ·exact wk At.arith_Divide [sg h1,sg h2,sb h3] kr
 ·exact wk At.arith_Divide [sb h1] kr
def aMod (a b:Int):Int × Bool :=
 bif b==0 then
  (0,false)
 else
  bif b==-1 then
   (0,true)
  else
   (a.tmod b,true)
theorem zg0 (a b:Int) :zaa E0 S.arith_Modulo [iv a,iv b] [] (.tup [iv (aMod a b).1,bv (aMod a b).2]) []:=by
 unfold aMod
 cases h1:b==0
 ·cases h2:b==-1
  ·exact wk At.arith_Modulo [sb h1,sb h2,sx (.i (a.tmod b)) (show b≠(0:Int)∧(a.tmod b:Int)=a.tmod b from ⟨(by simp_all),rfl⟩)] kr
  ·exact wk At.arith_Modulo [sb h1,sb h2] kr
 ·exact wk At.arith_Modulo [sb h1] kr
def zcF (v:V) (ok:Bool):V × Int :=
 bif !ok then
  (V.mk 0 0 (ByteArray.mk #[]),5)
 else
  (v,0)
theorem zcL (v:V) (ok:Bool) :zaa E0 S.evaluate_truth [v.av,bv ok] [] (.tup [(zcF v ok).1.av,iv (zcF v ok).2]) []:=by
 unfold zcF
 cases h1:!ok
 ·exact wk At.evaluate_truth [sb h1] kr
 ·exact wk At.evaluate_truth [sb h1] kr
def zm5 (op c:Int):Bool:=bif op==3 then c==0 else bif op==4 then c != 0 else bif op==5 then decide (c < 0) else bif op==6 then decide (c≤0) else bif op==7 then decide (0 < c) else decide (0≤c)
abbrev CmpArr (op c:Int):Prop:=ArrAt [.bl false,.bl false,.bl false,bv (c==0),bv (c != 0),bv (decide (c < 0)),bv (decide (c≤0)),bv (decide (0 < c)),bv (decide (0≤c))] op 9 [bv (zm5 op c)] 1
theorem zra (op c:Int) (ho:3≤op∧op≤8):CmpArr op c:=by
 have h:op=3∨op=4∨op=5∨op=6∨op=7∨op=8:=by omega
 rcases h with rfl|rfl|rfl|rfl|rfl|rfl <;> exact ⟨by decide,by decide,rfl,rfl⟩
def vCmp (op:Int) (a b:V):V × Int :=
 bif a.kind==0 then
  (V.mk 0 0 (ByteArray.mk #[]),0)
 else
  bif b.kind==0 then
   (V.mk 0 0 (ByteArray.mk #[]),0)
  else
   bif a.kind != b.kind then
    (V.mk 0 0 (ByteArray.mk #[]),5)
   else
    (V.mk 2 (if zm5 op (cmpV a b)=true then 1 else 0) (ByteArray.mk #[]),0)
theorem zbo (op:Int) (a b:V) (he:ArrAt [.bl false,.bl false,.bl false,bv (cmpV a b==0),bv (cmpV a b != 0),bv (decide (cmpV a b < 0)),bv (decide (cmpV a b≤0)),bv (decide (0 < cmpV a b)),bv (decide (0≤cmpV a b))] op 9 [bv (zm5 op (cmpV a b))] 1):zaa E0 S.evaluate_comparison [iv op,a.av,b.av] [] (.tup [(vCmp op a b).1.av,iv (vCmp op a b).2]) []:=by
 unfold vCmp
 cases h1:a.kind==0
 ·cases h2:b.kind==0
  ·cases h3:a.kind != b.kind
   ·exact wk At.evaluate_comparison [sc (zae a),sg h1,sc (zae b),sb h2,sb h3,sc (zcy a b),sa he,sc (zbl (zm5 op (cmpV a b)))] kr
   ·exact wk At.evaluate_comparison [sc (zae a),sg h1,sc (zae b),sb h2,sb h3] kr
  ·exact wk At.evaluate_comparison [sc (zae a),sg h1,sc (zae b),sb h2] kr
 ·exact wk At.evaluate_comparison [sc (zae a),sb h1] kr
def zd8 (op:Int) (a b:V):V × Int :=
 bif a.kind==0 then
  (V.mk 0 0 (ByteArray.mk #[]),0)
 else
  bif b.kind==0 then
   (V.mk 0 0 (ByteArray.mk #[]),0)
  else
   bif a.kind != 1 then
    (V.mk 0 0 (ByteArray.mk #[]),5)
   else
    bif b.kind != 1 then
     (V.mk 0 0 (ByteArray.mk #[]),5)
    else
     bif op==12 then
      bif b.int==0 then
       (V.mk 0 0 (ByteArray.mk #[]),7)
      else
       bif op==9 then
        bif !(aAdd a.int b.int).snd then
         (V.mk 0 0 (ByteArray.mk #[]),6)
        else
         (V.mk 1 (aAdd a.int b.int).fst (ByteArray.mk #[]),0)
       else
        bif op==10 then
         bif !(aSub a.int b.int).snd then
          (V.mk 0 0 (ByteArray.mk #[]),6)
         else
          (V.mk 1 (aSub a.int b.int).fst (ByteArray.mk #[]),0)
        else
         bif op==11 then
          bif !(aMul a.int b.int).snd then
           (V.mk 0 0 (ByteArray.mk #[]),6)
          else
           (V.mk 1 (aMul a.int b.int).fst (ByteArray.mk #[]),0)
         else
          bif !(aDiv a.int b.int).snd then
           (V.mk 0 0 (ByteArray.mk #[]),6)
          else
           (V.mk 1 (aDiv a.int b.int).fst (ByteArray.mk #[]),0)
     else
      bif op==13 then
       bif b.int==0 then
        (V.mk 0 0 (ByteArray.mk #[]),7)
       else
        bif op==9 then
         bif !(aAdd a.int b.int).snd then
          (V.mk 0 0 (ByteArray.mk #[]),6)
         else
          (V.mk 1 (aAdd a.int b.int).fst (ByteArray.mk #[]),0)
        else
         bif op==10 then
          bif !(aSub a.int b.int).snd then
           (V.mk 0 0 (ByteArray.mk #[]),6)
          else
           (V.mk 1 (aSub a.int b.int).fst (ByteArray.mk #[]),0)
         else
          bif op==11 then
           bif !(aMul a.int b.int).snd then
            (V.mk 0 0 (ByteArray.mk #[]),6)
           else
            (V.mk 1 (aMul a.int b.int).fst (ByteArray.mk #[]),0)
          else
           bif !(aMod a.int b.int).snd then
            (V.mk 0 0 (ByteArray.mk #[]),6)
           else
            (V.mk 1 (aMod a.int b.int).fst (ByteArray.mk #[]),0)
      else
       bif op==9 then
        bif !(aAdd a.int b.int).snd then
         (V.mk 0 0 (ByteArray.mk #[]),6)
        else
         (V.mk 1 (aAdd a.int b.int).fst (ByteArray.mk #[]),0)
       else
        bif op==10 then
         bif !(aSub a.int b.int).snd then
          (V.mk 0 0 (ByteArray.mk #[]),6)
         else
          (V.mk 1 (aSub a.int b.int).fst (ByteArray.mk #[]),0)
        else
         bif op==11 then
          bif !(aMul a.int b.int).snd then
           (V.mk 0 0 (ByteArray.mk #[]),6)
          else
           (V.mk 1 (aMul a.int b.int).fst (ByteArray.mk #[]),0)
         else
          (V.mk 0 0 (ByteArray.mk #[]),6)
theorem zdP (op:Int) (a b:V) :zaa E0 S.evaluate_arithmetic [iv op,a.av,b.av] [] (.tup [(zd8 op a b).1.av,iv (zd8 op a b).2]) []:=by
 unfold zd8
 cases h1:a.kind==0
 ·cases h2:b.kind==0
  ·cases h3:a.kind != 1
   ·cases h4:b.kind != 1
    ·cases h5:op==12
     ·cases h6:op==13
      ·cases h7:op==9
       ·cases h8:op==10
        ·cases h9:op==11
         ·exact wk At.evaluate_arithmetic [sc (zae a),sg h1,sc (zae b),sb h2,sg h3,sb h4,sg h5,sb h6,sb h7,sb h8,sb h9,sb h5,sb h6] kr
         ·cases h10:!(aMul a.int b.int).snd
          ·exact wk At.evaluate_arithmetic [sc (zae a),sg h1,sc (zae b),sb h2,sg h3,sb h4,sg h5,sb h6,sb h7,sb h8,sb h9,sc (zb3 a.int b.int),sb h10,sc (zaS ((aMul a.int b.int).fst))] kr
          ·exact wk At.evaluate_arithmetic [sc (zae a),sg h1,sc (zae b),sb h2,sg h3,sb h4,sg h5,sb h6,sb h7,sb h8,sb h9,sc (zb3 a.int b.int),sb h10] kr
        ·cases h11:!(aSub a.int b.int).snd
         ·exact wk At.evaluate_arithmetic [sc (zae a),sg h1,sc (zae b),sb h2,sg h3,sb h4,sg h5,sb h6,sb h7,sb h8,sc (zb4 a.int b.int),sb h11,sc (zaS ((aSub a.int b.int).fst))] kr
         ·exact wk At.evaluate_arithmetic [sc (zae a),sg h1,sc (zae b),sb h2,sg h3,sb h4,sg h5,sb h6,sb h7,sb h8,sc (zb4 a.int b.int),sb h11] kr
       ·cases h12:!(aAdd a.int b.int).snd
        ·exact wk At.evaluate_arithmetic [sc (zae a),sg h1,sc (zae b),sb h2,sg h3,sb h4,sg h5,sb h6,sb h7,sc (zcW a.int b.int),sb h12,sc (zaS ((aAdd a.int b.int).fst))] kr
        ·exact wk At.evaluate_arithmetic [sc (zae a),sg h1,sc (zae b),sb h2,sg h3,sb h4,sg h5,sb h6,sb h7,sc (zcW a.int b.int),sb h12] kr
      ·cases h13:b.int==0
       ·cases h14:op==9
        ·cases h15:op==10
         ·cases h16:op==11
          ·cases h17:!(aMod a.int b.int).snd
           ·exact wk At.evaluate_arithmetic [sc (zae a),sg h1,sc (zae b),sb h2,sg h3,sb h4,sg h5,sg h6,sb h13,sb h14,sb h15,sb h16,sb h5,sb h6,sc (zg0 a.int b.int),sb h17,sc (zaS ((aMod a.int b.int).fst))] kr
           ·exact wk At.evaluate_arithmetic [sc (zae a),sg h1,sc (zae b),sb h2,sg h3,sb h4,sg h5,sg h6,sb h13,sb h14,sb h15,sb h16,sb h5,sb h6,sc (zg0 a.int b.int),sb h17] kr
          ·cases h18:!(aMul a.int b.int).snd
           ·exact wk At.evaluate_arithmetic [sc (zae a),sg h1,sc (zae b),sb h2,sg h3,sb h4,sg h5,sg h6,sb h13,sb h14,sb h15,sb h16,sc (zb3 a.int b.int),sb h18,sc (zaS ((aMul a.int b.int).fst))] kr
           ·exact wk At.evaluate_arithmetic [sc (zae a),sg h1,sc (zae b),sb h2,sg h3,sb h4,sg h5,sg h6,sb h13,sb h14,sb h15,sb h16,sc (zb3 a.int b.int),sb h18] kr
         ·cases h19:!(aSub a.int b.int).snd
          ·exact wk At.evaluate_arithmetic [sc (zae a),sg h1,sc (zae b),sb h2,sg h3,sb h4,sg h5,sg h6,sb h13,sb h14,sb h15,sc (zb4 a.int b.int),sb h19,sc (zaS ((aSub a.int b.int).fst))] kr
          ·exact wk At.evaluate_arithmetic [sc (zae a),sg h1,sc (zae b),sb h2,sg h3,sb h4,sg h5,sg h6,sb h13,sb h14,sb h15,sc (zb4 a.int b.int),sb h19] kr
        ·cases h20:!(aAdd a.int b.int).snd
         ·exact wk At.evaluate_arithmetic [sc (zae a),sg h1,sc (zae b),sb h2,sg h3,sb h4,sg h5,sg h6,sb h13,sb h14,sc (zcW a.int b.int),sb h20,sc (zaS ((aAdd a.int b.int).fst))] kr
         ·exact wk At.evaluate_arithmetic [sc (zae a),sg h1,sc (zae b),sb h2,sg h3,sb h4,sg h5,sg h6,sb h13,sb h14,sc (zcW a.int b.int),sb h20] kr
       ·exact wk At.evaluate_arithmetic [sc (zae a),sg h1,sc (zae b),sb h2,sg h3,sb h4,sg h5,sg h6,sb h13] kr
     ·cases h21:b.int==0
      ·cases h22:op==9
       ·cases h23:op==10
        ·cases h24:op==11
         ·cases h25:!(aDiv a.int b.int).snd
          ·exact wk At.evaluate_arithmetic [sc (zae a),sg h1,sc (zae b),sb h2,sg h3,sb h4,sb h5,sb h21,sb h22,sb h23,sb h24,sb h5,sc (zgW a.int b.int),sb h25,sc (zaS ((aDiv a.int b.int).fst))] kr
          ·exact wk At.evaluate_arithmetic [sc (zae a),sg h1,sc (zae b),sb h2,sg h3,sb h4,sb h5,sb h21,sb h22,sb h23,sb h24,sb h5,sc (zgW a.int b.int),sb h25] kr
         ·cases h26:!(aMul a.int b.int).snd
          ·exact wk At.evaluate_arithmetic [sc (zae a),sg h1,sc (zae b),sb h2,sg h3,sb h4,sb h5,sb h21,sb h22,sb h23,sb h24,sc (zb3 a.int b.int),sb h26,sc (zaS ((aMul a.int b.int).fst))] kr
          ·exact wk At.evaluate_arithmetic [sc (zae a),sg h1,sc (zae b),sb h2,sg h3,sb h4,sb h5,sb h21,sb h22,sb h23,sb h24,sc (zb3 a.int b.int),sb h26] kr
        ·cases h27:!(aSub a.int b.int).snd
         ·exact wk At.evaluate_arithmetic [sc (zae a),sg h1,sc (zae b),sb h2,sg h3,sb h4,sb h5,sb h21,sb h22,sb h23,sc (zb4 a.int b.int),sb h27,sc (zaS ((aSub a.int b.int).fst))] kr
         ·exact wk At.evaluate_arithmetic [sc (zae a),sg h1,sc (zae b),sb h2,sg h3,sb h4,sb h5,sb h21,sb h22,sb h23,sc (zb4 a.int b.int),sb h27] kr
       ·cases h28:!(aAdd a.int b.int).snd
        ·exact wk At.evaluate_arithmetic [sc (zae a),sg h1,sc (zae b),sb h2,sg h3,sb h4,sb h5,sb h21,sb h22,sc (zcW a.int b.int),sb h28,sc (zaS ((aAdd a.int b.int).fst))] kr
        ·exact wk At.evaluate_arithmetic [sc (zae a),sg h1,sc (zae b),sb h2,sg h3,sb h4,sb h5,sb h21,sb h22,sc (zcW a.int b.int),sb h28] kr
      ·exact wk At.evaluate_arithmetic [sc (zae a),sg h1,sc (zae b),sb h2,sg h3,sb h4,sb h5,sb h21] kr
    ·exact wk At.evaluate_arithmetic [sc (zae a),sg h1,sc (zae b),sb h2,sg h3,sb h4] kr
   ·exact wk At.evaluate_arithmetic [sc (zae a),sg h1,sc (zae b),sb h2,sb h3] kr
  ·exact wk At.evaluate_arithmetic [sc (zae a),sg h1,sc (zae b),sb h2] kr
 ·exact wk At.evaluate_arithmetic [sc (zae a),sb h1] kr
theorem zqB (op:Int) (a b:V):(vCmp op a b).1.small:=by
 unfold vCmp;repeat' (first|apply zoY|exact zhd)
def zez (x y z:V):V × Int :=
 bif (vCmp 6 y x).snd != 0 then
  (V.mk 0 0 (ByteArray.mk #[]),(vCmp 6 y x).snd)
 else
  bif (vCmp 6 x z).snd != 0 then
   (V.mk 0 0 (ByteArray.mk #[]),(vCmp 6 x z).snd)
  else
   ((zcF (land (vCmp 6 y x).fst (vCmp 6 x z).fst).fst (land (vCmp 6 y x).fst (vCmp 6 x z).fst).snd).fst,(zcF (land (vCmp 6 y x).fst (vCmp 6 x z).fst).fst (land (vCmp 6 y x).fst (vCmp 6 x z).fst).snd).snd)
theorem zi3 (x y z:V) :zaa E0 S.evaluate_between [vsl [x,y,z]] [] (.tup [(zez x y z).1.av,iv (zez x y z).2]) []:=by
 unfold zez
 cases h1:(vCmp 6 y x).snd != 0
 ·cases h2:(vCmp 6 x z).snd != 0
  ·exact wk At.evaluate_between [sdm [(1,[se (xs:=[[iv x.kind,iv x.int,sv x.text],[iv y.kind,iv y.int,sv y.text],[iv z.kind,iv z.int,sv z.text]]) (i:=1) (c:=[iv y.kind,iv y.int,sv y.text]) (n:=3) ⟨by decide,rfl,rfl⟩]),(4,[se (xs:=[[iv x.kind,iv x.int,sv x.text],[iv y.kind,iv y.int,sv y.text],[iv z.kind,iv z.int,sv z.text]]) (i:=0) (c:=[iv x.kind,iv x.int,sv x.text]) (n:=3) ⟨by decide,rfl,rfl⟩]),(6,[sc (zbo 6 y x zh2)])] 0 [(0,AV.sl [[iv x.kind,iv x.int,sv x.text],[iv y.kind,iv y.int,sv y.text],[iv z.kind,iv z.int,sv z.text]]),(2,AV.p 0 0),(3,iv 0),(4,AV.p 1 0),(5,iv (vCmp 6 y x).snd),(7,AV.tup [AV.agg [iv (vCmp 6 y x).fst.kind,iv (vCmp 6 y x).fst.int,sv (vCmp 6 y x).fst.text],iv (vCmp 6 y x).snd]),(8,AV.sl [[iv x.kind,iv x.int,sv x.text],[iv y.kind,iv y.int,sv y.text],[iv z.kind,iv z.int,sv z.text]]),(9,AV.dp [iv y.kind,iv y.int,sv y.text]),(10,AV.agg [iv y.kind,iv y.int,sv y.text]),(11,AV.sl [[iv x.kind,iv x.int,sv x.text],[iv y.kind,iv y.int,sv y.text],[iv z.kind,iv z.int,sv z.text]]),(12,AV.dp [iv x.kind,iv x.int,sv x.text]),(13,AV.agg [iv x.kind,iv x.int,sv x.text]),(14,AV.tup [AV.agg [iv (vCmp 6 y x).fst.kind,iv (vCmp 6 y x).fst.int,sv (vCmp 6 y x).fst.text],iv (vCmp 6 y x).snd]),(15,AV.agg [iv (vCmp 6 y x).fst.kind,iv (vCmp 6 y x).fst.int,sv (vCmp 6 y x).fst.text]),(16,iv (vCmp 6 y x).snd)] [Blk.box [iv 0,iv 0,sv (ByteArray.mk #[])],Blk.box [iv (vCmp 6 y x).fst.kind,iv (vCmp 6 y x).fst.int,sv (vCmp 6 y x).fst.text]],sb h1,sdm [(1,[se (xs:=[[iv x.kind,iv x.int,sv x.text],[iv y.kind,iv y.int,sv y.text],[iv z.kind,iv z.int,sv z.text]]) (i:=0) (c:=[iv x.kind,iv x.int,sv x.text]) (n:=3) ⟨by decide,rfl,rfl⟩]),(4,[se (xs:=[[iv x.kind,iv x.int,sv x.text],[iv y.kind,iv y.int,sv y.text],[iv z.kind,iv z.int,sv z.text]]) (i:=2) (c:=[iv z.kind,iv z.int,sv z.text]) (n:=3) ⟨by decide,rfl,rfl⟩]),(6,[sc (zbo 6 x z zh2)])] 0 [(0,AV.sl [[iv x.kind,iv x.int,sv x.text],[iv y.kind,iv y.int,sv y.text],[iv z.kind,iv z.int,sv z.text]]),(2,AV.p 0 0),(3,iv 0),(4,AV.p 1 0),(5,iv (vCmp 6 x z).snd),(6,AV.p 2 0),(7,AV.tup [AV.agg [iv (vCmp 6 y x).fst.kind,iv (vCmp 6 y x).fst.int,sv (vCmp 6 y x).fst.text],iv (vCmp 6 y x).snd]),(8,AV.sl [[iv x.kind,iv x.int,sv x.text],[iv y.kind,iv y.int,sv y.text],[iv z.kind,iv z.int,sv z.text]]),(9,AV.dp [iv y.kind,iv y.int,sv y.text]),(10,AV.agg [iv y.kind,iv y.int,sv y.text]),(11,AV.sl [[iv x.kind,iv x.int,sv x.text],[iv y.kind,iv y.int,sv y.text],[iv z.kind,iv z.int,sv z.text]]),(12,AV.dp [iv x.kind,iv x.int,sv x.text]),(13,AV.agg [iv x.kind,iv x.int,sv x.text]),(14,AV.tup [AV.agg [iv (vCmp 6 y x).fst.kind,iv (vCmp 6 y x).fst.int,sv (vCmp 6 y x).fst.text],iv (vCmp 6 y x).snd]),(15,AV.agg [iv (vCmp 6 y x).fst.kind,iv (vCmp 6 y x).fst.int,sv (vCmp 6 y x).fst.text]),(16,iv (vCmp 6 y x).snd),(17,iv (vCmp 6 y x).snd),(18,AV.bl false),(21,AV.tup [AV.agg [iv (vCmp 6 x z).fst.kind,iv (vCmp 6 x z).fst.int,sv (vCmp 6 x z).fst.text],iv (vCmp 6 x z).snd]),(22,AV.sl [[iv x.kind,iv x.int,sv x.text],[iv y.kind,iv y.int,sv y.text],[iv z.kind,iv z.int,sv z.text]]),(23,AV.dp [iv x.kind,iv x.int,sv x.text]),(24,AV.agg [iv x.kind,iv x.int,sv x.text]),(25,AV.sl [[iv x.kind,iv x.int,sv x.text],[iv y.kind,iv y.int,sv y.text],[iv z.kind,iv z.int,sv z.text]]),(26,AV.dp [iv z.kind,iv z.int,sv z.text]),(27,AV.agg [iv z.kind,iv z.int,sv z.text]),(28,AV.tup [AV.agg [iv (vCmp 6 x z).fst.kind,iv (vCmp 6 x z).fst.int,sv (vCmp 6 x z).fst.text],iv (vCmp 6 x z).snd]),(29,AV.agg [iv (vCmp 6 x z).fst.kind,iv (vCmp 6 x z).fst.int,sv (vCmp 6 x z).fst.text]),(30,iv (vCmp 6 x z).snd)] [Blk.box [iv 0,iv 0,sv (ByteArray.mk #[])],Blk.box [iv (vCmp 6 y x).fst.kind,iv (vCmp 6 y x).fst.int,sv (vCmp 6 y x).fst.text],Blk.box [iv (vCmp 6 x z).fst.kind,iv (vCmp 6 x z).fst.int,sv (vCmp 6 x z).fst.text]],sb h2,sc (zkb ((vCmp 6 y x).fst) ((vCmp 6 x z).fst) zh2 zh2),sc (zcL ((land (vCmp 6 y x).fst (vCmp 6 x z).fst).fst) ((land (vCmp 6 y x).fst (vCmp 6 x z).fst).snd))] kr
  ·exact wk At.evaluate_between [sdm [(1,[se (xs:=[[iv x.kind,iv x.int,sv x.text],[iv y.kind,iv y.int,sv y.text],[iv z.kind,iv z.int,sv z.text]]) (i:=1) (c:=[iv y.kind,iv y.int,sv y.text]) (n:=3) ⟨by decide,rfl,rfl⟩]),(4,[se (xs:=[[iv x.kind,iv x.int,sv x.text],[iv y.kind,iv y.int,sv y.text],[iv z.kind,iv z.int,sv z.text]]) (i:=0) (c:=[iv x.kind,iv x.int,sv x.text]) (n:=3) ⟨by decide,rfl,rfl⟩]),(6,[sc (zbo 6 y x zh2)])] 0 [(0,AV.sl [[iv x.kind,iv x.int,sv x.text],[iv y.kind,iv y.int,sv y.text],[iv z.kind,iv z.int,sv z.text]]),(2,AV.p 0 0),(3,iv 0),(4,AV.p 1 0),(5,iv (vCmp 6 y x).snd),(7,AV.tup [AV.agg [iv (vCmp 6 y x).fst.kind,iv (vCmp 6 y x).fst.int,sv (vCmp 6 y x).fst.text],iv (vCmp 6 y x).snd]),(8,AV.sl [[iv x.kind,iv x.int,sv x.text],[iv y.kind,iv y.int,sv y.text],[iv z.kind,iv z.int,sv z.text]]),(9,AV.dp [iv y.kind,iv y.int,sv y.text]),(10,AV.agg [iv y.kind,iv y.int,sv y.text]),(11,AV.sl [[iv x.kind,iv x.int,sv x.text],[iv y.kind,iv y.int,sv y.text],[iv z.kind,iv z.int,sv z.text]]),(12,AV.dp [iv x.kind,iv x.int,sv x.text]),(13,AV.agg [iv x.kind,iv x.int,sv x.text]),(14,AV.tup [AV.agg [iv (vCmp 6 y x).fst.kind,iv (vCmp 6 y x).fst.int,sv (vCmp 6 y x).fst.text],iv (vCmp 6 y x).snd]),(15,AV.agg [iv (vCmp 6 y x).fst.kind,iv (vCmp 6 y x).fst.int,sv (vCmp 6 y x).fst.text]),(16,iv (vCmp 6 y x).snd)] [Blk.box [iv 0,iv 0,sv (ByteArray.mk #[])],Blk.box [iv (vCmp 6 y x).fst.kind,iv (vCmp 6 y x).fst.int,sv (vCmp 6 y x).fst.text]],sb h1,sdm [(1,[se (xs:=[[iv x.kind,iv x.int,sv x.text],[iv y.kind,iv y.int,sv y.text],[iv z.kind,iv z.int,sv z.text]]) (i:=0) (c:=[iv x.kind,iv x.int,sv x.text]) (n:=3) ⟨by decide,rfl,rfl⟩]),(4,[se (xs:=[[iv x.kind,iv x.int,sv x.text],[iv y.kind,iv y.int,sv y.text],[iv z.kind,iv z.int,sv z.text]]) (i:=2) (c:=[iv z.kind,iv z.int,sv z.text]) (n:=3) ⟨by decide,rfl,rfl⟩]),(6,[sc (zbo 6 x z zh2)])] 0 [(0,AV.sl [[iv x.kind,iv x.int,sv x.text],[iv y.kind,iv y.int,sv y.text],[iv z.kind,iv z.int,sv z.text]]),(2,AV.p 0 0),(3,iv 0),(4,AV.p 1 0),(5,iv (vCmp 6 x z).snd),(6,AV.p 2 0),(7,AV.tup [AV.agg [iv (vCmp 6 y x).fst.kind,iv (vCmp 6 y x).fst.int,sv (vCmp 6 y x).fst.text],iv (vCmp 6 y x).snd]),(8,AV.sl [[iv x.kind,iv x.int,sv x.text],[iv y.kind,iv y.int,sv y.text],[iv z.kind,iv z.int,sv z.text]]),(9,AV.dp [iv y.kind,iv y.int,sv y.text]),(10,AV.agg [iv y.kind,iv y.int,sv y.text]),(11,AV.sl [[iv x.kind,iv x.int,sv x.text],[iv y.kind,iv y.int,sv y.text],[iv z.kind,iv z.int,sv z.text]]),(12,AV.dp [iv x.kind,iv x.int,sv x.text]),(13,AV.agg [iv x.kind,iv x.int,sv x.text]),(14,AV.tup [AV.agg [iv (vCmp 6 y x).fst.kind,iv (vCmp 6 y x).fst.int,sv (vCmp 6 y x).fst.text],iv (vCmp 6 y x).snd]),(15,AV.agg [iv (vCmp 6 y x).fst.kind,iv (vCmp 6 y x).fst.int,sv (vCmp 6 y x).fst.text]),(16,iv (vCmp 6 y x).snd),(17,iv (vCmp 6 y x).snd),(18,AV.bl false),(21,AV.tup [AV.agg [iv (vCmp 6 x z).fst.kind,iv (vCmp 6 x z).fst.int,sv (vCmp 6 x z).fst.text],iv (vCmp 6 x z).snd]),(22,AV.sl [[iv x.kind,iv x.int,sv x.text],[iv y.kind,iv y.int,sv y.text],[iv z.kind,iv z.int,sv z.text]]),(23,AV.dp [iv x.kind,iv x.int,sv x.text]),(24,AV.agg [iv x.kind,iv x.int,sv x.text]),(25,AV.sl [[iv x.kind,iv x.int,sv x.text],[iv y.kind,iv y.int,sv y.text],[iv z.kind,iv z.int,sv z.text]]),(26,AV.dp [iv z.kind,iv z.int,sv z.text]),(27,AV.agg [iv z.kind,iv z.int,sv z.text]),(28,AV.tup [AV.agg [iv (vCmp 6 x z).fst.kind,iv (vCmp 6 x z).fst.int,sv (vCmp 6 x z).fst.text],iv (vCmp 6 x z).snd]),(29,AV.agg [iv (vCmp 6 x z).fst.kind,iv (vCmp 6 x z).fst.int,sv (vCmp 6 x z).fst.text]),(30,iv (vCmp 6 x z).snd)] [Blk.box [iv 0,iv 0,sv (ByteArray.mk #[])],Blk.box [iv (vCmp 6 y x).fst.kind,iv (vCmp 6 y x).fst.int,sv (vCmp 6 y x).fst.text],Blk.box [iv (vCmp 6 x z).fst.kind,iv (vCmp 6 x z).fst.int,sv (vCmp 6 x z).fst.text]],sb h2] kr
 ·exact wk At.evaluate_between [sdm [(1,[se (xs:=[[iv x.kind,iv x.int,sv x.text],[iv y.kind,iv y.int,sv y.text],[iv z.kind,iv z.int,sv z.text]]) (i:=1) (c:=[iv y.kind,iv y.int,sv y.text]) (n:=3) ⟨by decide,rfl,rfl⟩]),(4,[se (xs:=[[iv x.kind,iv x.int,sv x.text],[iv y.kind,iv y.int,sv y.text],[iv z.kind,iv z.int,sv z.text]]) (i:=0) (c:=[iv x.kind,iv x.int,sv x.text]) (n:=3) ⟨by decide,rfl,rfl⟩]),(6,[sc (zbo 6 y x zh2)])] 0 [(0,AV.sl [[iv x.kind,iv x.int,sv x.text],[iv y.kind,iv y.int,sv y.text],[iv z.kind,iv z.int,sv z.text]]),(2,AV.p 0 0),(3,iv 0),(4,AV.p 1 0),(5,iv (vCmp 6 y x).snd),(7,AV.tup [AV.agg [iv (vCmp 6 y x).fst.kind,iv (vCmp 6 y x).fst.int,sv (vCmp 6 y x).fst.text],iv (vCmp 6 y x).snd]),(8,AV.sl [[iv x.kind,iv x.int,sv x.text],[iv y.kind,iv y.int,sv y.text],[iv z.kind,iv z.int,sv z.text]]),(9,AV.dp [iv y.kind,iv y.int,sv y.text]),(10,AV.agg [iv y.kind,iv y.int,sv y.text]),(11,AV.sl [[iv x.kind,iv x.int,sv x.text],[iv y.kind,iv y.int,sv y.text],[iv z.kind,iv z.int,sv z.text]]),(12,AV.dp [iv x.kind,iv x.int,sv x.text]),(13,AV.agg [iv x.kind,iv x.int,sv x.text]),(14,AV.tup [AV.agg [iv (vCmp 6 y x).fst.kind,iv (vCmp 6 y x).fst.int,sv (vCmp 6 y x).fst.text],iv (vCmp 6 y x).snd]),(15,AV.agg [iv (vCmp 6 y x).fst.kind,iv (vCmp 6 y x).fst.int,sv (vCmp 6 y x).fst.text]),(16,iv (vCmp 6 y x).snd)] [Blk.box [iv 0,iv 0,sv (ByteArray.mk #[])],Blk.box [iv (vCmp 6 y x).fst.kind,iv (vCmp 6 y x).fst.int,sv (vCmp 6 y x).fst.text]],sb h1] kr
def zkw (op:Int) (nt:Bool) (a:V):V × Int :=
 (V.mk (2:Int) (if (!(a.kind==(0:Int))==nt)=true then (1:Int) else (0:Int)) (ByteArray.mk #[]),0)
theorem zeB (op:Int) (nt:Bool) (a:V) (val:V) (tn nm:Str) (xs:List X) (qs:List Qy) :zaa E0 S.evaluate_operation [X.av (.mk 6 op nt val tn nm xs qs),vsl [a]] [] (.tup [(zkw op nt a).1.av,iv (zkw op nt a).2]) []:=by
 exact wk At.evaluate_operation [sb (rfl:true=true),sd [(1,[se (xs:=[[iv a.kind,iv a.int,sv a.text]]) (i:=0) (c:=[iv a.kind,iv a.int,sv a.text]) (n:=3) ⟨by decide,rfl,rfl⟩]),(3,[sc (zae a)]),(7,[sc (zbl (!(a.kind==0)==nt))])]] kr
def zqP (op:Int) (nt:Bool) (a:V):V × Int :=
 ((zcF (lnot a).fst (lnot a).snd).fst,(zcF (lnot a).fst (lnot a).snd).snd)
theorem zfj (op:Int) (nt:Bool) (a:V) (val:V) (tn nm:Str) (xs:List X) (qs:List Qy) (ha:a.small):zaa E0 S.evaluate_operation [X.av (.mk 3 op nt val tn nm xs qs),vsl [a]] [] (.tup [(zqP op nt a).1.av,iv (zqP op nt a).2]) []:=by
 exact wk At.evaluate_operation [sb (rfl:false=false),sb (rfl:true=true),se (xs:=[[iv a.kind,iv a.int,sv a.text]]) (i:=0) (c:=[iv a.kind,iv a.int,sv a.text]) (n:=3) ⟨by decide,rfl,rfl⟩,sc (zeP a zjG),sc (zcL ((lnot a).fst) ((lnot a).snd))] kr
def zqa (op:Int) (nt:Bool) (a:V):V × Int :=
 ((zd8 10 (V.mk 1 0 (ByteArray.mk #[])) a).fst,(zd8 10 (V.mk 1 0 (ByteArray.mk #[])) a).snd)
theorem zfq (op:Int) (nt:Bool) (a:V) (val:V) (tn nm:Str) (xs:List X) (qs:List Qy) :zaa E0 S.evaluate_operation [X.av (.mk 4 op nt val tn nm xs qs),vsl [a]] [] (.tup [(zqa op nt a).1.av,iv (zqa op nt a).2]) []:=by
 exact wk At.evaluate_operation [sb (rfl:false=false),sb (rfl:false=false),sb (rfl:false=false),sb (rfl:true=true),sd [(2,[se (xs:=[[iv a.kind,iv a.int,sv a.text]]) (i:=0) (c:=[iv a.kind,iv a.int,sv a.text]) (n:=3) ⟨by decide,rfl,rfl⟩]),(0,[sc (zaS 0)]),(4,[sc (zdP 10 (V.mk 1 0 (ByteArray.mk #[])) a)])]] kr
def zm2 (op:Int) (nt:Bool) (a b c:V):V × Int :=
 ((zez a b c).fst,(zez a b c).snd)
theorem zfx (op:Int) (nt:Bool) (a b c:V) (val:V) (tn nm:Str) (xs:List X) (qs:List Qy) :zaa E0 S.evaluate_operation [X.av (.mk 7 op nt val tn nm xs qs),vsl [a,b,c]] [] (.tup [(zm2 op nt a b c).1.av,iv (zm2 op nt a b c).2]) []:=by
 exact wk At.evaluate_operation [sb (rfl:false=false),sb (rfl:false=false),sb (rfl:true=true),sc (zi3 a b c)] kr
def zkD (op:Int) (nt:Bool) (a b:V):V × Int :=
 bif op==2 then
  ((zcF (land a b).fst (land a b).snd).fst,(zcF (land a b).fst (land a b).snd).snd)
 else
  bif op==1 then
   ((zcF (lor a b).fst (lor a b).snd).fst,(zcF (lor a b).fst (lor a b).snd).snd)
  else
   bif decide (op≤8) then
    ((vCmp op a b).fst,(vCmp op a b).snd)
   else
    ((zd8 op a b).fst,(zd8 op a b).snd)
theorem zfn (op:Int) (nt:Bool) (a b:V) (val:V) (tn nm:Str) (xs:List X) (qs:List Qy) (ha:a.small) (hb:b.small) (ho:1≤op∧op≤13):zaa E0 S.evaluate_operation [X.av (.mk 5 op nt val tn nm xs qs),vsl [a,b]] [] (.tup [(zkD op nt a b).1.av,iv (zkD op nt a b).2]) []:=by
 unfold zkD
 cases h1:op==2
 ·cases h2:op==1
  ·cases h3:decide (op≤8)
   ·exact wk At.evaluate_operation [sb (rfl:false=false),sb (rfl:false=false),sb (rfl:false=false),sb (rfl:false=false),sb h1,sb h2,sb h3,sd [(3,[se (xs:=[[iv a.kind,iv a.int,sv a.text],[iv b.kind,iv b.int,sv b.text]]) (i:=0) (c:=[iv a.kind,iv a.int,sv a.text]) (n:=3) ⟨by decide,rfl,rfl⟩]),(6,[se (xs:=[[iv a.kind,iv a.int,sv a.text],[iv b.kind,iv b.int,sv b.text]]) (i:=1) (c:=[iv b.kind,iv b.int,sv b.text]) (n:=3) ⟨by decide,rfl,rfl⟩]),(8,[sc (zdP op a b)])]] kr
   ·exact wk At.evaluate_operation [sb (rfl:false=false),sb (rfl:false=false),sb (rfl:false=false),sb (rfl:false=false),sb h1,sb h2,sb h3,sd [(3,[se (xs:=[[iv a.kind,iv a.int,sv a.text],[iv b.kind,iv b.int,sv b.text]]) (i:=0) (c:=[iv a.kind,iv a.int,sv a.text]) (n:=3) ⟨by decide,rfl,rfl⟩]),(6,[se (xs:=[[iv a.kind,iv a.int,sv a.text],[iv b.kind,iv b.int,sv b.text]]) (i:=1) (c:=[iv b.kind,iv b.int,sv b.text]) (n:=3) ⟨by decide,rfl,rfl⟩]),(8,[sc (zbo op a b zjG)])]] kr
  ·exact wk At.evaluate_operation [sb (rfl:false=false),sb (rfl:false=false),sb (rfl:false=false),sb (rfl:false=false),sb h1,sb h2,sd [(1,[se (xs:=[[iv a.kind,iv a.int,sv a.text],[iv b.kind,iv b.int,sv b.text]]) (i:=0) (c:=[iv a.kind,iv a.int,sv a.text]) (n:=3) ⟨by decide,rfl,rfl⟩]),(4,[se (xs:=[[iv a.kind,iv a.int,sv a.text],[iv b.kind,iv b.int,sv b.text]]) (i:=1) (c:=[iv b.kind,iv b.int,sv b.text]) (n:=3) ⟨by decide,rfl,rfl⟩]),(6,[sc (zqO a b zjG zjG)]),(9,[sc (zcL ((lor a b).fst) ((lor a b).snd))])]] kr
 ·exact wk At.evaluate_operation [sb (rfl:false=false),sb (rfl:false=false),sb (rfl:false=false),sb (rfl:false=false),sb h1,sd [(1,[se (xs:=[[iv a.kind,iv a.int,sv a.text],[iv b.kind,iv b.int,sv b.text]]) (i:=0) (c:=[iv a.kind,iv a.int,sv a.text]) (n:=3) ⟨by decide,rfl,rfl⟩]),(4,[se (xs:=[[iv a.kind,iv a.int,sv a.text],[iv b.kind,iv b.int,sv b.text]]) (i:=1) (c:=[iv b.kind,iv b.int,sv b.text]) (n:=3) ⟨by decide,rfl,rfl⟩]),(6,[sc (zkb a b zjG zjG)]),(9,[sc (zcL ((land a b).fst) ((land a b).snd))])]] kr
end Go.AM
namespace Go.AM
set_option maxRecDepth 100000
set_option linter.unusedSimpArgs false
set_option linter.unusedVariables false
abbrev zad {α:Type} (l:List α):Prop:=l.length≤1000000000
def idxF {α:Type} (p:α→Bool):List α→Nat→Int
 | [],_=>-1
 | x::r,i=>bif p x then (i:Int) else idxF p r (i+1)
theorem zg1 {α:Type} (p:α→Bool):∀ (l:List α) (i:Nat),(idxF p l i=-1∧l.find? p=none)∨∃ (j:Nat) (x:α),idxF p l i=((i+j:Nat):Int)∧l[j]?=some x∧l.find? p=some x
 | [],i=>.inl ⟨rfl,rfl⟩
 | x::r,i=>by
  cases hp:p x
  ·rcases zg1 p r (i+1) with ⟨h1,h2⟩|⟨j,y,h1,h2,h3⟩
   ·exact .inl ⟨by simp [idxF,hp,h1],by simp [hp,h2]⟩
   ·exact .inr ⟨j+1,y,by simp only [idxF,hp,cond_false,h1];omega,by simpa using h2,by simp [hp,h3]⟩
  ·exact .inr ⟨0,x,by simp [idxF,hp],by simp,by simp [hp]⟩
def zaL (t:Tb) (n:Str):Bool :=
 ByteArray.toList t.sch.name==ByteArray.toList n
theorem zeZ (t:Tb) (n:Str) :zaa E0 S.evaluate_find_c1 [t.av,.p 0 0] [.box [sv n]] (bv (zaL t n)) [.box [sv n]]:=by
 exact walkH E0ok mix0 At.evaluate_find_c1 rfl kr kr 3000 (y:=AV.v (Value.bool (ByteArray.toList t.sch.name==ByteArray.toList n))) (H:=[Blk.box [AV.v (Value.string n)]]) [] kr (⟨rfl,rfl⟩)
def colC (t:Col) (n:Str):Bool :=
 ByteArray.toList t.name==ByteArray.toList n
theorem zf4 (t:Col) (n:Str) :zaa E0 S.schema_Find_c1 [.agg t.cells,.p 0 0] [.box [sv n]] (bv (colC t n)) [.box [sv n]]:=by
 exact walkH E0ok mix0 At.schema_Find_c1 rfl kr kr 3000 (y:=AV.v (Value.bool (ByteArray.toList t.name==ByteArray.toList n))) (H:=[Blk.box [AV.v (Value.string n)]]) [] kr (⟨rfl,rfl⟩)
noncomputable def zqb (tb:List Tb) (n:Str) (i:Nat):Cfg:=zan B.slices_IndexFunc_Table 0 [(0,.sl (tb.map Tb.cells)),(1,.fn S.evaluate_find_c1 [.p 0 0]),(7,iv ((tb.map Tb.cells).length:Nat)),(8,iv (i:Nat))] [.box [sv n]]
theorem zqr (tb:List Tb) (n:Str) (hl:zad tb):∀ (k i:Nat),i+k=tb.length→Good E0 B.slices_IndexFunc_Table [.box [sv n]] (zqb tb n i) (Shut 1 fun r h=>r=iv (idxF (fun t=>zaL t n) (tb.drop i) i)∧h=[.box [sv n]]):=by
 intro k
 induction k with
 | zero =>
  intro i hi
  refine zab ?_
  have h0:decide ((i:Int) < (((tb.map Tb.cells).length:Nat):Int))=false:=by simp;omega
  have e0:tb.drop i=[]:=List.drop_of_length_le (by omega)
  rw [e0]
  exact zeR E0ok mix0 3000 (y:=AV.v (Value.int IntKind.i64 (-1:Int))) (H:=[Blk.box [AV.v (Value.string n)]]) [sb h0] kr (⟨rfl,rfl⟩)
 | succ k ih =>
  intro i hi
  have ih:=ih (i+1) (by omega)
  obtain ⟨x,hx⟩:=zaz (l:=tb) (i:=i) (by omega)
  have h0:decide ((i:Int) < (((tb.map Tb.cells).length:Nat):Int))=true:=by simp;omega
  have hw:=zak i (by omega)
  rw [za8 hx]
  simp only [idxF]
  refine zab ?_
  cases h1:zaL x n
  ·exact zcm E0ok mix0 3000 (c':=zqb tb n (i+(1:Nat))) [sb h0,se (zah Tb.cells hx rfl),sl [(0:Nat)] (zeZ x n),sb h1,si hw] [0,1,7,8] 1 kr kr (by simpa only [cond_true,cond_false,h1] using ih)
  ·exact zeR E0ok mix0 3000 (y:=AV.v (Value.int IntKind.i64 (i:Int))) (H:=[Blk.box [AV.v (Value.string n)]]) [sb h0,se (zah Tb.cells hx rfl),sl [(0:Nat)] (zeZ x n),sb h1] kr (⟨by simp only [cond_true,cond_false,h1],rfl⟩)
theorem zdc (tb:List Tb) (n:Str) (hl:zad tb):zaa E0 S.slices_IndexFunc_Table [.sl (tb.map Tb.cells),.fn S.evaluate_find_c1 [.p 0 0]] [.box [sv n]] (iv (idxF (fun t=>zaL t n) tb 0)) [.box [sv n]]:=by
 exact zf7 E0ok mix0 At.slices_IndexFunc_Table rfl kr kr 3000 (c':=zqb tb n (0:Nat)) [] [0,1,7,8] 1 kr kr (by simpa using zqr tb n hl tb.length 0 (by simp))
noncomputable def zqh (tb:List Col) (n:Str) (i:Nat):Cfg:=zan B.slices_IndexFunc_Column 0 [(0,.sl (tb.map Col.cells)),(1,.fn S.schema_Find_c1 [.p 0 0]),(7,iv ((tb.map Col.cells).length:Nat)),(8,iv (i:Nat))] [.box [sv n]]
theorem zqK (tb:List Col) (n:Str) (hl:zad tb):∀ (k i:Nat),i+k=tb.length→Good E0 B.slices_IndexFunc_Column [.box [sv n]] (zqh tb n i) (Shut 1 fun r h=>r=iv (idxF (fun t=>colC t n) (tb.drop i) i)∧h=[.box [sv n]]):=by
 intro k
 induction k with
 | zero =>
  intro i hi
  refine zab ?_
  have h0:decide ((i:Int) < (((tb.map Col.cells).length:Nat):Int))=false:=by simp;omega
  have e0:tb.drop i=[]:=List.drop_of_length_le (by omega)
  rw [e0]
  exact zeR E0ok mix0 3000 (y:=AV.v (Value.int IntKind.i64 (-1:Int))) (H:=[Blk.box [AV.v (Value.string n)]]) [sb h0] kr (⟨rfl,rfl⟩)
 | succ k ih =>
  intro i hi
  have ih:=ih (i+1) (by omega)
  obtain ⟨x,hx⟩:=zaz (l:=tb) (i:=i) (by omega)
  have h0:decide ((i:Int) < (((tb.map Col.cells).length:Nat):Int))=true:=by simp;omega
  have hw:=zak i (by omega)
  rw [za8 hx]
  simp only [idxF]
  refine zab ?_
  cases h1:colC x n
  ·exact zcm E0ok mix0 3000 (c':=zqh tb n (i+(1:Nat))) [sb h0,se (zah Col.cells hx rfl),sl [(0:Nat)] (zf4 x n),sb h1,si hw] [0,1,7,8] 1 kr kr (by simpa only [cond_true,cond_false,h1] using ih)
  ·exact zeR E0ok mix0 3000 (y:=AV.v (Value.int IntKind.i64 (i:Int))) (H:=[Blk.box [AV.v (Value.string n)]]) [sb h0,se (zah Col.cells hx rfl),sl [(0:Nat)] (zf4 x n),sb h1] kr (⟨by simp only [cond_true,cond_false,h1],rfl⟩)
theorem zfv (tb:List Col) (n:Str) (hl:zad tb):zaa E0 S.slices_IndexFunc_Column [.sl (tb.map Col.cells),.fn S.schema_Find_c1 [.p 0 0]] [.box [sv n]] (iv (idxF (fun t=>colC t n) tb 0)) [.box [sv n]]:=by
 exact zf7 E0ok mix0 At.slices_IndexFunc_Column rfl kr kr 3000 (c':=zqh tb n (0:Nat)) [] [0,1,7,8] 1 kr kr (by simpa using zqK tb n hl tb.length 0 (by simp))
def zbX (tb:List Tb) (n:Str):Option Tb:=tb.find? fun t=>zaL t n
theorem ziO (tb:List Tb) (n:Str) (hl:zad tb) (t:Tb) (h:zbX tb n=some t):Pure S.evaluate_find [tsl tb,sv n] (.tup [t.av,bv true]):=by
 have hk:=zdc tb n hl
 rcases zg1 (fun t=>zaL t n) tb 0 with ⟨_,h2⟩|⟨j,y,h1,hx,h3⟩
 ·rw [zbX,h2] at h;cases h
 rw [zbX,h3] at h
 cases h
 rw [Nat.zero_add] at h1
 rw [h1] at hk
 have h4:decide (((j:Nat):Int) < 0)=false:=by simp
 exact walk E0ok mix0 At.evaluate_find rfl kr kr 3000 (y:=AV.tup [AV.agg [AV.v (Value.string t.sch.name),AV.sl (List.map Col.cells t.sch.cols),AV.v (Value.int IntKind.i64 t.next),AV.sl (List.map Rw.cells t.rows)],AV.v (Value.bool true)]) [sl [(0:Nat)] (hk ),sb (rfl:false=false),se (zah Tb.cells hx rfl)] kr (rfl)
def Tb.zero:Tb:=⟨⟨⟨#[]⟩,[]⟩,0,[]⟩
theorem zjc (tb:List Tb) (n:Str) (hl:zad tb) (h:zbX tb n=none):Pure S.evaluate_find [tsl tb,sv n] (.tup [Tb.zero.av,bv false]):=by
 have hk:=zdc tb n hl
 rcases zg1 (fun t=>zaL t n) tb 0 with ⟨h1,_⟩|⟨j,y,h1,hx,h3⟩
 ·rw [h1] at hk
  exact walk E0ok mix0 At.evaluate_find rfl kr kr 3000 (y:=AV.tup [AV.agg [AV.v (Value.string (ByteArray.mk #[])),AV.sl [],AV.v (Value.int IntKind.i64 (0:Int)),AV.sl []],AV.v (Value.bool false)]) [sl [(0:Nat)] (hk ),sb (rfl:true=true)] kr (rfl)
 ·rw [zbX,h3] at h;cases h
theorem zbC (s:Sch) (n:Str) (hl:zad s.cols):Pure S.schema_Find [s.av,sv n] (iv (idxF (fun c=>colC c n) s.cols 0)):=by
 exact walk E0ok mix0 At.schema_Find rfl kr kr 3000 (y:=AV.v (Value.int IntKind.i64 (idxF (fun t=>colC t n) s.cols (0:Nat)))) [sl [(1:Nat)] (zfv s.cols n (by first|assumption|(simp;done)|omega|(simp;omega)))] kr (rfl)
def zau (kind op:Int) (xs:List X) (qs:List Qy) (it wh:List X):Bool :=
 bif kind==(1:Int) then
  bif (↑(zac xs).length:Int) != (0:Int) then
   false
  else
   bif (↑(zaf qs).length:Int) != (0:Int) then
    false
   else
    true
 else
  bif kind==(2:Int) then
   bif (↑(zac xs).length:Int) != (0:Int) then
    false
   else
    bif (↑(zaf qs).length:Int) != (0:Int) then
     false
    else
     true
  else
   bif kind==(3:Int) then
    bif (↑(zac xs).length:Int) != (1:Int) then
     false
    else
     bif (↑(zaf qs).length:Int) != (0:Int) then
      false
     else
      true
   else
    bif kind==(4:Int) then
     bif (↑(zac xs).length:Int) != (1:Int) then
      false
     else
      bif (↑(zaf qs).length:Int) != (0:Int) then
       false
      else
       true
    else
     bif kind==(6:Int) then
      bif (↑(zac xs).length:Int) != (1:Int) then
       false
      else
       bif (↑(zaf qs).length:Int) != (0:Int) then
        false
       else
        true
     else
      bif kind==(5:Int) then
       bif decide (op < (1:Int)) then
        false
       else
        bif decide ((13:Int) < op) then
         false
        else
         bif (↑(zac xs).length:Int) != (2:Int) then
          false
         else
          bif (↑(zaf qs).length:Int) != (0:Int) then
           false
          else
           true
      else
       bif kind==(7:Int) then
        bif (↑(zac xs).length:Int) != (3:Int) then
         false
        else
         bif (↑(zaf qs).length:Int) != (0:Int) then
          false
         else
          true
       else
        bif kind==(8:Int) then
         bif (↑(zac xs).length:Int) != (0:Int) then
          false
         else
          bif (↑(zaf qs).length:Int) != (1:Int) then
           false
          else
           bif (↑(zac it).length:Int)==(0:Int) then
            decide ((↑(zac wh).length:Int)≤(1:Int))
           else
            false
        else
         bif kind==(9:Int) then
          bif (↑(zac xs).length:Int) != (0:Int) then
           false
          else
           bif (↑(zaf qs).length:Int) != (1:Int) then
            false
           else
            bif (↑(zac it).length:Int)==(0:Int) then
             decide ((↑(zac wh).length:Int)≤(1:Int))
            else
             false
         else
          bif kind==(10:Int) then
           bif (↑(zac xs).length:Int) != (0:Int) then
            false
           else
            bif (↑(zaf qs).length:Int) != (1:Int) then
             false
            else
             bif (↑(zac it).length:Int)==(1:Int) then
              decide ((↑(zac wh).length:Int)≤(1:Int))
             else
              false
          else
           bif kind==(11:Int) then
            bif (↑(zac xs).length:Int) != (0:Int) then
             false
            else
             bif (↑(zaf qs).length:Int) != (1:Int) then
              false
             else
              bif (↑(zac it).length:Int)==(1:Int) then
               decide ((↑(zac wh).length:Int)≤(1:Int))
              else
               false
           else
            bif kind==(12:Int) then
             bif (↑(zac xs).length:Int) != (0:Int) then
              false
             else
              bif (↑(zaf qs).length:Int) != (1:Int) then
               false
              else
               bif (↑(zac it).length:Int)==(1:Int) then
                decide ((↑(zac wh).length:Int)≤(1:Int))
               else
                false
            else
             false
theorem zjR (kind op:Int) (xs:List X) (qs:List Qy) (it wh:List X) (nt:Bool) (val:V) (tn nm:Str) (st:Bool) (fm:Str) (hq:qs[0]?=some (Qy.mk st it fm wh)):zaa E0 S.scope_Formed [X.av (.mk kind op nt val tn nm xs qs)] [] (bv (zau kind op xs qs it wh)) []:=by
 cases h1:kind==(1:Int)
 ·cases h2:kind==(2:Int)
  ·cases h3:kind==(3:Int)
   ·cases h4:kind==(4:Int)
    ·cases h5:kind==(6:Int)
     ·cases h6:kind==(5:Int)
      ·cases h7:kind==(7:Int)
       ·cases h8:kind==(8:Int)
        ·cases h9:kind==(9:Int)
         ·cases h10:kind==(10:Int)
          ·cases h11:kind==(11:Int)
           ·cases h12:kind==(12:Int)
            ·exact walk E0ok mix0 At.scope_Formed rfl kr kr 3000 (y:=AV.v (Value.bool false)) [sb h1,sb h2,sb h3,sb h4,sb h5,sb h6,sb h7,sb h8,sb h9,sb h10,sb h11,sb h12] kr (by simp only [zau,cond_true,cond_false,h1,h2,h3,h4,h5,h6,h7,h8,h9,h10,h11,h12] <;> rfl)
            ·cases h13:(↑(zac xs).length:Int) != (0:Int)
             ·cases h14:(↑(zaf qs).length:Int) != (1:Int)
              ·cases h15:(↑(zac it).length:Int)==(1:Int)
               ·exact walk E0ok mix0 At.scope_Formed rfl kr kr 3000 (y:=AV.v (Value.bool false)) [sb h1,sb h2,sb h3,sb h4,sb h5,sb h6,sb h7,sb h8,sb h9,sb h10,sb h11,sb h12,sg h13,sb h14,sg (rfl:false=false),se (zaO hq),sb h15] kr (by simp only [zau,cond_true,cond_false,h1,h2,h3,h4,h5,h6,h7,h8,h9,h10,h11,h12,h13,h14,h15] <;> rfl)
               ·exact walk E0ok mix0 At.scope_Formed rfl kr kr 3000 (y:=AV.v (Value.bool (decide ((↑(zac wh).length:Int)≤(1:Int))))) [sb h1,sb h2,sb h3,sb h4,sb h5,sb h6,sb h7,sb h8,sb h9,sb h10,sb h11,sb h12,sg h13,sb h14,sg (rfl:false=false),se (zaO hq),sg h15,se (zaO hq)] kr (by simp only [zau,cond_true,cond_false,h1,h2,h3,h4,h5,h6,h7,h8,h9,h10,h11,h12,h13,h14,h15] <;> rfl)
              ·exact walk E0ok mix0 At.scope_Formed rfl kr kr 3000 (y:=AV.v (Value.bool false)) [sb h1,sb h2,sb h3,sb h4,sb h5,sb h6,sb h7,sb h8,sb h9,sb h10,sb h11,sb h12,sg h13,sb h14] kr (by simp only [zau,cond_true,cond_false,h1,h2,h3,h4,h5,h6,h7,h8,h9,h10,h11,h12,h13,h14] <;> rfl)
             ·exact walk E0ok mix0 At.scope_Formed rfl kr kr 3000 (y:=AV.v (Value.bool false)) [sb h1,sb h2,sb h3,sb h4,sb h5,sb h6,sb h7,sb h8,sb h9,sb h10,sb h11,sb h12,sb h13] kr (by simp only [zau,cond_true,cond_false,h1,h2,h3,h4,h5,h6,h7,h8,h9,h10,h11,h12,h13] <;> rfl)
           ·cases h16:(↑(zac xs).length:Int) != (0:Int)
            ·cases h17:(↑(zaf qs).length:Int) != (1:Int)
             ·cases h18:(↑(zac it).length:Int)==(1:Int)
              ·exact walk E0ok mix0 At.scope_Formed rfl kr kr 3000 (y:=AV.v (Value.bool false)) [sb h1,sb h2,sb h3,sb h4,sb h5,sb h6,sb h7,sb h8,sb h9,sb h10,sb h11,sg h16,sb h17,sg (rfl:false=false),se (zaO hq),sb h18] kr (by simp only [zau,cond_true,cond_false,h1,h2,h3,h4,h5,h6,h7,h8,h9,h10,h11,h16,h17,h18] <;> rfl)
              ·exact walk E0ok mix0 At.scope_Formed rfl kr kr 3000 (y:=AV.v (Value.bool (decide ((↑(zac wh).length:Int)≤(1:Int))))) [sb h1,sb h2,sb h3,sb h4,sb h5,sb h6,sb h7,sb h8,sb h9,sb h10,sb h11,sg h16,sb h17,sg (rfl:false=false),se (zaO hq),sg h18,se (zaO hq)] kr (by simp only [zau,cond_true,cond_false,h1,h2,h3,h4,h5,h6,h7,h8,h9,h10,h11,h16,h17,h18] <;> rfl)
             ·exact walk E0ok mix0 At.scope_Formed rfl kr kr 3000 (y:=AV.v (Value.bool false)) [sb h1,sb h2,sb h3,sb h4,sb h5,sb h6,sb h7,sb h8,sb h9,sb h10,sb h11,sg h16,sb h17] kr (by simp only [zau,cond_true,cond_false,h1,h2,h3,h4,h5,h6,h7,h8,h9,h10,h11,h16,h17] <;> rfl)
            ·exact walk E0ok mix0 At.scope_Formed rfl kr kr 3000 (y:=AV.v (Value.bool false)) [sb h1,sb h2,sb h3,sb h4,sb h5,sb h6,sb h7,sb h8,sb h9,sb h10,sb h11,sb h16] kr (by simp only [zau,cond_true,cond_false,h1,h2,h3,h4,h5,h6,h7,h8,h9,h10,h11,h16] <;> rfl)
          ·cases h19:(↑(zac xs).length:Int) != (0:Int)
           ·cases h20:(↑(zaf qs).length:Int) != (1:Int)
            ·cases h21:(↑(zac it).length:Int)==(1:Int)
             ·exact walk E0ok mix0 At.scope_Formed rfl kr kr 3000 (y:=AV.v (Value.bool false)) [sb h1,sb h2,sb h3,sb h4,sb h5,sb h6,sb h7,sb h8,sb h9,sb h10,sg h19,sb h20,sg (rfl:false=false),se (zaO hq),sb h21] kr (by simp only [zau,cond_true,cond_false,h1,h2,h3,h4,h5,h6,h7,h8,h9,h10,h19,h20,h21] <;> rfl)
             ·exact walk E0ok mix0 At.scope_Formed rfl kr kr 3000 (y:=AV.v (Value.bool (decide ((↑(zac wh).length:Int)≤(1:Int))))) [sb h1,sb h2,sb h3,sb h4,sb h5,sb h6,sb h7,sb h8,sb h9,sb h10,sg h19,sb h20,sg (rfl:false=false),se (zaO hq),sg h21,se (zaO hq)] kr (by simp only [zau,cond_true,cond_false,h1,h2,h3,h4,h5,h6,h7,h8,h9,h10,h19,h20,h21] <;> rfl)
            ·exact walk E0ok mix0 At.scope_Formed rfl kr kr 3000 (y:=AV.v (Value.bool false)) [sb h1,sb h2,sb h3,sb h4,sb h5,sb h6,sb h7,sb h8,sb h9,sb h10,sg h19,sb h20] kr (by simp only [zau,cond_true,cond_false,h1,h2,h3,h4,h5,h6,h7,h8,h9,h10,h19,h20] <;> rfl)
           ·exact walk E0ok mix0 At.scope_Formed rfl kr kr 3000 (y:=AV.v (Value.bool false)) [sb h1,sb h2,sb h3,sb h4,sb h5,sb h6,sb h7,sb h8,sb h9,sb h10,sb h19] kr (by simp only [zau,cond_true,cond_false,h1,h2,h3,h4,h5,h6,h7,h8,h9,h10,h19] <;> rfl)
         ·cases h22:(↑(zac xs).length:Int) != (0:Int)
          ·cases h23:(↑(zaf qs).length:Int) != (1:Int)
           ·cases h24:(↑(zac it).length:Int)==(0:Int)
            ·exact walk E0ok mix0 At.scope_Formed rfl kr kr 3000 (y:=AV.v (Value.bool false)) [sb h1,sb h2,sb h3,sb h4,sb h5,sb h6,sb h7,sb h8,sb h9,sg h22,sb h23,sg (rfl:false=false),se (zaO hq),sb h24] kr (by simp only [zau,cond_true,cond_false,h1,h2,h3,h4,h5,h6,h7,h8,h9,h22,h23,h24] <;> rfl)
            ·exact walk E0ok mix0 At.scope_Formed rfl kr kr 3000 (y:=AV.v (Value.bool (decide ((↑(zac wh).length:Int)≤(1:Int))))) [sb h1,sb h2,sb h3,sb h4,sb h5,sb h6,sb h7,sb h8,sb h9,sg h22,sb h23,sg (rfl:false=false),se (zaO hq),sg h24,se (zaO hq)] kr (by simp only [zau,cond_true,cond_false,h1,h2,h3,h4,h5,h6,h7,h8,h9,h22,h23,h24] <;> rfl)
           ·exact walk E0ok mix0 At.scope_Formed rfl kr kr 3000 (y:=AV.v (Value.bool false)) [sb h1,sb h2,sb h3,sb h4,sb h5,sb h6,sb h7,sb h8,sb h9,sg h22,sb h23] kr (by simp only [zau,cond_true,cond_false,h1,h2,h3,h4,h5,h6,h7,h8,h9,h22,h23] <;> rfl)
          ·exact walk E0ok mix0 At.scope_Formed rfl kr kr 3000 (y:=AV.v (Value.bool false)) [sb h1,sb h2,sb h3,sb h4,sb h5,sb h6,sb h7,sb h8,sb h9,sb h22] kr (by simp only [zau,cond_true,cond_false,h1,h2,h3,h4,h5,h6,h7,h8,h9,h22] <;> rfl)
        ·cases h25:(↑(zac xs).length:Int) != (0:Int)
         ·cases h26:(↑(zaf qs).length:Int) != (1:Int)
          ·cases h27:(↑(zac it).length:Int)==(0:Int)
           ·exact walk E0ok mix0 At.scope_Formed rfl kr kr 3000 (y:=AV.v (Value.bool false)) [sb h1,sb h2,sb h3,sb h4,sb h5,sb h6,sb h7,sb h8,sg h25,sb h26,sg (rfl:false=false),se (zaO hq),sb h27] kr (by simp only [zau,cond_true,cond_false,h1,h2,h3,h4,h5,h6,h7,h8,h25,h26,h27] <;> rfl)
           ·exact walk E0ok mix0 At.scope_Formed rfl kr kr 3000 (y:=AV.v (Value.bool (decide ((↑(zac wh).length:Int)≤(1:Int))))) [sb h1,sb h2,sb h3,sb h4,sb h5,sb h6,sb h7,sb h8,sg h25,sb h26,sg (rfl:false=false),se (zaO hq),sg h27,se (zaO hq)] kr (by simp only [zau,cond_true,cond_false,h1,h2,h3,h4,h5,h6,h7,h8,h25,h26,h27] <;> rfl)
          ·exact walk E0ok mix0 At.scope_Formed rfl kr kr 3000 (y:=AV.v (Value.bool false)) [sb h1,sb h2,sb h3,sb h4,sb h5,sb h6,sb h7,sb h8,sg h25,sb h26] kr (by simp only [zau,cond_true,cond_false,h1,h2,h3,h4,h5,h6,h7,h8,h25,h26] <;> rfl)
         ·exact walk E0ok mix0 At.scope_Formed rfl kr kr 3000 (y:=AV.v (Value.bool false)) [sb h1,sb h2,sb h3,sb h4,sb h5,sb h6,sb h7,sb h8,sb h25] kr (by simp only [zau,cond_true,cond_false,h1,h2,h3,h4,h5,h6,h7,h8,h25] <;> rfl)
       ·cases h28:(↑(zac xs).length:Int) != (3:Int)
        ·cases h29:(↑(zaf qs).length:Int) != (0:Int)
         ·exact walk E0ok mix0 At.scope_Formed rfl kr kr 3000 (y:=AV.v (Value.bool true)) [sb h1,sb h2,sb h3,sb h4,sb h5,sb h6,sb h7,sg h28,sb h29,sb (rfl:true=true)] kr (by simp only [zau,cond_true,cond_false,h1,h2,h3,h4,h5,h6,h7,h28,h29] <;> rfl)
         ·exact walk E0ok mix0 At.scope_Formed rfl kr kr 3000 (y:=AV.v (Value.bool false)) [sb h1,sb h2,sb h3,sb h4,sb h5,sb h6,sb h7,sg h28,sb h29] kr (by simp only [zau,cond_true,cond_false,h1,h2,h3,h4,h5,h6,h7,h28,h29] <;> rfl)
        ·exact walk E0ok mix0 At.scope_Formed rfl kr kr 3000 (y:=AV.v (Value.bool false)) [sb h1,sb h2,sb h3,sb h4,sb h5,sb h6,sb h7,sb h28] kr (by simp only [zau,cond_true,cond_false,h1,h2,h3,h4,h5,h6,h7,h28] <;> rfl)
      ·cases h30:decide (op < (1:Int))
       ·cases h31:decide ((13:Int) < op)
        ·cases h32:(↑(zac xs).length:Int) != (2:Int)
         ·cases h33:(↑(zaf qs).length:Int) != (0:Int)
          ·exact walk E0ok mix0 At.scope_Formed rfl kr kr 3000 (y:=AV.v (Value.bool true)) [sb h1,sb h2,sb h3,sb h4,sb h5,sb h6,sg h30,sb h31,sg h32,sb h33,sb (rfl:true=true)] kr (by simp only [zau,cond_true,cond_false,h1,h2,h3,h4,h5,h6,h30,h31,h32,h33] <;> rfl)
          ·exact walk E0ok mix0 At.scope_Formed rfl kr kr 3000 (y:=AV.v (Value.bool false)) [sb h1,sb h2,sb h3,sb h4,sb h5,sb h6,sg h30,sb h31,sg h32,sb h33] kr (by simp only [zau,cond_true,cond_false,h1,h2,h3,h4,h5,h6,h30,h31,h32,h33] <;> rfl)
         ·exact walk E0ok mix0 At.scope_Formed rfl kr kr 3000 (y:=AV.v (Value.bool false)) [sb h1,sb h2,sb h3,sb h4,sb h5,sb h6,sg h30,sb h31,sb h32] kr (by simp only [zau,cond_true,cond_false,h1,h2,h3,h4,h5,h6,h30,h31,h32] <;> rfl)
        ·exact walk E0ok mix0 At.scope_Formed rfl kr kr 3000 (y:=AV.v (Value.bool false)) [sb h1,sb h2,sb h3,sb h4,sb h5,sb h6,sg h30,sb h31] kr (by simp only [zau,cond_true,cond_false,h1,h2,h3,h4,h5,h6,h30,h31] <;> rfl)
       ·exact walk E0ok mix0 At.scope_Formed rfl kr kr 3000 (y:=AV.v (Value.bool false)) [sb h1,sb h2,sb h3,sb h4,sb h5,sb h6,sb h30] kr (by simp only [zau,cond_true,cond_false,h1,h2,h3,h4,h5,h6,h30] <;> rfl)
     ·cases h34:(↑(zac xs).length:Int) != (1:Int)
      ·cases h35:(↑(zaf qs).length:Int) != (0:Int)
       ·exact walk E0ok mix0 At.scope_Formed rfl kr kr 3000 (y:=AV.v (Value.bool true)) [sb h1,sb h2,sb h3,sb h4,sb h5,sg h34,sb h35,sb (rfl:true=true)] kr (by simp only [zau,cond_true,cond_false,h1,h2,h3,h4,h5,h34,h35] <;> rfl)
       ·exact walk E0ok mix0 At.scope_Formed rfl kr kr 3000 (y:=AV.v (Value.bool false)) [sb h1,sb h2,sb h3,sb h4,sb h5,sg h34,sb h35] kr (by simp only [zau,cond_true,cond_false,h1,h2,h3,h4,h5,h34,h35] <;> rfl)
      ·exact walk E0ok mix0 At.scope_Formed rfl kr kr 3000 (y:=AV.v (Value.bool false)) [sb h1,sb h2,sb h3,sb h4,sb h5,sb h34] kr (by simp only [zau,cond_true,cond_false,h1,h2,h3,h4,h5,h34] <;> rfl)
    ·cases h36:(↑(zac xs).length:Int) != (1:Int)
     ·cases h37:(↑(zaf qs).length:Int) != (0:Int)
      ·exact walk E0ok mix0 At.scope_Formed rfl kr kr 3000 (y:=AV.v (Value.bool true)) [sb h1,sb h2,sb h3,sb h4,sg h36,sb h37,sb (rfl:true=true)] kr (by simp only [zau,cond_true,cond_false,h1,h2,h3,h4,h36,h37] <;> rfl)
      ·exact walk E0ok mix0 At.scope_Formed rfl kr kr 3000 (y:=AV.v (Value.bool false)) [sb h1,sb h2,sb h3,sb h4,sg h36,sb h37] kr (by simp only [zau,cond_true,cond_false,h1,h2,h3,h4,h36,h37] <;> rfl)
     ·exact walk E0ok mix0 At.scope_Formed rfl kr kr 3000 (y:=AV.v (Value.bool false)) [sb h1,sb h2,sb h3,sb h4,sb h36] kr (by simp only [zau,cond_true,cond_false,h1,h2,h3,h4,h36] <;> rfl)
   ·cases h38:(↑(zac xs).length:Int) != (1:Int)
    ·cases h39:(↑(zaf qs).length:Int) != (0:Int)
     ·exact walk E0ok mix0 At.scope_Formed rfl kr kr 3000 (y:=AV.v (Value.bool true)) [sb h1,sb h2,sb h3,sg h38,sb h39,sb (rfl:true=true)] kr (by simp only [zau,cond_true,cond_false,h1,h2,h3,h38,h39] <;> rfl)
     ·exact walk E0ok mix0 At.scope_Formed rfl kr kr 3000 (y:=AV.v (Value.bool false)) [sb h1,sb h2,sb h3,sg h38,sb h39] kr (by simp only [zau,cond_true,cond_false,h1,h2,h3,h38,h39] <;> rfl)
    ·exact walk E0ok mix0 At.scope_Formed rfl kr kr 3000 (y:=AV.v (Value.bool false)) [sb h1,sb h2,sb h3,sb h38] kr (by simp only [zau,cond_true,cond_false,h1,h2,h3,h38] <;> rfl)
  ·cases h40:(↑(zac xs).length:Int) != (0:Int)
   ·cases h41:(↑(zaf qs).length:Int) != (0:Int)
    ·exact walk E0ok mix0 At.scope_Formed rfl kr kr 3000 (y:=AV.v (Value.bool true)) [sb h1,sb h2,sg h40,sb h41,sb (rfl:true=true)] kr (by simp only [zau,cond_true,cond_false,h1,h2,h40,h41] <;> rfl)
    ·exact walk E0ok mix0 At.scope_Formed rfl kr kr 3000 (y:=AV.v (Value.bool false)) [sb h1,sb h2,sg h40,sb h41] kr (by simp only [zau,cond_true,cond_false,h1,h2,h40,h41] <;> rfl)
   ·exact walk E0ok mix0 At.scope_Formed rfl kr kr 3000 (y:=AV.v (Value.bool false)) [sb h1,sb h2,sb h40] kr (by simp only [zau,cond_true,cond_false,h1,h2,h40] <;> rfl)
 ·cases h42:(↑(zac xs).length:Int) != (0:Int)
  ·cases h43:(↑(zaf qs).length:Int) != (0:Int)
   ·exact walk E0ok mix0 At.scope_Formed rfl kr kr 3000 (y:=AV.v (Value.bool true)) [sb h1,sg h42,sb h43,sb (rfl:true=true)] kr (by simp only [zau,cond_true,cond_false,h1,h42,h43] <;> rfl)
   ·exact walk E0ok mix0 At.scope_Formed rfl kr kr 3000 (y:=AV.v (Value.bool false)) [sb h1,sg h42,sb h43] kr (by simp only [zau,cond_true,cond_false,h1,h42,h43] <;> rfl)
  ·exact walk E0ok mix0 At.scope_Formed rfl kr kr 3000 (y:=AV.v (Value.bool false)) [sb h1,sb h42] kr (by simp only [zau,cond_true,cond_false,h1,h42] <;> rfl)
def zaN (kind op:Int) (xs:List X):Bool :=
 bif kind==(1:Int) then
  bif (↑(zac xs).length:Int) != (0:Int) then
   false
  else
   true
 else
  bif kind==(2:Int) then
   bif (↑(zac xs).length:Int) != (0:Int) then
    false
   else
    true
  else
   bif kind==(3:Int) then
    bif (↑(zac xs).length:Int) != (1:Int) then
     false
    else
     true
   else
    bif kind==(4:Int) then
     bif (↑(zac xs).length:Int) != (1:Int) then
      false
     else
      true
    else
     bif kind==(6:Int) then
      bif (↑(zac xs).length:Int) != (1:Int) then
       false
      else
       true
     else
      bif kind==(5:Int) then
       bif decide (op < (1:Int)) then
        false
       else
        bif decide ((13:Int) < op) then
         false
        else
         bif (↑(zac xs).length:Int) != (2:Int) then
          false
         else
          true
      else
       bif kind==(7:Int) then
        bif (↑(zac xs).length:Int) != (3:Int) then
         false
        else
         true
       else
        bif kind==(8:Int) then
         bif (↑(zac xs).length:Int) != (0:Int) then
          false
         else
          false
        else
         bif kind==(9:Int) then
          bif (↑(zac xs).length:Int) != (0:Int) then
           false
          else
           false
         else
          bif kind==(10:Int) then
           bif (↑(zac xs).length:Int) != (0:Int) then
            false
           else
            false
          else
           bif kind==(11:Int) then
            bif (↑(zac xs).length:Int) != (0:Int) then
             false
            else
             false
           else
            bif kind==(12:Int) then
             bif (↑(zac xs).length:Int) != (0:Int) then
              false
             else
              false
            else
             false
theorem zjO (kind op:Int) (xs:List X) (nt:Bool) (val:V) (tn nm:Str):zaa E0 S.scope_Formed [X.av (.mk kind op nt val tn nm xs [])] [] (bv (zaN kind op xs)) []:=by
 cases h1:kind==(1:Int)
 ·cases h2:kind==(2:Int)
  ·cases h3:kind==(3:Int)
   ·cases h4:kind==(4:Int)
    ·cases h5:kind==(6:Int)
     ·cases h6:kind==(5:Int)
      ·cases h7:kind==(7:Int)
       ·cases h8:kind==(8:Int)
        ·cases h9:kind==(9:Int)
         ·cases h10:kind==(10:Int)
          ·cases h11:kind==(11:Int)
           ·cases h12:kind==(12:Int)
            ·exact walk E0ok mix0 At.scope_Formed rfl kr kr 3000 (y:=AV.v (Value.bool false)) [sb h1,sb h2,sb h3,sb h4,sb h5,sb h6,sb h7,sb h8,sb h9,sb h10,sb h11,sb h12] kr (by simp only [zaN,cond_true,cond_false,h1,h2,h3,h4,h5,h6,h7,h8,h9,h10,h11,h12] <;> rfl)
            ·cases h13:(↑(zac xs).length:Int) != (0:Int)
             ·exact walk E0ok mix0 At.scope_Formed rfl kr kr 3000 (y:=AV.v (Value.bool false)) [sb h1,sb h2,sb h3,sb h4,sb h5,sb h6,sb h7,sb h8,sb h9,sb h10,sb h11,sb h12,sg h13,sb (rfl:true=true)] kr (by simp only [zaN,cond_true,cond_false,h1,h2,h3,h4,h5,h6,h7,h8,h9,h10,h11,h12,h13] <;> rfl)
             ·exact walk E0ok mix0 At.scope_Formed rfl kr kr 3000 (y:=AV.v (Value.bool false)) [sb h1,sb h2,sb h3,sb h4,sb h5,sb h6,sb h7,sb h8,sb h9,sb h10,sb h11,sb h12,sb h13] kr (by simp only [zaN,cond_true,cond_false,h1,h2,h3,h4,h5,h6,h7,h8,h9,h10,h11,h12,h13] <;> rfl)
           ·cases h14:(↑(zac xs).length:Int) != (0:Int)
            ·exact walk E0ok mix0 At.scope_Formed rfl kr kr 3000 (y:=AV.v (Value.bool false)) [sb h1,sb h2,sb h3,sb h4,sb h5,sb h6,sb h7,sb h8,sb h9,sb h10,sb h11,sg h14,sb (rfl:true=true)] kr (by simp only [zaN,cond_true,cond_false,h1,h2,h3,h4,h5,h6,h7,h8,h9,h10,h11,h14] <;> rfl)
            ·exact walk E0ok mix0 At.scope_Formed rfl kr kr 3000 (y:=AV.v (Value.bool false)) [sb h1,sb h2,sb h3,sb h4,sb h5,sb h6,sb h7,sb h8,sb h9,sb h10,sb h11,sb h14] kr (by simp only [zaN,cond_true,cond_false,h1,h2,h3,h4,h5,h6,h7,h8,h9,h10,h11,h14] <;> rfl)
          ·cases h15:(↑(zac xs).length:Int) != (0:Int)
           ·exact walk E0ok mix0 At.scope_Formed rfl kr kr 3000 (y:=AV.v (Value.bool false)) [sb h1,sb h2,sb h3,sb h4,sb h5,sb h6,sb h7,sb h8,sb h9,sb h10,sg h15,sb (rfl:true=true)] kr (by simp only [zaN,cond_true,cond_false,h1,h2,h3,h4,h5,h6,h7,h8,h9,h10,h15] <;> rfl)
           ·exact walk E0ok mix0 At.scope_Formed rfl kr kr 3000 (y:=AV.v (Value.bool false)) [sb h1,sb h2,sb h3,sb h4,sb h5,sb h6,sb h7,sb h8,sb h9,sb h10,sb h15] kr (by simp only [zaN,cond_true,cond_false,h1,h2,h3,h4,h5,h6,h7,h8,h9,h10,h15] <;> rfl)
         ·cases h16:(↑(zac xs).length:Int) != (0:Int)
          ·exact walk E0ok mix0 At.scope_Formed rfl kr kr 3000 (y:=AV.v (Value.bool false)) [sb h1,sb h2,sb h3,sb h4,sb h5,sb h6,sb h7,sb h8,sb h9,sg h16,sb (rfl:true=true)] kr (by simp only [zaN,cond_true,cond_false,h1,h2,h3,h4,h5,h6,h7,h8,h9,h16] <;> rfl)
          ·exact walk E0ok mix0 At.scope_Formed rfl kr kr 3000 (y:=AV.v (Value.bool false)) [sb h1,sb h2,sb h3,sb h4,sb h5,sb h6,sb h7,sb h8,sb h9,sb h16] kr (by simp only [zaN,cond_true,cond_false,h1,h2,h3,h4,h5,h6,h7,h8,h9,h16] <;> rfl)
        ·cases h17:(↑(zac xs).length:Int) != (0:Int)
         ·exact walk E0ok mix0 At.scope_Formed rfl kr kr 3000 (y:=AV.v (Value.bool false)) [sb h1,sb h2,sb h3,sb h4,sb h5,sb h6,sb h7,sb h8,sg h17,sb (rfl:true=true)] kr (by simp only [zaN,cond_true,cond_false,h1,h2,h3,h4,h5,h6,h7,h8,h17] <;> rfl)
         ·exact walk E0ok mix0 At.scope_Formed rfl kr kr 3000 (y:=AV.v (Value.bool false)) [sb h1,sb h2,sb h3,sb h4,sb h5,sb h6,sb h7,sb h8,sb h17] kr (by simp only [zaN,cond_true,cond_false,h1,h2,h3,h4,h5,h6,h7,h8,h17] <;> rfl)
       ·cases h18:(↑(zac xs).length:Int) != (3:Int)
        ·exact walk E0ok mix0 At.scope_Formed rfl kr kr 3000 (y:=AV.v (Value.bool true)) [sb h1,sb h2,sb h3,sb h4,sb h5,sb h6,sb h7,sg h18,sb (rfl:false=false),sb (rfl:true=true)] kr (by simp only [zaN,cond_true,cond_false,h1,h2,h3,h4,h5,h6,h7,h18] <;> rfl)
        ·exact walk E0ok mix0 At.scope_Formed rfl kr kr 3000 (y:=AV.v (Value.bool false)) [sb h1,sb h2,sb h3,sb h4,sb h5,sb h6,sb h7,sb h18] kr (by simp only [zaN,cond_true,cond_false,h1,h2,h3,h4,h5,h6,h7,h18] <;> rfl)
      ·cases h19:decide (op < (1:Int))
       ·cases h20:decide ((13:Int) < op)
        ·cases h21:(↑(zac xs).length:Int) != (2:Int)
         ·exact walk E0ok mix0 At.scope_Formed rfl kr kr 3000 (y:=AV.v (Value.bool true)) [sb h1,sb h2,sb h3,sb h4,sb h5,sb h6,sg h19,sb h20,sg h21,sb (rfl:false=false),sb (rfl:true=true)] kr (by simp only [zaN,cond_true,cond_false,h1,h2,h3,h4,h5,h6,h19,h20,h21] <;> rfl)
         ·exact walk E0ok mix0 At.scope_Formed rfl kr kr 3000 (y:=AV.v (Value.bool false)) [sb h1,sb h2,sb h3,sb h4,sb h5,sb h6,sg h19,sb h20,sb h21] kr (by simp only [zaN,cond_true,cond_false,h1,h2,h3,h4,h5,h6,h19,h20,h21] <;> rfl)
        ·exact walk E0ok mix0 At.scope_Formed rfl kr kr 3000 (y:=AV.v (Value.bool false)) [sb h1,sb h2,sb h3,sb h4,sb h5,sb h6,sg h19,sb h20] kr (by simp only [zaN,cond_true,cond_false,h1,h2,h3,h4,h5,h6,h19,h20] <;> rfl)
       ·exact walk E0ok mix0 At.scope_Formed rfl kr kr 3000 (y:=AV.v (Value.bool false)) [sb h1,sb h2,sb h3,sb h4,sb h5,sb h6,sb h19] kr (by simp only [zaN,cond_true,cond_false,h1,h2,h3,h4,h5,h6,h19] <;> rfl)
     ·cases h22:(↑(zac xs).length:Int) != (1:Int)
      ·exact walk E0ok mix0 At.scope_Formed rfl kr kr 3000 (y:=AV.v (Value.bool true)) [sb h1,sb h2,sb h3,sb h4,sb h5,sg h22,sb (rfl:false=false),sb (rfl:true=true)] kr (by simp only [zaN,cond_true,cond_false,h1,h2,h3,h4,h5,h22] <;> rfl)
      ·exact walk E0ok mix0 At.scope_Formed rfl kr kr 3000 (y:=AV.v (Value.bool false)) [sb h1,sb h2,sb h3,sb h4,sb h5,sb h22] kr (by simp only [zaN,cond_true,cond_false,h1,h2,h3,h4,h5,h22] <;> rfl)
    ·cases h23:(↑(zac xs).length:Int) != (1:Int)
     ·exact walk E0ok mix0 At.scope_Formed rfl kr kr 3000 (y:=AV.v (Value.bool true)) [sb h1,sb h2,sb h3,sb h4,sg h23,sb (rfl:false=false),sb (rfl:true=true)] kr (by simp only [zaN,cond_true,cond_false,h1,h2,h3,h4,h23] <;> rfl)
     ·exact walk E0ok mix0 At.scope_Formed rfl kr kr 3000 (y:=AV.v (Value.bool false)) [sb h1,sb h2,sb h3,sb h4,sb h23] kr (by simp only [zaN,cond_true,cond_false,h1,h2,h3,h4,h23] <;> rfl)
   ·cases h24:(↑(zac xs).length:Int) != (1:Int)
    ·exact walk E0ok mix0 At.scope_Formed rfl kr kr 3000 (y:=AV.v (Value.bool true)) [sb h1,sb h2,sb h3,sg h24,sb (rfl:false=false),sb (rfl:true=true)] kr (by simp only [zaN,cond_true,cond_false,h1,h2,h3,h24] <;> rfl)
    ·exact walk E0ok mix0 At.scope_Formed rfl kr kr 3000 (y:=AV.v (Value.bool false)) [sb h1,sb h2,sb h3,sb h24] kr (by simp only [zaN,cond_true,cond_false,h1,h2,h3,h24] <;> rfl)
  ·cases h25:(↑(zac xs).length:Int) != (0:Int)
   ·exact walk E0ok mix0 At.scope_Formed rfl kr kr 3000 (y:=AV.v (Value.bool true)) [sb h1,sb h2,sg h25,sb (rfl:false=false),sb (rfl:true=true)] kr (by simp only [zaN,cond_true,cond_false,h1,h2,h25] <;> rfl)
   ·exact walk E0ok mix0 At.scope_Formed rfl kr kr 3000 (y:=AV.v (Value.bool false)) [sb h1,sb h2,sb h25] kr (by simp only [zaN,cond_true,cond_false,h1,h2,h25] <;> rfl)
 ·cases h26:(↑(zac xs).length:Int) != (0:Int)
  ·exact walk E0ok mix0 At.scope_Formed rfl kr kr 3000 (y:=AV.v (Value.bool true)) [sb h1,sg h26,sb (rfl:false=false),sb (rfl:true=true)] kr (by simp only [zaN,cond_true,cond_false,h1,h26] <;> rfl)
  ·exact walk E0ok mix0 At.scope_Formed rfl kr kr 3000 (y:=AV.v (Value.bool false)) [sb h1,sb h26] kr (by simp only [zaN,cond_true,cond_false,h1,h26] <;> rfl)
end Go.AM
namespace Go.AM
set_option maxRecDepth 100000
set_option linter.unusedSimpArgs false
set_option linter.unusedVariables false
theorem zen {p:Prop} (h:p:=by first|assumption|omega|(simp;done)|(simp;omega)):p:=h
def modI (v n:Int):Int:=bif decide (v.tmod n < 0) then IntKind.i64.wrap (v.tmod n+n) else v.tmod n
theorem zjX (v n:Int) (hn:n≠0):Pure S.world_Mod [iv v,iv n] (iv (modI v n)):=by
 unfold modI
 cases h1:decide (v.tmod n < (0:Int))
 ·exact wk At.world_Mod [sx (.i (v.tmod n)) (show ¬n=(0:Int)∧(v.tmod n:Int)=v.tmod n from ⟨hn,rfl⟩),sb h1] kr
 ·exact wk At.world_Mod [sx (.i (v.tmod n)) (show ¬n=(0:Int)∧(v.tmod n:Int)=v.tmod n from ⟨hn,rfl⟩),sb h1,si (e:=IntKind.i64.wrap (v.tmod n+n)) rfl] kr
def Tp.next (t:Tp) (n:Int):Nat × Tp:=match t.l[t.pos]? with
 | some x=>((modI x n).toNat,⟨t.l,t.pos+1,t.ok⟩)
 | none=>(0,t)
theorem zhs (v n:Int) (hn:0 < n) (hv:n≤9223372036854775807):0≤modI v n∧modI v n < n:=by
 unfold modI
 have h1:=Int.tmod_lt_of_pos v hn
 have h2:-n < v.tmod n:=by
  have:=Int.tmod_lt_of_pos (-v) hn
  rw [Int.neg_tmod] at this;omega
 cases h:decide (v.tmod n < 0)
 ·simp at h;simp;omega
 ·simp at h;simp only [cond_true];rw [IntKind.wrap_i64];omega
theorem Tp.next_lt (t:Tp) (n:Int) (hn:0 < n) (hv:n≤9223372036854775807):((t.next n).1:Int) < n:=by
 unfold Tp.next
 split
 ·have:=zhs (by assumption) n hn hv
  simp;omega
 ·simpa using hn
abbrev Pos (n:Int):Prop:=0 < n∧n≤9223372036854775807
theorem zji (i:Nat) (h:i < 9223372036854775806):IntKind.i64.wrap (((i+1:Nat):Int) - 1)=((i:Nat):Int):=by
 rw [IntKind.wrap_i64];omega
theorem zsW (t:Tp) (n:Int) (hx:t.l.length≤t.pos):zaa E0 S.world_Tape_Next [.p 0 0,iv n] [.box t.cells] (iv 0) [.box t.cells]:=by
 have h0:decide ((((t.l.map fun n=>[iv n]).length:Nat):Int)≤((t.pos:Nat):Int))=true:=by simp;omega
 exact wk At.world_Tape_Next [sd [],sb h0] kr
theorem zg7 (t:Tp) (n:Int) (x:Int) (hn:n≠0) (hx:t.l[t.pos]?=some x) (h0:decide ((((t.l.map fun n=>[iv n]).length:Nat):Int)≤((t.pos:Nat):Int))=false) (hw:IntKind.i64.wrap ((t.pos:Int)+1)=((t.pos+1:Nat):Int)) (hw2:IntKind.i64.wrap (((t.pos+1:Nat):Int) - 1)=((t.pos:Nat):Int)):∃ (a:Int),a=modI x n∧zaa E0 S.world_Tape_Next [.p 0 0,iv n] [.box t.cells] (iv a) [.box (Tp.cells ⟨t.l,t.pos+1,t.ok⟩)]:=by
 exact ⟨modI x n,by first|assumption|trivial|(simp;done)|omega|(simp;omega)|(simp at *;omega),wk At.world_Tape_Next [sd [],sb h0,si hw,sd [(8,[si hw2]),(9,[se (zah (fun n=>[iv n]) hx rfl)]),(12,[sc (zjX x n zen)])]] kr⟩
theorem c_next (t:Tp) (n:Int) (hn:Pos n):zaa E0 S.world_Tape_Next [.p 0 0,iv n] [.box t.cells] (iv ((t.next n).1:Nat)) [.box (t.next n).2.cells]:=by
 unfold Tp.next
 cases hx:t.l[t.pos]? with
 | none=>exact zsW t n (by simpa using hx)
 | some x =>
  have hl:=zd6 hx
  have ho:=t.ok
  obtain ⟨a,rfl,hc⟩:=zg7 t n x (by omega) hx (by simp;omega) (zak t.pos (by omega)) (zji t.pos (by omega))
  have h2:=zhs x n hn.1 hn.2
  simp only
  rw [Int.toNat_of_nonneg h2.1]
  exact hc
theorem zaF (t:Tp) (n:Int) (hn:Pos n):∃ (a:Nat) (t':Tp),(a:Int) < n∧zaa E0 S.world_Tape_Next [.p 0 0,iv n] [.box t.cells] (iv a) [.box t'.cells] :=
 ⟨_,_,t.next_lt n hn.1 hn.2,c_next t n hn⟩
abbrev I64 (n:Int):Prop:=-9223372036854775808≤n∧n≤9223372036854775807
theorem zcO (n:Int):I64 (IntKind.i64.wrap n):=by simp only [I64];rw [IntKind.wrap_i64];omega
theorem zcA (t:Tp) (n:Int) (hn:Pos n):∃ (b:Bool) (t':Tp),zaa E0 S.world_Tape_Bool [.p 0 0,iv n] [.box t.cells] (bv b) [.box t'.cells]:=by
 obtain ⟨a1,t1,q1,c1⟩:=(zaF t n zen)
 exact ⟨(a1:Int)==IntKind.i64.wrap (n - 1),t1,wk At.world_Tape_Bool [sl [0] c1,si (e:=IntKind.i64.wrap (n - 1)) rfl] kr⟩
theorem zjp (t:Tp) :∃ (a:Int) (t':Tp),(-3≤a∧a≤12)∧zaa E0 S.world_Tape_Small [.p 0 0] [.box t.cells] (iv a) [.box t'.cells]:=by
 obtain ⟨a1,t1,q1,c1⟩:=(zaF t 16 zen)
 exact ⟨IntKind.i64.wrap ((a1:Int) - 3),t1,by rw [IntKind.wrap_i64];omega,wk At.world_Tape_Small [sl [0] c1,si (e:=IntKind.i64.wrap ((a1:Int) - 3)) rfl] kr⟩
theorem ziw (t:Tp) :∃ (a:Int) (t':Tp),I64 a∧zaa E0 S.world_Tape_Number [.p 0 0] [.box t.cells] (iv a) [.box t'.cells]:=by
 obtain ⟨a1,t1,q1,c1⟩:=(zaF t 8 zen)
 cases h2:(a1:Int)==0
 ·cases h3:(a1:Int)==1
  ·cases h4:(a1:Int)==2
   ·obtain ⟨a5,t5,q5,c5⟩:=(zaF t1 9 zen)
    exact ⟨(a5:Int),t5,by first|exact zcO _|(simp only [I64];omega),wk At.world_Tape_Number [sl [0] c1,sb h2,sb h3,sb h4,sl [0] c5] kr⟩
   ·obtain ⟨a6,t6,q6,c6⟩:=(zaF t1 9 zen)
    exact ⟨IntKind.i64.wrap (-(a6:Int)),t6,by first|exact zcO _|(simp only [I64];omega),wk At.world_Tape_Number [sl [0] c1,sb h2,sb h3,sb h4,sl [0] c6,si (e:=IntKind.i64.wrap (-(a6:Int))) rfl] kr⟩
  ·obtain ⟨a7,t7,q7,c7⟩:=(zaF t1 3 zen)
   exact ⟨IntKind.i64.wrap (-9223372036854775808+(a7:Int)),t7,by first|exact zcO _|(simp only [I64];omega),wk At.world_Tape_Number [sl [0] c1,sb h2,sb h3,sl [0] c7,si (e:=IntKind.i64.wrap (-9223372036854775808+(a7:Int))) rfl] kr⟩
 ·obtain ⟨a8,t8,q8,c8⟩:=(zaF t1 3 zen)
  exact ⟨IntKind.i64.wrap (9223372036854775807 - (a8:Int)),t8,by first|exact zcO _|(simp only [I64];omega),wk At.world_Tape_Number [sl [0] c1,sb h2,sl [0] c8,si (e:=IntKind.i64.wrap (9223372036854775807 - (a8:Int))) rfl] kr⟩
def ziT (i:Nat):Str:=zdx.getD i ⟨#[]⟩
theorem zsO (i:Nat) (h:(i:Int) < 6):ArrAt (zdx.map sv) i 6 [sv (ziT i)] 1:=by
 have h:i=0∨i=1∨i=2∨i=3∨i=4∨i=5:=by omega
 rcases h with rfl|rfl|rfl|rfl|rfl|rfl <;> exact ⟨by decide,by decide,rfl,rfl⟩
theorem ztc (i:Nat) (h:(i:Int) < 6):ArrAt (zdx.map sv) i 6 [sv (ziT i)] 1:=zsO i h
theorem zsS (i:Nat):ziT i∈zdx:=by
 unfold ziT
 rw [List.getD_eq_getElem?_getD]
 cases h:zdx[i]? with
 | none=>simp [zdx,zd5]
 | some x=>exact List.mem_of_getElem? h
theorem zjQ (t:Tp) :∃ (w:Str) (t':Tp),w∈zdx∧zaa E0 S.world_Tape_Word [.p 0 0] [.box t.cells] (sv w) [.box t'.cells]:=by
 obtain ⟨a1,t1,q1,c1⟩:=(zaF t 6 zen)
 exact ⟨ziT a1,t1,by exact zsS _,wk At.world_Tape_Word [sl [0] c1,sa (ztc a1 zen)] kr⟩
structure V.Good (v:V):Prop where
 valid:zaD v=true
 i64:I64 v.int
 small:v.small
theorem zbp {n:Int} (h:I64 n):V.Good ⟨1,n,⟨#[]⟩⟩:=⟨by kernel_rfl,h,zhd⟩
theorem zaC:V.Good ⟨0,0,⟨#[]⟩⟩:=⟨by kernel_rfl,by decide,zhd⟩
theorem zdW {n:Nat} (h:(n:Int) < 2):V.Good ⟨2,n,⟨#[]⟩⟩:=by
 have:n=0∨n=1:=by omega
 rcases this with rfl|rfl <;> exact ⟨by kernel_rfl,by decide,zhd⟩
theorem zgu {w:Str} (h:w∈zdx):V.Good ⟨3,0,w⟩:=by
 simp only [zdx,List.mem_cons,List.not_mem_nil,or_false] at h
 rcases h with rfl|rfl|rfl|rfl|rfl|rfl <;> exact ⟨by kernel_rfl,by decide,by decide⟩
abbrev zby (k:Int):Int:=if k=1∨k=2∨k=3 then k else 0
theorem zi2 (t:Tp) (kind:Int) :∃ (v:V) (t':Tp),(v.kind=zby kind∧v.Good)∧zaa E0 S.world_Tape_Typed [.p 0 0,iv kind] [.box t.cells] v.av [.box t'.cells]:=by
 cases h1:kind==1
 ·cases h2:kind==2
  ·cases h3:kind==3
   ·exact ⟨V.mk 0 0 (ByteArray.mk #[]),t,by first|exact ⟨by simp_all [zby],zbp (by assumption)⟩|exact ⟨by simp_all [zby],zdW (by assumption)⟩|exact ⟨by simp_all [zby],zgu (by assumption)⟩|exact ⟨by simp_all [zby],zaC⟩,wk At.world_Tape_Typed [sb h1,sb h2,sb h3] kr⟩
   ·obtain ⟨w4,t4,q4,c4⟩:=(zjQ t)
    exact ⟨V.mk 3 0 w4,t4,by first|exact ⟨by simp_all [zby],zbp (by assumption)⟩|exact ⟨by simp_all [zby],zdW (by assumption)⟩|exact ⟨by simp_all [zby],zgu (by assumption)⟩|exact ⟨by simp_all [zby],zaC⟩,wk At.world_Tape_Typed [sb h1,sb h2,sb h3,sl [0] c4] kr⟩
  ·obtain ⟨a5,t5,q5,c5⟩:=(zaF t 2 zen)
   exact ⟨V.mk 2 (a5:Int) (ByteArray.mk #[]),t5,by first|exact ⟨by simp_all [zby],zbp (by assumption)⟩|exact ⟨by simp_all [zby],zdW (by assumption)⟩|exact ⟨by simp_all [zby],zgu (by assumption)⟩|exact ⟨by simp_all [zby],zaC⟩,wk At.world_Tape_Typed [sb h1,sb h2,sl [0] c5] kr⟩
 ·obtain ⟨a6,t6,q6,c6⟩:=(ziw t)
  exact ⟨V.mk 1 a6 (ByteArray.mk #[]),t6,by first|exact ⟨by simp_all [zby],zbp (by assumption)⟩|exact ⟨by simp_all [zby],zdW (by assumption)⟩|exact ⟨by simp_all [zby],zgu (by assumption)⟩|exact ⟨by simp_all [zby],zaC⟩,wk At.world_Tape_Typed [sb h1,sl [0] c6] kr⟩
def xLit (v:V):X :=
 X.mk 1 0 false v (ByteArray.mk #[]) (ByteArray.mk #[]) [] []
theorem zeJ (v:V) :zaa E0 S.world_Lit [v.av] [] ((xLit v).av) []:=by
 exact wk At.world_Lit [] kr
def xCol (t n:Str):X :=
 X.mk 2 0 false (V.mk 0 0 (ByteArray.mk #[])) t n [] []
def xBin (op:Int) (a b:X):X :=
 X.mk 5 op false (V.mk 0 0 (ByteArray.mk #[])) (ByteArray.mk #[]) (ByteArray.mk #[]) [a,b] []
end Go.AM
namespace Go.AM
open Go.RowKit
set_option linter.unusedSimpArgs false
set_option linter.unusedVariables false
section
variable {E : Env0}
end
theorem zmo {E:Env0} {fn:Func} {h0:Heap} {c c':Cfg} {R:AV→Heap→Prop} (b i:Nat) (live:List Nat) (m:Nat) {cs:List AV} (hb:c.h[b]?=some (.box cs)) (hi:cs[i]?=some .nl) (hm:Nat.ble h0.length m=true)
  (he:cut live m ⟨c.n,c.todo,c.ts,c.h.set b (.box (cs.set i (.sl [])))⟩=c') (hg:Good E fn h0 c' R):Good E fn h0 c R:=by
 have hg':=zdd live m (Nat.le_of_ble_eq_true hm) (he ▸ hg)
 intro β0 S0 w0 β S w tmps hb0 hn x0 r rt
 have x2:=zfh (β:=β) (S:=S) (w:=w) hb (cs.set i (.sl []))
 have r2:=r.setBox hb (cs.set i (.sl [])) (fun g' vs' t' e2 e3 e4 e5=>by
  refine ⟨by simpa using e4,fun j x' y hx hy=>?_⟩
  by_cases hij:i=j
  ·subst hij
   rw [List.getElem?_set_self (List.getElem?_eq_some_iff.1 hi).1] at hx
   cases hx
   have:=e5 i .nl y hi hy
   refine ⟨?_,this.2⟩
   obtain ⟨a,rfl⟩:=zhU this.1
   exact .d _ _ (.sl [] a 0 0 0 0 (fun _=>undef) (fun hn=>absurd rfl hn) (Nat.le_refl _) (Nat.zero_le _) (by simp) (by simp) (by simp))
  ·rw [List.getElem?_set_ne hij] at hx
   exact e5 j x' y hx hy)
 exact hg' β0 S0 w0 β S w tmps hb0 hn (x0.trans x2) r2 fun t'=>(rt t').ext x2
end Go.AM
namespace Go.AM
inductive Ct where
 | fz (t:Nat)
 | os (t:Nat)
 | bl (t:Nat)
 | bx (k q:Nat)
 | nl (k q:Nat)
 | ot (t:Nat) (e:TypeId)
 | ob (k q:Nat) (e:TypeId)
def ctM (live:List Nat) (m:Nat) (x:Ct) (c:Cfg):Option (List Prop × Cfg):=match x with
 | .fz t=>some ([frzO c.h (look c.ts t)],cut live m ⟨c.n,c.todo,(t,frz c.h (look c.ts t))::c.ts,share c.h (frzM (look c.ts t))⟩)
 | .os t=>match look c.ts t with
  | .own b n=>some ([],cut live m ⟨c.n,c.todo,(t,.os b n 0 n)::c.ts,c.h⟩)
  | _=>none
 | .bl t=>match look c.ts t with
  | .bl b=>some ([],cut live m ⟨c.n,c.todo,(t,.v (.bool b))::c.ts,c.h⟩)
  | _=>none
 | .bx k q=>match c.h[k]? with
  | some (.box cs)=>match cs[q]? with
   | some (.bl b)=>some ([],cut live m ⟨c.n,c.todo,c.ts,c.h.set k (.box (cs.set q (.v (.bool b))))⟩)
   | _=>none
  | _=>none
 | .nl k q=>match c.h[k]? with
  | some (.box cs)=>match cs[q]? with
   | some .nl=>some ([],cut live m ⟨c.n,c.todo,c.ts,c.h.set k (.box (cs.set q (.sl [])))⟩)
   | _=>none
  | _=>none
 | .ot t e=>match look c.ts t with
  | .nl=>some ([],cut live m ⟨c.n,c.todo,(t,.own c.h.length 0)::c.ts,c.h++[Blk.row e [] false]⟩)
  | _=>none
 | .ob k q e=>match c.h[k]? with
  | some (.box cs)=>match cs[q]? with
   | some .nl=>some ([],cut live m ⟨c.n,c.todo,c.ts,(c.h++[Blk.row e [] false]).set k (.box (cs.set q (.own c.h.length 0)))⟩)
   | _=>none
  | _=>none
theorem ctM_ok {E:Env0} {fn:Func} {h0:Heap} {c c':Cfg} {R:AV→Heap→Prop} {live:List Nat} {m:Nat} {x:Ct} {q:List Prop} (hm:Nat.ble h0.length m=true) (h:ctM live m x c=some (q,c')) (ho:allP q) (hg:Good E fn h0 c' R):Good E fn h0 c R:=by
 cases x with
 | fz t =>
  cases h
  exact zj3 t live m rfl rfl ho hm rfl hg
 | os t =>
  simp only [ctM] at h
  split at h
  ·rename_i b n hl
   cases h
   exact zkS t b n live m hl hm rfl hg
  ·cases h
 | bl t =>
  simp only [ctM] at h
  split at h
  ·rename_i b hl
   cases h
   exact zpC t b live m hl hm rfl hg
  ·cases h
 | bx k q =>
  simp only [ctM] at h
  split at h
  ·rename_i cs hb
   split at h
   ·rename_i b hi
    cases h
    exact zmv k q b live m hb hi hm rfl hg
   ·cases h
  ·cases h
 | nl k q =>
  simp only [ctM] at h
  split at h
  ·rename_i cs hb
   split at h
   ·rename_i hi
    cases h
    exact zmo k q live m hb hi hm rfl hg
   ·cases h
  ·cases h
 | ot t e =>
  simp only [ctM] at h
  split at h
  ·rename_i hl
   cases h
   exact za0 t e live m hl hm rfl hg
  ·cases h
 | ob k q e =>
  simp only [ctM] at h
  split at h
  ·rename_i cs hb
   split at h
   ·rename_i hi
    cases h
    exact zhj k q e live m hb hi hm rfl hg
   ·cases h
  ·cases h
def cts (live:List Nat) (n0:Nat):List (Ct × Nat)→List Prop→Cfg→Option (List Prop × Cfg)
 | [],q,c=>some (q,c)
 | (x,m)::r,q,c=>match Nat.ble n0 m,ctM live m x c with
  | true,some (q1,c1)=>cts live n0 r (q++q1) c1
  | _,_=>none
theorem zdg:∀ {a b:List Prop},allP (a++b)→allP a∧allP b
 | [],_,h=>⟨trivial,h⟩
 | [_],[],h=>⟨h,trivial⟩
 | [_],_::_,h=>⟨h.1,h.2⟩
 | _::q::r,b,h=>by
  have:=zdg (a:=q::r) (b:=b) h.2
  exact ⟨⟨h.1,this.1⟩,this.2⟩
theorem zgY {live:List Nat} {n0:Nat}:∀ {l:List (Ct × Nat)} {q q':List Prop} {c c':Cfg},cts live n0 l q c=some (q',c')→∃ q2,q'=q++q2
 | [],_,_,_,_,h=>by
  cases h
  exact ⟨[],by simp⟩
 | (x,m)::r,q,q',c,c',h=>by
  simp only [cts] at h
  split at h
  ·rename_i q1 c1 _ _
   obtain ⟨q2,h2⟩:=zgY h
   exact ⟨q1++q2,by rw [h2,List.append_assoc]⟩
  ·cases h
theorem zln {E:Env0} {fn:Func} {h0:Heap} {R:AV→Heap→Prop} {live:List Nat}:∀ {l:List (Ct × Nat)} {q q':List Prop} {c c':Cfg},cts live h0.length l q c=some (q',c')→allP q'→Good E fn h0 c' R→Good E fn h0 c R
 | [],_,_,_,_,h,_,hg=>by
  cases h
  exact hg
 | (x,m)::r,q,q',c,c',h,ho,hg=>by
  simp only [cts] at h
  split at h
  ·rename_i q1 c1 hm hc
   obtain ⟨q2,h2⟩:=zgY h
   have h3:allP q1:=by
    rw [h2] at ho
    exact (zdg (zdg ho).1).2
   exact ctM_ok hm hc h3 (zln h ho hg)
  ·cases h
noncomputable def zlq (fn:Func) (args:List AV) (h:Heap) (live:List Nat) (m:Nat) (k:List (Ct × Nat)) (os:List Orc):Option (List Prop × Cfg) :=
 match zhW fn args h live m os with
 | some (q,c)=>cts live h.length k q c
 | none=>none
noncomputable def zqW (h0:Heap) (live:List Nat) (m:Nat) (k:List (Ct × Nat)) (c:Cfg) (os:List Orc):Option (List Prop × Cfg) :=
 match zhP h0 live m c os with
 | some (q,c)=>cts live h0.length k q c
 | none=>none
theorem ziM {fn:Func} {h0:Heap} {c c':Cfg} {R:AV→Heap→Prop} {live:List Nat} {m:Nat} {os:List Orc} {q:List Prop} (hm:Nat.ble h0.length m=true) (hu:upto (mk E0) live m 3000 c os=(q,c')) (hq:allP q) (hg:Good E0 fn h0 c' R):Good E0 fn h0 c R:=by
 unfold upto at hu
 have h1:(run (mk E0) 3000 c os).1=q:=by
  have:=congrArg Prod.fst hu
  exact this
 have h2:cut live m (run (mk E0) 3000 c os).2.1=c':=congrArg Prod.snd hu
 exact zjB E0ok mix0 3000 os live m hm h1 h2 hq hg
theorem wklN {fn:Func} {R:AV→Heap→Prop} {h0:Heap} {c c':Cfg} (l:List St) (live:List Nat) (m:Nat) (k:List (Ct × Nat)) (hu:zqW h0 live m k c (orcs l)=some (za9 l,c')) (hg:Good E0 fn h0 c' R):Good E0 fn h0 c R:=by
 unfold zqW at hu
 split at hu
 ·rename_i q c1 h1
  unfold zhP at h1
  split at h1
  ·rename_i hm
   obtain ⟨q2,h2⟩:=zgY hu
   have h3:=zaR l
   have h4:allP q:=by
    rw [h2] at h3
    exact (zdg h3).1
   exact ziM hm (Option.some.inj h1) h4 (zln hu h3 hg)
  ·cases h1
 ·cases hu
theorem wkcN {f:FuncId} {fn:Func} {args:List AV} {h:Heap} {R:AV→Heap→Prop} {c':Cfg} (hf:E0.P.funcs[f]?=some fn) (l:List St) (live:List Nat) (m:Nat) (k:List (Ct × Nat)) (hu:zlq fn args h live m k (orcs l)=some (za9 l,c'))
  (hg:Good E0 fn h c' (Shut h.length R)):zbw E0 f args h R:=by
 unfold zlq at hu
 split at hu
 ·rename_i q c1 h1
  unfold zhW at h1
  split at h1
  ·rename_i c hb hn ha hm
   obtain ⟨q2,h2⟩:=zgY hu
   have h3:=zaR l
   have h4:allP q:=by
    rw [h2] at h3
    exact (zdg h3).1
   exact zdw (zaM hf hb hn (Nat.le_of_ble_eq_true ha) (ziM hm (Option.some.inj h1) h4 (zln hu h3 hg)))
  ·cases h1
 ·cases hu
end Go.AM
namespace Go.AM
set_option maxRecDepth 100000
set_option linter.unusedSimpArgs false
set_option linter.unusedVariables false
theorem zfr {p:Prop} (h:p:=by first|exact hI.push hx (zpH (by assumption))|exact hI.push hx (zoq (by assumption) (by assumption) (by assumption))|exact hI.push hx (zow (hc _ (List.mem_of_getElem? hx)) (by assumption))):p:=h
theorem zmR {p:Prop} (h:p:=by first|assumption|omega|(simp;done)|(simp;omega)):p:=h
theorem zmN {p:Prop} (h:p:=by first|assumption|exact PrefOk.nil _|omega):p:=h
structure ValOk (c:Col) (v:V):Prop where
 good:v.Good
 kind:v.kind=0∨v.kind=c.type
 nn:c.notNull=true→v.kind=c.type
abbrev zeT (c:Col):Prop:=c.type=1∨c.type=2∨c.type=3
structure PrefOk (cols:List Col) (n:Nat) (vals:List V):Prop where
 len:vals.length=n
 at_:∀ (k:Nat) (c:Col) (v:V),cols[k]?=some c→vals[k]?=some v→ValOk c v
abbrev zcx (cols:List Col) (vals:List V):Prop:=PrefOk cols cols.length vals
theorem PrefOk.nil (cols:List Col):PrefOk cols 0 []:=⟨rfl,fun k c v _ h=>by simp at h⟩
theorem PrefOk.push {cols:List Col} {n:Nat} {vals:List V} (h:PrefOk cols n vals) {c:Col} (hc:cols[n]?=some c) {v:V} (hv:ValOk c v):PrefOk cols (n+1) (vals++[v]):=by
 refine ⟨by simp [h.len],fun k c' v' h1 h2=>?_⟩
 by_cases hk:k < vals.length
 ·rw [List.getElem?_append_left hk] at h2
  exact h.at_ k c' v' h1 h2
 ·rw [List.getElem?_append_right (by omega)] at h2
  have hl:=h.len
  have:k - vals.length=0:=by
   rcases Nat.eq_zero_or_pos (k - vals.length) with h|h
   ·exact h
   ·rw [List.getElem?_eq_none (by simp;omega)] at h2;cases h2
  rw [this] at h2
  simp only [List.getElem?_cons_zero,Option.some.injEq] at h2
  have:k=n:=by omega
  subst this
  rw [h1] at hc
  cases hc
  exact h2 ▸ hv
theorem zow {c:Col} {v:V} (ht:zeT c) (h:v.kind=zby c.type∧v.Good):ValOk c v:=by
 have:zby c.type=c.type:=by simp only [zby];exact if_pos ht
 exact ⟨h.2,.inr (h.1.trans this),fun _=>h.1.trans this⟩
theorem zoT {v:V} (h:v.Good) (hk:v.kind=1) {a:Int} (ha:I64 a):V.Good ⟨v.kind,a,v.text⟩:=by
 refine ⟨?_,ha,h.small⟩
 have:=h.valid
 simp only [zaD,hk] at this ⊢
 exact this
theorem zoq {c:Col} {v:V} {a:Int} (h:v.kind=zby c.type∧v.Good) (hc:(c.type==(1:Int))=true) (ha:-3≤a∧a≤12):ValOk c ⟨v.kind,a,v.text⟩:=by
 have e:c.type=1:=by simpa using hc
 have:v.kind=1:=by rw [h.1,e];rfl
 exact ⟨zoT h.2 this ⟨by omega,by omega⟩,.inr (by rw [e];exact this),fun _=>by rw [e];exact this⟩
theorem zpH {c:Col} (h:(!c.notNull)=true):ValOk c ⟨0,0,⟨#[]⟩⟩:=⟨zaC,.inl rfl,fun h'=>by rw [h'] at h;cases h⟩
noncomputable def L_row (t0:Tp) (s:Sch) (i:Nat) (t:Tp) (out:List V):Cfg:=zan B.world_Tape_Row 0 [(0,.p 0 0),(5,.own 1 out.length),(10,.sl (s.cols.map Col.cells)),(11,iv ((s.cols.map Col.cells).length:Nat)),(12,iv (i:Nat))] [.box t.cells,.row Ty.Value (out.map V.cells) false]
theorem zfd (t0:Tp) (s:Sch) (hl:zad s.cols) (hc:∀ c∈s.cols,zeT c) (i:Nat) (t:Tp) (out:List V) (hi:i≤(s.cols).length) (hI:PrefOk s.cols i out):∃ (t':Tp) (out':List V),(PrefOk s.cols (s.cols).length out')∧(decide ((((s.cols).length:Nat):Int) < (((s.cols.map Col.cells).length:Nat):Int))=false)∧∀ R,Good E0 B.world_Tape_Row [.box t0.cells] (L_row t0 s (s.cols).length t' out') R→Good E0 B.world_Tape_Row [.box t0.cells] (L_row t0 s i t out) R:=by
 obtain ⟨kk,hk⟩:∃ kk,i+kk=(s.cols).length:=⟨(s.cols).length - i,by omega⟩
 induction kk generalizing i t out with
 | zero =>
  have e0:i=(s.cols).length:=by omega
  subst e0
  exact ⟨t,out,hI,by simp,fun R hg=>hg⟩
 | succ kk ih =>
  obtain ⟨x,hx⟩:=zaz (l:=s.cols) (i:=i) (by omega)
  have h0:decide (((i:Nat):Int) < (((s.cols.map Col.cells).length:Nat):Int))=true:=by simp;omega
  have hw:IntKind.i64.wrap (((i:Nat):Int)+1)=((i+1:Nat):Int):=zak i (by first|omega|(simp only [zad,Few] at *;omega))
  have hlen:=hI.len
  obtain ⟨v1,t1,q1,c1⟩:=(zi2 t x.type)
  let p_1:List St:=[sb h0,se (zah Col.cells hx rfl),sl [0] c1]
  cases h2:x.type==1
  ·cases h3:!x.notNull
   ·obtain ⟨tZ,outZ,qZ,xZ,gZ⟩:=ih (i+1) t1 (out++[v1]) (by omega) zfr (by omega);exact ⟨tZ,outZ,qZ,xZ,fun R hg=>zab (wkl (p_1++[sb h2,sb h3,sqx (AllLen [[iv v1.kind,iv v1.int,sv v1.text]] 3∧out.length=(List.map V.cells out).length∧(((List.map V.cells out).length+[[iv v1.kind,iv v1.int,sv v1.text]].length) * 32).le 140737488355328),si hw]) [0,5,10,11,12] 2 kr (zar (show ([(0,AV.p 0 0),(5,AV.own 1 (List.map V.cells out++[[iv v1.kind,iv v1.int,sv v1.text]]).length),(10,AV.sl (List.map Col.cells s.cols)),(11,iv (↑(List.map Col.cells s.cols).length:Int)),(12,iv (↑(i+1):Int))]:TS)=[(0,AV.p 0 0),(5,AV.own 1 (out++[v1]).length),(10,AV.sl (List.map Col.cells s.cols)),(11,iv (↑(List.map Col.cells s.cols).length:Int)),(12,iv (↑(i+1):Int))] by first|rfl|(simp;done)|(simp [X.cells,Qy.cells,V.cells,Col.cells,Rw.cells,Tb.cells,Fr.cells,Sch.cells,Tp.cells,Pl.cells];done)) (show ([Blk.box [AV.sl (List.map (fun n=>[iv n]) t1.l),iv (t1.pos:Int)],Blk.row Ty.Value (List.map V.cells out++[[iv v1.kind,iv v1.int,sv v1.text]]) false]:Heap)=[Blk.box t1.cells,Blk.row Ty.Value (List.map V.cells (out++[v1])) false] by first|rfl|(simp;done)|(simp [X.cells,Qy.cells,V.cells,Col.cells,Rw.cells,Tb.cells,Fr.cells,Sch.cells,Tp.cells,Pl.cells];done)) (gZ R hg)))⟩
   ·obtain ⟨b4,t4,c4⟩:=(zcA t1 5 zmR)
    rcases (Bool.eq_false_or_eq_true b4).symm with h5|h5
    ·obtain ⟨tZ,outZ,qZ,xZ,gZ⟩:=ih (i+1) t4 (out++[v1]) (by omega) zfr (by omega);exact ⟨tZ,outZ,qZ,xZ,fun R hg=>zab (wkl (p_1++[sb h2,sg h3,sl [0] c4,sb h5,sqx (AllLen [[iv v1.kind,iv v1.int,sv v1.text]] 3∧out.length=(List.map V.cells out).length∧(((List.map V.cells out).length+[[iv v1.kind,iv v1.int,sv v1.text]].length) * 32).le 140737488355328),si hw]) [0,5,10,11,12] 2 kr (zar (show ([(0,AV.p 0 0),(5,AV.own 1 (List.map V.cells out++[[iv v1.kind,iv v1.int,sv v1.text]]).length),(10,AV.sl (List.map Col.cells s.cols)),(11,iv (↑(List.map Col.cells s.cols).length:Int)),(12,iv (↑(i+1):Int))]:TS)=[(0,AV.p 0 0),(5,AV.own 1 (out++[v1]).length),(10,AV.sl (List.map Col.cells s.cols)),(11,iv (↑(List.map Col.cells s.cols).length:Int)),(12,iv (↑(i+1):Int))] by first|rfl|(simp;done)|(simp [X.cells,Qy.cells,V.cells,Col.cells,Rw.cells,Tb.cells,Fr.cells,Sch.cells,Tp.cells,Pl.cells];done)) (show ([Blk.box [AV.sl (List.map (fun n=>[iv n]) t4.l),iv (t4.pos:Int)],Blk.row Ty.Value (List.map V.cells out++[[iv v1.kind,iv v1.int,sv v1.text]]) false]:Heap)=[Blk.box t4.cells,Blk.row Ty.Value (List.map V.cells (out++[v1])) false] by first|rfl|(simp;done)|(simp [X.cells,Qy.cells,V.cells,Col.cells,Rw.cells,Tb.cells,Fr.cells,Sch.cells,Tp.cells,Pl.cells];done)) (gZ R hg)))⟩
    ·obtain ⟨tZ,outZ,qZ,xZ,gZ⟩:=ih (i+1) t4 (out++[V.mk 0 0 (ByteArray.mk #[])]) (by omega) zfr (by omega);exact ⟨tZ,outZ,qZ,xZ,fun R hg=>zab (wkl (p_1++[sb h2,sg h3,sl [0] c4,sb h5,sqx (AllLen [[iv 0,iv 0,sv (ByteArray.mk #[])]] 3∧out.length=(List.map V.cells out).length∧(((List.map V.cells out).length+[[iv 0,iv 0,sv (ByteArray.mk #[])]].length) * 32).le 140737488355328),si hw]) [0,5,10,11,12] 2 kr (zar (show ([(0,AV.p 0 0),(5,AV.own 1 (List.map V.cells out++[[iv 0,iv 0,sv (ByteArray.mk #[])]]).length),(10,AV.sl (List.map Col.cells s.cols)),(11,iv (↑(List.map Col.cells s.cols).length:Int)),(12,iv (↑(i+1):Int))]:TS)=[(0,AV.p 0 0),(5,AV.own 1 (out++[V.mk 0 0 (ByteArray.mk #[])]).length),(10,AV.sl (List.map Col.cells s.cols)),(11,iv (↑(List.map Col.cells s.cols).length:Int)),(12,iv (↑(i+1):Int))] by first|rfl|(simp;done)|(simp [X.cells,Qy.cells,V.cells,Col.cells,Rw.cells,Tb.cells,Fr.cells,Sch.cells,Tp.cells,Pl.cells];done)) (show ([Blk.box [AV.sl (List.map (fun n=>[iv n]) t4.l),iv (t4.pos:Int)],Blk.row Ty.Value (List.map V.cells out++[[iv 0,iv 0,sv (ByteArray.mk #[])]]) false]:Heap)=[Blk.box t4.cells,Blk.row Ty.Value (List.map V.cells (out++[V.mk 0 0 (ByteArray.mk #[])])) false] by first|rfl|(simp;done)|(simp [X.cells,Qy.cells,V.cells,Col.cells,Rw.cells,Tb.cells,Fr.cells,Sch.cells,Tp.cells,Pl.cells];done)) (gZ R hg)))⟩
  ·obtain ⟨b6,t6,c6⟩:=(zcA t1 9 zmR)
   cases h7:!b6
   ·cases h8:!x.notNull
    ·obtain ⟨tZ,outZ,qZ,xZ,gZ⟩:=ih (i+1) t6 (out++[v1]) (by omega) zfr (by omega);exact ⟨tZ,outZ,qZ,xZ,fun R hg=>zab (wkl (p_1++[sg h2,sl [0] c6,sb h7,sb h8,sqx (AllLen [[iv v1.kind,iv v1.int,sv v1.text]] 3∧out.length=(List.map V.cells out).length∧(((List.map V.cells out).length+[[iv v1.kind,iv v1.int,sv v1.text]].length) * 32).le 140737488355328),si hw]) [0,5,10,11,12] 2 kr (zar (show ([(0,AV.p 0 0),(5,AV.own 1 (List.map V.cells out++[[iv v1.kind,iv v1.int,sv v1.text]]).length),(10,AV.sl (List.map Col.cells s.cols)),(11,iv (↑(List.map Col.cells s.cols).length:Int)),(12,iv (↑(i+1):Int))]:TS)=[(0,AV.p 0 0),(5,AV.own 1 (out++[v1]).length),(10,AV.sl (List.map Col.cells s.cols)),(11,iv (↑(List.map Col.cells s.cols).length:Int)),(12,iv (↑(i+1):Int))] by first|rfl|(simp;done)|(simp [X.cells,Qy.cells,V.cells,Col.cells,Rw.cells,Tb.cells,Fr.cells,Sch.cells,Tp.cells,Pl.cells];done)) (show ([Blk.box [AV.sl (List.map (fun n=>[iv n]) t6.l),iv (t6.pos:Int)],Blk.row Ty.Value (List.map V.cells out++[[iv v1.kind,iv v1.int,sv v1.text]]) false]:Heap)=[Blk.box t6.cells,Blk.row Ty.Value (List.map V.cells (out++[v1])) false] by first|rfl|(simp;done)|(simp [X.cells,Qy.cells,V.cells,Col.cells,Rw.cells,Tb.cells,Fr.cells,Sch.cells,Tp.cells,Pl.cells];done)) (gZ R hg)))⟩
    ·obtain ⟨b9,t9,c9⟩:=(zcA t6 5 zmR)
     let p_2:List St:=p_1++[sg h2,sl [0] c6,sb h7,sg h8,sl [0] c9]
     rcases (Bool.eq_false_or_eq_true b9).symm with h10|h10
     ·obtain ⟨tZ,outZ,qZ,xZ,gZ⟩:=ih (i+1) t9 (out++[v1]) (by omega) zfr (by omega);exact ⟨tZ,outZ,qZ,xZ,fun R hg=>zab (wkl (p_2++[sb h10,sqx (AllLen [[iv v1.kind,iv v1.int,sv v1.text]] 3∧out.length=(List.map V.cells out).length∧(((List.map V.cells out).length+[[iv v1.kind,iv v1.int,sv v1.text]].length) * 32).le 140737488355328),si hw]) [0,5,10,11,12] 2 kr (zar (show ([(0,AV.p 0 0),(5,AV.own 1 (List.map V.cells out++[[iv v1.kind,iv v1.int,sv v1.text]]).length),(10,AV.sl (List.map Col.cells s.cols)),(11,iv (↑(List.map Col.cells s.cols).length:Int)),(12,iv (↑(i+1):Int))]:TS)=[(0,AV.p 0 0),(5,AV.own 1 (out++[v1]).length),(10,AV.sl (List.map Col.cells s.cols)),(11,iv (↑(List.map Col.cells s.cols).length:Int)),(12,iv (↑(i+1):Int))] by first|rfl|(simp;done)|(simp [X.cells,Qy.cells,V.cells,Col.cells,Rw.cells,Tb.cells,Fr.cells,Sch.cells,Tp.cells,Pl.cells];done)) (show ([Blk.box [AV.sl (List.map (fun n=>[iv n]) t9.l),iv (t9.pos:Int)],Blk.row Ty.Value (List.map V.cells out++[[iv v1.kind,iv v1.int,sv v1.text]]) false]:Heap)=[Blk.box t9.cells,Blk.row Ty.Value (List.map V.cells (out++[v1])) false] by first|rfl|(simp;done)|(simp [X.cells,Qy.cells,V.cells,Col.cells,Rw.cells,Tb.cells,Fr.cells,Sch.cells,Tp.cells,Pl.cells];done)) (gZ R hg)))⟩
     ·obtain ⟨tZ,outZ,qZ,xZ,gZ⟩:=ih (i+1) t9 (out++[V.mk 0 0 (ByteArray.mk #[])]) (by omega) zfr (by omega);exact ⟨tZ,outZ,qZ,xZ,fun R hg=>zab (wkl (p_2++[sb h10,sqx (AllLen [[iv 0,iv 0,sv (ByteArray.mk #[])]] 3∧out.length=(List.map V.cells out).length∧(((List.map V.cells out).length+[[iv 0,iv 0,sv (ByteArray.mk #[])]].length) * 32).le 140737488355328),si hw]) [0,5,10,11,12] 2 kr (zar (show ([(0,AV.p 0 0),(5,AV.own 1 (List.map V.cells out++[[iv 0,iv 0,sv (ByteArray.mk #[])]]).length),(10,AV.sl (List.map Col.cells s.cols)),(11,iv (↑(List.map Col.cells s.cols).length:Int)),(12,iv (↑(i+1):Int))]:TS)=[(0,AV.p 0 0),(5,AV.own 1 (out++[V.mk 0 0 (ByteArray.mk #[])]).length),(10,AV.sl (List.map Col.cells s.cols)),(11,iv (↑(List.map Col.cells s.cols).length:Int)),(12,iv (↑(i+1):Int))] by first|rfl|(simp;done)|(simp [X.cells,Qy.cells,V.cells,Col.cells,Rw.cells,Tb.cells,Fr.cells,Sch.cells,Tp.cells,Pl.cells];done)) (show ([Blk.box [AV.sl (List.map (fun n=>[iv n]) t9.l),iv (t9.pos:Int)],Blk.row Ty.Value (List.map V.cells out++[[iv 0,iv 0,sv (ByteArray.mk #[])]]) false]:Heap)=[Blk.box t9.cells,Blk.row Ty.Value (List.map V.cells (out++[V.mk 0 0 (ByteArray.mk #[])])) false] by first|rfl|(simp;done)|(simp [X.cells,Qy.cells,V.cells,Col.cells,Rw.cells,Tb.cells,Fr.cells,Sch.cells,Tp.cells,Pl.cells];done)) (gZ R hg)))⟩
   ·obtain ⟨a11,t11,q11,c11⟩:=(zjp t6)
    cases h12:!x.notNull
    ·obtain ⟨tZ,outZ,qZ,xZ,gZ⟩:=ih (i+1) t11 (out++[V.mk v1.kind a11 v1.text]) (by omega) zfr (by omega);exact ⟨tZ,outZ,qZ,xZ,fun R hg=>zab (wkl (p_1++[sg h2,sl [0] c6,sb h7,sl [0] c11,sb h12,sqx (AllLen [[iv v1.kind,iv a11,sv v1.text]] 3∧out.length=(List.map V.cells out).length∧(((List.map V.cells out).length+[[iv v1.kind,iv a11,sv v1.text]].length) * 32).le 140737488355328),si hw]) [0,5,10,11,12] 2 kr (zar (show ([(0,AV.p 0 0),(5,AV.own 1 (List.map V.cells out++[[iv v1.kind,iv a11,sv v1.text]]).length),(10,AV.sl (List.map Col.cells s.cols)),(11,iv (↑(List.map Col.cells s.cols).length:Int)),(12,iv (↑(i+1):Int))]:TS)=[(0,AV.p 0 0),(5,AV.own 1 (out++[V.mk v1.kind a11 v1.text]).length),(10,AV.sl (List.map Col.cells s.cols)),(11,iv (↑(List.map Col.cells s.cols).length:Int)),(12,iv (↑(i+1):Int))] by first|rfl|(simp;done)|(simp [X.cells,Qy.cells,V.cells,Col.cells,Rw.cells,Tb.cells,Fr.cells,Sch.cells,Tp.cells,Pl.cells];done)) (show ([Blk.box [AV.sl (List.map (fun n=>[iv n]) t11.l),iv (t11.pos:Int)],Blk.row Ty.Value (List.map V.cells out++[[iv v1.kind,iv a11,sv v1.text]]) false]:Heap)=[Blk.box t11.cells,Blk.row Ty.Value (List.map V.cells (out++[V.mk v1.kind a11 v1.text])) false] by first|rfl|(simp;done)|(simp [X.cells,Qy.cells,V.cells,Col.cells,Rw.cells,Tb.cells,Fr.cells,Sch.cells,Tp.cells,Pl.cells];done)) (gZ R hg)))⟩
    ·obtain ⟨b13,t13,c13⟩:=(zcA t11 5 zmR)
     let p_3:List St:=p_1++[sg h2,sl [0] c6,sb h7,sl [0] c11,sg h12,sl [0] c13]
     rcases (Bool.eq_false_or_eq_true b13).symm with h14|h14
     ·obtain ⟨tZ,outZ,qZ,xZ,gZ⟩:=ih (i+1) t13 (out++[V.mk v1.kind a11 v1.text]) (by omega) zfr (by omega);exact ⟨tZ,outZ,qZ,xZ,fun R hg=>zab (wkl (p_3++[sb h14,sqx (AllLen [[iv v1.kind,iv a11,sv v1.text]] 3∧out.length=(List.map V.cells out).length∧(((List.map V.cells out).length+[[iv v1.kind,iv a11,sv v1.text]].length) * 32).le 140737488355328),si hw]) [0,5,10,11,12] 2 kr (zar (show ([(0,AV.p 0 0),(5,AV.own 1 (List.map V.cells out++[[iv v1.kind,iv a11,sv v1.text]]).length),(10,AV.sl (List.map Col.cells s.cols)),(11,iv (↑(List.map Col.cells s.cols).length:Int)),(12,iv (↑(i+1):Int))]:TS)=[(0,AV.p 0 0),(5,AV.own 1 (out++[V.mk v1.kind a11 v1.text]).length),(10,AV.sl (List.map Col.cells s.cols)),(11,iv (↑(List.map Col.cells s.cols).length:Int)),(12,iv (↑(i+1):Int))] by first|rfl|(simp;done)|(simp [X.cells,Qy.cells,V.cells,Col.cells,Rw.cells,Tb.cells,Fr.cells,Sch.cells,Tp.cells,Pl.cells];done)) (show ([Blk.box [AV.sl (List.map (fun n=>[iv n]) t13.l),iv (t13.pos:Int)],Blk.row Ty.Value (List.map V.cells out++[[iv v1.kind,iv a11,sv v1.text]]) false]:Heap)=[Blk.box t13.cells,Blk.row Ty.Value (List.map V.cells (out++[V.mk v1.kind a11 v1.text])) false] by first|rfl|(simp;done)|(simp [X.cells,Qy.cells,V.cells,Col.cells,Rw.cells,Tb.cells,Fr.cells,Sch.cells,Tp.cells,Pl.cells];done)) (gZ R hg)))⟩
     ·obtain ⟨tZ,outZ,qZ,xZ,gZ⟩:=ih (i+1) t13 (out++[V.mk 0 0 (ByteArray.mk #[])]) (by omega) zfr (by omega);exact ⟨tZ,outZ,qZ,xZ,fun R hg=>zab (wkl (p_3++[sb h14,sqx (AllLen [[iv 0,iv 0,sv (ByteArray.mk #[])]] 3∧out.length=(List.map V.cells out).length∧(((List.map V.cells out).length+[[iv 0,iv 0,sv (ByteArray.mk #[])]].length) * 32).le 140737488355328),si hw]) [0,5,10,11,12] 2 kr (zar (show ([(0,AV.p 0 0),(5,AV.own 1 (List.map V.cells out++[[iv 0,iv 0,sv (ByteArray.mk #[])]]).length),(10,AV.sl (List.map Col.cells s.cols)),(11,iv (↑(List.map Col.cells s.cols).length:Int)),(12,iv (↑(i+1):Int))]:TS)=[(0,AV.p 0 0),(5,AV.own 1 (out++[V.mk 0 0 (ByteArray.mk #[])]).length),(10,AV.sl (List.map Col.cells s.cols)),(11,iv (↑(List.map Col.cells s.cols).length:Int)),(12,iv (↑(i+1):Int))] by first|rfl|(simp;done)|(simp [X.cells,Qy.cells,V.cells,Col.cells,Rw.cells,Tb.cells,Fr.cells,Sch.cells,Tp.cells,Pl.cells];done)) (show ([Blk.box [AV.sl (List.map (fun n=>[iv n]) t13.l),iv (t13.pos:Int)],Blk.row Ty.Value (List.map V.cells out++[[iv 0,iv 0,sv (ByteArray.mk #[])]]) false]:Heap)=[Blk.box t13.cells,Blk.row Ty.Value (List.map V.cells (out++[V.mk 0 0 (ByteArray.mk #[])])) false] by first|rfl|(simp;done)|(simp [X.cells,Qy.cells,V.cells,Col.cells,Rw.cells,Tb.cells,Fr.cells,Sch.cells,Tp.cells,Pl.cells];done)) (gZ R hg)))⟩
theorem zko (t:Tp) (s:Sch) (hl:zad s.cols) (hc:∀ c∈s.cols,zeT c):∃ (r:List V) (t':Tp),zcx s.cols r∧zaa E0 S.world_Tape_Row [.p 0 0,s.av] [.box t.cells] (vsl r) [.box t'.cells]:=by
 obtain ⟨t1,out1,q1,q1_1,g1⟩:=zfd t s zmN zmN 0 t ([]) zmN zmN
 exact ⟨out1,t1,(by first|assumption|trivial|(simp;done)|omega|(simp;omega)|(simp at *;omega)),wkcN At.world_Tape_Row [] [0,5,10,11,12] 1 [(.ot 5 Ty.Value,2)] kr (g1 _ (zab (wkr [sqx (out1.length=(List.map V.cells out1).length),sb q1_1] kr)))⟩
def zas :(List Sch) :=
 [Sch.mk (ByteArray.mk #[108,111,103]) [Col.mk (ByteArray.mk #[110]) 1 false false,Col.mk (ByteArray.mk #[115]) 3 false false],Sch.mk (ByteArray.mk #[116]) [Col.mk (ByteArray.mk #[105,100]) 1 true true,Col.mk (ByteArray.mk #[110]) 1 false false,Col.mk (ByteArray.mk #[98]) 2 false false,Col.mk (ByteArray.mk #[115]) 3 false false],Sch.mk (ByteArray.mk #[117]) [Col.mk (ByteArray.mk #[105,100]) 1 true true,Col.mk (ByteArray.mk #[110]) 1 true false,Col.mk (ByteArray.mk #[109]) 1 false false]]
theorem zgm  :zaa E0 S.world_Schemas [] [] (.sl (zas.map Sch.cells)) []:=by
 unfold zas
 exact (by (try simp only [X.av,Qy.av,V.av,Tb.av,Sch.av,Pl.av,xsl,fsl,vsl,tsl,List.map_append,List.map_cons,List.map_nil,V.cells,Col.cells,Rw.cells,Tb.cells,Fr.cells,Sch.cells,Pl.cells,zbN,zbz,zbR,zbA,zbQ,X.cells,Qy.cells,X.args_mk,X.sub_mk,Qy.items_mk,Qy.wh_mk]);exact wk At.world_Schemas [] kr)
theorem zih:zad zas:=by simp [zas]
noncomputable def zrl (n:Str) (i:Nat) :Cfg:=zan B.world_Schema 0 [(0,sv n),(2,.p 0 0),(5,.sl (zas.map Sch.cells)),(6,iv ((zas.map Sch.cells).length:Nat)),(7,iv (i:Nat))] [.box [sv ⟨#[]⟩,.nl]]
def zg8 (n:Str):List (Sch)→Nat→Sch
 | [],i =>
  Sch.mk (ByteArray.mk #[]) []
 | x::r,i =>
  bif ByteArray.toList x.name==ByteArray.toList n then
   x
  else
   zg8 n r (i+1)
theorem zlM (n:Str) (hs:zad zas):∀ (kk i:Nat),i+kk=(zas).length→Good E0 B.world_Schema [] (zrl n i ) (Shut 0 fun r h=>r=((zg8 n ((zas).drop i) i ).av)∧h=[]):=by
 intro kk
 induction kk with
 | zero =>
  intro i  hi
  have h0:decide (((i:Nat):Int) < (((zas.map Sch.cells).length:Nat):Int))=false:=by simp;omega
  have e0:(zas).drop i=[]:=List.drop_of_length_le (by omega)
  rw [e0]
  simp only [zg8]
  refine zab ?_
  exact wkr [sb h0] kr
 | succ kk ih =>
  intro i  hi
  obtain ⟨x,hx⟩:=zaz (l:=zas) (i:=i) (by omega)
  have h0:decide (((i:Nat):Int) < (((zas.map Sch.cells).length:Nat):Int))=true:=by simp;omega
  have hw:=zak i (by first|omega|(simp only [zad,Few] at *;omega))
  rw [za8 hx]
  simp only [zg8]
  refine zab ?_
  let p_1:List St:=[sb h0,se (zah Sch.cells hx rfl)]
  cases h1:ByteArray.toList x.name==ByteArray.toList n
  ·exact wkl (p_1++[sb h1,si hw]) [0,2,5,6,7] 1 kr (ih (i+1) (by omega) )
  ·exact wkr (p_1++[sb h1]) kr
def zkl (n:Str):Sch :=
 zg8 n zas (0)
theorem zlN (n:Str) (hs:zad zas):zaa E0 S.world_Schema [sv n] [] ((zkl n).av) []:=by
 unfold zkl
 exact wkc At.world_Schema [sc zgm] [0,2,5,6,7] 1 kr (zlM n hs zas.length 0 (by simp))
theorem c_Num0 (n:Int) (h1:decide (n < (0:Int))=false):Pure S.world_Num [iv n] (X.av (xLit ⟨1,n,⟨#[]⟩⟩)):=by
 exact wk At.world_Num [sb h1,sc (zeJ (V.mk 1 n ⟨#[]⟩))] kr
def xNeg (a:X):X:=X.mk 4 0 false ⟨0,0,⟨#[]⟩⟩ ⟨#[]⟩ ⟨#[]⟩ [a] []
def xNum (n:Int):X:=bif decide (n < 0) then xNeg (xLit ⟨1,IntKind.i64.wrap (-n),⟨#[]⟩⟩) else xLit ⟨1,n,⟨#[]⟩⟩
def vcopy (l:List V):(List V) :=
 l
def plIn (p:Pl) (s:Sch):Pl :=
 Pl.mk (p.frs++[Fr.mk s.name false s.cols []]) p.tbs
end Go.AM
namespace Go.AM
set_option maxRecDepth 100000
set_option linter.unusedSimpArgs false
set_option linter.unusedVariables false
abbrev Few {α:Type} (l:List α):Prop:=l.length≤1000
def IsCol (x:X):Prop:=∃ a b,x=xCol a b
def zjJ (l:List X):Prop:=∀ x∈l,IsCol x
theorem zjJ.nil:zjJ []:=fun _ h=>by cases h
theorem zjJ.col (a b:Str):zjJ [xCol a b]:=fun x hx=>by simp only [List.mem_singleton] at hx;exact ⟨a,b,hx⟩
theorem zjJ.at {l:List X} (h:zjJ l) {i:Nat} {x:X} (hx:l[i]?=some x):IsCol x:=h x (List.mem_of_getElem? hx)
structure Pl.Ok (p:Pl):Prop where
 frs:Few p.frs
 cols:∀ f∈p.frs,Few f.cols
abbrev zT:List AV:=[sv ⟨#[]⟩,.nl,iv 0,.nl]
structure TabOk (t:Tb):Prop where
 rows:∀ r∈t.rows,zcx t.sch.cols r.vals
 len:t.rows.length≤1000
structure SchOk (s:Sch):Prop where
 few:Few s.cols
 cols:∀ c∈s.cols,zeT c
 ne:s.cols≠[]
abbrev zdo (n:Nat) (key:Int):Prop:=key < n
theorem SchOk.short {s:Sch} (h:SchOk s):zad s.cols:=by have:=h.few;simp only [Few] at this;simp only [zad];omega
def zay (l:List V) (key:Int):V:=l.getD key.toNat V.null
theorem zeW (l:List V) (key:Int) (hk:decide (key < 0)=false) (h:key < l.length):ElAt (l.map V.cells) key (zay l key).cells 3:=by
 have h0:0≤key:=by simpa using hk
 refine ⟨h0,?_,rfl⟩
 have:key.toNat < l.length:=by omega
 simp [zay,List.getD_eq_getElem?_getD,List.getElem?_eq_getElem this]
abbrev zfY (s:Sch) (rows:List Rw):Prop:=∀ r∈rows,zcx s.cols r.vals
theorem zfY.len {s:Sch} {rows:List Rw} (h:zfY s rows) {i:Nat} {x:Rw} (hx:rows[i]?=some x):x.vals.length=s.cols.length:=(h x (List.mem_of_getElem? hx)).len
theorem zfY.push {s:Sch} {rows:List Rw} (h:zfY s rows) {x:Rw} (hx:zcx s.cols x.vals):zfY s (rows++[x]):=fun r hr=>(List.mem_append.1 hr).elim (h r) fun h=>by simp only [List.mem_singleton] at h;exact h ▸ hx
theorem znD {x:Sch} (hx:x∈zas):SchOk x:=by
 simp only [zas,List.mem_cons,List.not_mem_nil,or_false] at hx
 rcases hx with rfl|rfl|rfl <;> exact ⟨by simp,by simp [zeT],by simp⟩
structure StoreOk (l:List Tb):Prop where
 len:l.length≤1000
 tabs:∀ t∈l,TabOk t∧SchOk t.sch
theorem StoreOk.push {l:List Tb} (h:StoreOk l) (hl:l.length+1≤1000) {t:Tb} (ht:TabOk t) (hs:SchOk t.sch):StoreOk (l++[t]) :=
 ⟨by simp;omega,fun x hx=>(List.mem_append.1 hx).elim (h.tabs x) fun h=>by simp only [List.mem_singleton] at h;exact h ▸ ⟨ht,hs⟩⟩
end Go.AM
namespace Go.AM
set_option maxRecDepth 100000
set_option linter.unusedSimpArgs false
set_option linter.unusedVariables false
abbrev Thin {α:Type} (k:Nat) (l:List α):Prop:=l.length≤k
theorem Thin.few {α:Type} {k:Nat} {l:List α} (h:Thin k l) (hk:k≤1000:=by decide):Few l:=Nat.le_trans h hk
theorem Thin.short {α:Type} {k:Nat} {l:List α} (h:Thin k l) (hk:k≤1000000000:=by decide):zad l:=Nat.le_trans h hk
def XOk:Nat→X→Prop
 | 0,_=>False
 | n+1,e=>e.val.Good∧(Thin 3 e.args∧Thin 1 e.sub)∧(∀ x∈e.args,XOk n x)∧∀ q∈e.sub,(Thin 8 q.items∧Thin 1 q.wh)∧(∀ x∈q.items,XOk n x)∧∀ x∈q.wh,XOk n x
theorem XOk.mono:∀ {n:Nat} {e:X},XOk n e→XOk (n+1) e
 | 0,_,h=>h.elim
 | n+1,e,⟨h1,h2,h3,h4⟩=>⟨h1,h2,fun x hx=>(h3 x hx).mono,fun q hq=>⟨(h4 q hq).1,fun x hx=>((h4 q hq).2.1 x hx).mono,fun x hx=>((h4 q hq).2.2 x hx).mono⟩⟩
theorem XOk.le {n m:Nat} {e:X} (h:XOk n e) (hm:n≤m):XOk m e:=by
 induction hm with
 | refl=>exact h
 | step _ ih=>exact ih.mono
theorem zpi {n:Nat} {v:V} (h:v.Good):XOk (n+1) (xLit v):=⟨h,⟨by simp [xLit],by simp [xLit]⟩,fun x hx=>by simp [xLit] at hx,fun q hq=>by simp [xLit] at hq⟩
structure Pl.OkN (n:Nat) (p:Pl):Prop where
 frs:p.frs.length+n≤1000
 cols:∀ f∈p.frs,Few f.cols
 ne:p.tbs≠[]
 few:Few p.tbs
 tcols:∀ s∈p.tbs,Few s.cols
theorem Pl.OkN.short {n:Nat} {p:Pl} (h:p.OkN n):zad p.frs:=by have:=h.frs;simp only [zad];omega
theorem Pl.OkN.less {n:Nat} {p:Pl} (h:p.OkN (n+1)):p.OkN n:=⟨by have:=h.frs;omega,h.cols,h.ne,h.few,h.tcols⟩
theorem Pl.OkN.pos {n:Nat} {p:Pl} (h:p.OkN n):Pos (((p.tbs.map Sch.cells).length:Nat):Int):=by
 have h1:=h.few
 have h2:0 < p.tbs.length:=List.length_pos_iff.2 h.ne
 simp only [Few] at h1
 simp only [Pos,List.length_map];omega
theorem Pl.OkN.ins {n:Nat} {p:Pl} (h:p.OkN (n+1)) {k:Nat} {s:Sch} (hs:p.tbs[k]?=some s):(plIn p s).OkN n:=by
 refine ⟨by have:=h.frs;simp [plIn];omega,fun f hf=>?_,h.ne,h.few,h.tcols⟩
 simp only [plIn,List.mem_append,List.mem_singleton] at hf
 rcases hf with hf|rfl
 ·exact h.cols f hf
 ·exact h.tcols s (List.mem_of_getElem? hs)
end Go.AM
namespace Go.AM
set_option maxRecDepth 100000
set_option maxHeartbeats 1000000
set_option linter.unusedSimpArgs false
set_option linter.unusedVariables false
theorem zmO {p:Prop} (h:p:=by first|assumption|(simp;done)|(simp;omega)|omega|(simp at *;omega)):p:=h
theorem zmU {p:Prop} (h:p:=by first|assumption|omega|(simp;done)|(simp;omega)):p:=h
def zaW:Fr:=⟨⟨#[]⟩,false,[],[]⟩
theorem zpf {α:Type} {l:List α} {k:Nat} (d:α) (h:k < l.length):l[k]?=some (l.getD k d):=by
 rw [List.getD_eq_getElem?_getD,List.getElem?_eq_getElem h];rfl
noncomputable def L_sres (frs:List Fr) (q n:Str) (k:Nat) :Cfg:=zan B.scope_Resolve 0 [(0,fsl frs),(1,sv q),(2,sv n),(9,iv (pm1 k))] []
def sres (frs:List Fr) (q n:Str):Nat→Int × Int × Bool
 | 0 =>
  (0,0,false)
 | k+1 =>
  bif ByteArray.toList q==(ByteArray.mk #[]).toList then
   bif (frs.getD k zaW).strict then
    sres frs q n (k)
   else
    bif decide (0≤idxF (fun c=>colC c n) (Sch.mk (ByteArray.mk #[]) (frs.getD k zaW).cols).cols 0) then
     (pm1 (k+1),idxF (fun c=>colC c n) (Sch.mk (ByteArray.mk #[]) (frs.getD k zaW).cols).cols 0,true)
    else
     sres frs q n (k)
  else
   bif !ByteArray.toList (frs.getD k zaW).name==ByteArray.toList q then
    sres frs q n (k)
   else
    bif decide (0≤idxF (fun c=>colC c n) (Sch.mk (ByteArray.mk #[]) (frs.getD k zaW).cols).cols 0) then
     (pm1 (k+1),idxF (fun c=>colC c n) (Sch.mk (ByteArray.mk #[]) (frs.getD k zaW).cols).cols 0,true)
    else
     sres frs q n (k)
theorem zoy (frs:List Fr) (q n:Str) (hl:zad frs) (hc:∀ f∈frs,zad f.cols):∀ (k:Nat),k≤1000000000→k≤frs.length→Good E0 B.scope_Resolve [] (L_sres frs q n k ) (Shut 0 fun r h=>r=(.tup [iv (sres frs q n k ).1,iv (sres frs q n k ).2.1,bv (sres frs q n k ).2.2])∧h=[]):=by
 intro k
 induction k with
 | zero =>
  intro  hk hk2
  simp only [sres]
  refine zab ?_
  exact wkr [sb (rfl:false=false)] kr
 | succ k ih =>
  intro  hk hk2
  have h0:decide ((0:Int)≤((k:Nat):Int))=true:=by simp
  have hw:=znq k (by omega)
  have hx:=zpf (l:=frs) (k:=k) zaW (by omega);have hcx:=hc _ (List.mem_of_getElem? hx)
  simp only [sres]
  refine zab ?_
  cases h1:ByteArray.toList q==(ByteArray.mk #[]).toList
  ·cases h2:!ByteArray.toList (frs.getD k zaW).name==ByteArray.toList q
   ·cases h3:decide (0≤idxF (fun c=>colC c n) (Sch.mk (ByteArray.mk #[]) (frs.getD k zaW).cols).cols 0)
    ·exact wkl [sb (rfl:true=true),se (zah Fr.cells hx rfl),sb h1,sg (congrArg Bool.not h1),sb h2,sc (zbC (Sch.mk (ByteArray.mk #[]) (frs.getD k zaW).cols) n zmU),sb h3,si hw] [0,1,2,9] 0 kr (ih  (by omega) zmO)
    ·exact wkr [sb (rfl:true=true),se (zah Fr.cells hx rfl),sb h1,sg (congrArg Bool.not h1),sb h2,sc (zbC (Sch.mk (ByteArray.mk #[]) (frs.getD k zaW).cols) n zmU),sb h3] kr
   ·exact wkl [sb (rfl:true=true),se (zah Fr.cells hx rfl),sb h1,sg (congrArg Bool.not h1),sb h2,si hw] [0,1,2,9] 0 kr (ih  (by omega) zmO)
  ·cases h4:(frs.getD k zaW).strict
   ·cases h5:decide (0≤idxF (fun c=>colC c n) (Sch.mk (ByteArray.mk #[]) (frs.getD k zaW).cols).cols 0)
    ·exact wkl [sb (rfl:true=true),se (zah Fr.cells hx rfl),sg h1,sg h4,sb (congrArg Bool.not h1),sc (zbC (Sch.mk (ByteArray.mk #[]) (frs.getD k zaW).cols) n zmU),sb h5,si hw] [0,1,2,9] 0 kr (ih  (by omega) zmO)
    ·exact wkr [sb (rfl:true=true),se (zah Fr.cells hx rfl),sg h1,sg h4,sb (congrArg Bool.not h1),sc (zbC (Sch.mk (ByteArray.mk #[]) (frs.getD k zaW).cols) n zmU),sb h5] kr
   ·exact wkl [sb (rfl:true=true),se (zah Fr.cells hx rfl),sg h1,sb h4,si hw] [0,1,2,9] 0 kr (ih  (by omega) zmO)
theorem zsm {α:Type} (f:α→List AV) (l:List α) (h:zad l):IntKind.i64.wrap ((((l.map f).length:Nat):Int) - 1)=pm1 l.length:=by
 rw [List.length_map];exact znq _ (by simp only [zad] at h;omega)
def zbD (frs:List Fr) (q n:Str):Int × Int × Bool :=
 sres frs q n (frs.length)
theorem zer (frs:List Fr) (q n:Str) (hl:zad frs) (hc:∀ f∈frs,zad f.cols) (hw0:IntKind.i64.wrap ((((frs.map Fr.cells).length:Nat):Int) - 1)=pm1 frs.length):zaa E0 S.scope_Resolve [fsl frs,sv q,sv n] [] (.tup [iv (zbD frs q n).1,iv (zbD frs q n).2.1,bv (zbD frs q n).2.2]) []:=by
 unfold zbD
 exact wkc At.scope_Resolve [si hw0] [0,1,2,9] 0 kr (by have ih:=zoy frs q n hl hc frs.length (by simp only [zad] at hl;omega) (Nat.le_refl _);exact ih)
def zdj (frs:List Fr) (q n:Str) (k:Nat) (f:Fr) (els:Int × Int × Bool):List (Col)→Nat→Int × Int × Bool
 | [],j =>
  els
 | x::r,j =>
  bif ByteArray.toList x.name==ByteArray.toList n then
   (pm1 (k+1),(j:Int),true)
  else
   zdj frs q n k f els r (j+1)
def rres (frs:List Fr) (q n:Str):Nat→Int × Int × Bool
 | 0 =>
  (0,0,false)
 | k+1 =>
  bif ByteArray.toList q==(ByteArray.mk #[]).toList then
   bif (frs.getD k zaW).strict then
    rres frs q n (k)
   else
    zdj frs q n k (frs.getD k zaW) (rres frs q n k) (frs.getD k zaW).cols 0
  else
   bif !ByteArray.toList (frs.getD k zaW).name==ByteArray.toList q then
    rres frs q n (k)
   else
    zdj frs q n k (frs.getD k zaW) (rres frs q n k) (frs.getD k zaW).cols 0
def zbE (frs:List Fr) (q n:Str):Int × Int × Bool :=
 rres frs q n (frs.length)
def zhB (tb:List Tb) (n:Str):List (Tb)→Nat→Sch × Bool
 | [],i =>
  (Sch.mk (ByteArray.mk #[]) [],false)
 | x::r,i =>
  bif ByteArray.toList x.sch.name==ByteArray.toList n then
   (x.sch,true)
  else
   zhB tb n r (i+1)
def zcV (tb:List Tb) (n:Str):Sch × Bool :=
 zhB tb n tb (0)
def zcX (frs:List Fr) (s:Sch) (v:List V):(List Fr) :=
 frs++[Fr.mk s.name false s.cols v]
end Go.AM
namespace Go.AM
set_option maxRecDepth 100000
set_option maxHeartbeats 1000000
set_option linter.unusedSimpArgs false
set_option linter.unusedVariables false
def ze5 (e:X):Bool:=match e.sub with
 | []=>zaN e.kind e.op e.args
 | q::r=>zau e.kind e.op e.args (q::r) q.items q.wh
theorem zbc (e:X):Pure S.scope_Formed [e.av] (bv (ze5 e)):=by
 cases e with
 | mk kind op nt val tn nm xs qs =>
  cases qs with
  | nil=>exact zjO kind op xs nt val tn nm
  | cons q r=>cases q with
   | mk st it fm wh=>exact zjR kind op xs _ it wh nt val tn nm st fm rfl
theorem zof (frs:List Fr) (q n:Str) (k:Nat) (f:Fr) (els:Int × Int × Bool):∀ (c:List Col) (j:Nat),(zdj frs q n k f els c j=els)∨(∃ (i:Nat) (x:Col),zdj frs q n k f els c j=(((k:Nat):Int),((j+i:Nat):Int),true)∧c[i]?=some x)
 | [],j=>.inl rfl
 | x::r,j=>by
  rcases zof frs q n k f els r (j+1) with h|⟨i,y,h,hy⟩
  ·simp only [zdj,Bool.cond_eq_ite]
   split
   ·exact .inr ⟨0,x,rfl,rfl⟩
   ·exact .inl h
  ·simp only [zdj,Bool.cond_eq_ite]
   split
   ·exact .inr ⟨0,x,rfl,rfl⟩
   ·exact .inr ⟨i+1,y,by rw [h];congr 2;omega,hy⟩
theorem zo8 (frs:List Fr) (q n:Str):∀ (k:Nat),k≤frs.length→(rres frs q n k).2.2=true→∃ (i j:Nat) (f:Fr) (c:Col),rres frs q n k=((i:Int),(j:Int),true)∧frs[i]?=some f∧f.cols[j]?=some c
 | 0,_,h=>by simp [rres] at h
 | k+1,hk,h=>by
  have ih:=zo8 frs q n k (by omega)
  have hx:=zpf (l:=frs) (k:=k) zaW (by omega)
  have hi:=zof frs q n k (frs.getD k zaW) (rres frs q n k) (frs.getD k zaW).cols 0
  simp only [rres,Bool.cond_eq_ite] at h ⊢
  have key:(zdj frs q n k (frs.getD k zaW) (rres frs q n k) (frs.getD k zaW).cols 0).2.2=true→∃ (i j:Nat) (f:Fr) (c:Col),zdj frs q n k (frs.getD k zaW) (rres frs q n k) (frs.getD k zaW).cols 0=((i:Int),(j:Int),true)∧frs[i]?=some f∧f.cols[j]?=some c:=by
   intro h
   rcases hi with e|⟨i,y,e,hy⟩
   ·rw [e] at h ⊢;exact ih h
   ·exact ⟨k,0+i,_,y,e,hx,by simpa using hy⟩
  revert h
  repeat' split
  all_goals first|exact ih|exact key
end Go.AM
namespace Go.AM
set_option maxRecDepth 100000
set_option maxHeartbeats 1000000
set_option linter.unusedSimpArgs false
set_option linter.unusedVariables false
def cNull:Col:=⟨⟨#[]⟩,0,false,false⟩
def rFr (frs:List Fr) (q n:Str):Fr:=frs.getD (zbE frs q n).1.toNat zaW
def rCol (frs:List Fr) (q n:Str):Col:=(rFr frs q n).cols.getD (zbE frs q n).2.1.toNat cNull
theorem zj1 {frs:List Fr} {q n:Str} (h:(zbE frs q n).2.2=true):∃ (i j:Nat),zbE frs q n=((i:Int),(j:Int),true)∧frs[i]?=some (rFr frs q n)∧(rFr frs q n).cols[j]?=some (rCol frs q n):=by
 have h':=h
 unfold zbE at h'
 obtain ⟨i,j,f,c,e,hf,hc⟩:=zo8 frs q n frs.length (Nat.le_refl _) h'
 have e':zbE frs q n=((i:Int),(j:Int),true):=e
 have e1:rFr frs q n=f:=by simp [rFr,e',List.getD_eq_getElem?_getD,hf]
 have e2:rCol frs q n=c:=by simp [rCol,e1,e',List.getD_eq_getElem?_getD,hc]
 exact ⟨i,j,e',by rw [e1];exact hf,by rw [e1,e2];exact hc⟩
theorem el_rFr (frs:List Fr) (q n:Str) (h:(zbE frs q n).2.2=true):ElAt (frs.map Fr.cells) (zbE frs q n).1 (rFr frs q n).cells 4:=by
 obtain ⟨i,j,e,h1,h2⟩:=zj1 h
 rw [show (zbE frs q n).1=(i:Int) by rw [e]]
 exact zah Fr.cells h1 rfl
end Go.AM
namespace Go.AM
set_option maxRecDepth 100000
set_option maxHeartbeats 1000000
set_option linter.unusedSimpArgs false
set_option linter.unusedVariables false
structure FsOk (n:Nat) (frs:List Fr):Prop where
 len:frs.length+n≤1000000
 cols:∀ f∈frs,zad f.cols
 vals:∀ f∈frs,∀ v∈f.vals,v.small
structure TbOk (tb:List Tb):Prop where
 len:zad tb
 cols:∀ x∈tb,zad x.sch.cols
 rows:∀ x∈tb,x.rows.length≤1000
 vals:∀ x∈tb,∀ r∈x.rows,∀ v∈r.vals,v.small
theorem FsOk.short {n:Nat} {frs:List Fr} (h:FsOk n frs):zad frs:=by have:=h.len;simp only [zad];omega
theorem FsOk.wrap {n:Nat} {frs:List Fr} (h:FsOk n frs):IntKind.i64.wrap ((((frs.map Fr.cells).length:Nat):Int) - 1)=pm1 frs.length:=zsm _ _ h.short
theorem FsOk.less {n:Nat} {frs:List Fr} (h:FsOk (n+1) frs):FsOk n frs:=⟨by have:=h.len;omega,h.cols,h.vals⟩
end Go.AM
namespace Go.AM
set_option maxRecDepth 100000
set_option maxHeartbeats 1000000
set_option linter.unusedSimpArgs false
set_option linter.unusedVariables false
theorem zaV {α:Type} {l:List α} (h:Few l):zad l:=by simp only [Few] at h;simp only [zad];omega
abbrev rIns (frs:List Fr) (tb:List Tb) (q:Qy):List Fr:=zcX frs (zcV tb q.frm).1 []
theorem ziD (tb:List Tb) (n:Str):∀ (l:List Tb) (i:Nat),(∀ x∈l,zad x.sch.cols)→zad (zhB tb n l i).1.cols
 | [],i,_=>by simp [zhB]
 | x::r,i,h=>by
  simp only [zhB,Bool.cond_eq_ite]
  split
  ·exact h x (by simp)
  ·exact ziD tb n r _ (fun y hy=>h y (by simp [hy]))
theorem FsOk.ins {n:Nat} {frs:List Fr} (h:FsOk (n+1) frs) {tb:List Tb} (ht:TbOk tb) (q:Qy):FsOk n (rIns frs tb q):=by
 refine ⟨by have:=h.len;simp [zcX];omega,fun f hf=>?_,fun f hf=>?_⟩
 ·simp only [zcX,List.mem_append,List.mem_singleton] at hf
  rcases hf with hf|rfl
  ·exact h.cols f hf
  ·exact ziD tb q.frm tb 0 ht.cols
 ·simp only [zcX,List.mem_append,List.mem_singleton] at hf
  rcases hf with hf|rfl
  ·exact h.vals f hf
  ·intro v hv;cases hv
end Go.AM
