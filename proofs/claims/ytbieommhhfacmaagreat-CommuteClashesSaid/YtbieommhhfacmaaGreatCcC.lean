/-
  Contracts of the program's functions, part 2.
-/
import Derived.Test.YtbieommhhfacmaaGreatCcB
import Derived.Test.YtbieommhhfacmaaGreatProg
import Derived.KernelRfl
import Derived.Laws.StructEq
import Derived.Laws.Externs
import Derived.Lib.Bytealg
import Derived.WideKeyRuns
import Derived.Laws.IdiomRangeMap
import Derived.Maps.RangeRun
set_option linter.unusedSimpArgs false
set_option linter.unusedVariables false
namespace Go.AM
theorem kr {p : Prop} (h : p := by kernel_rfl) : p := h
namespace S
abbrev law29_CommuteClashes:FuncId:=3
abbrev law29_known:FuncId:=4
abbrev world_New:FuncId:=5
abbrev law29_accesses:FuncId:=6
abbrev commute_Clash:FuncId:=7
abbrev ref29_Clash:FuncId:=8
abbrev law29_writes:FuncId:=9
abbrev commute_After:FuncId:=10
abbrev law29_tables:FuncId:=11
abbrev slices_Equal_string:FuncId:=12
abbrev commute_Keyed:FuncId:=13
abbrev world_Tape_Next:FuncId:=14
abbrev slices_ContainsFunc_Access:FuncId:=15
abbrev commute_Clash_c1:FuncId:=16
abbrev commute_clash:FuncId:=17
abbrev ref29_clashes:FuncId:=18
abbrev world_Col:FuncId:=19
abbrev world_Bin:FuncId:=20
abbrev footprint_Of:FuncId:=21
abbrev footprint_UsesRow:FuncId:=22
abbrev slices_DeleteFunc_Access:FuncId:=23
abbrev commute_After_c1:FuncId:=24
abbrev slices_Contains_string:FuncId:=25
abbrev world_Schemas:FuncId:=26
abbrev commute_keyed:FuncId:=27
abbrev slices_Sort_string:FuncId:=28
abbrev slices_Compact_string:FuncId:=29
abbrev world_Mod:FuncId:=30
abbrev slices_IndexFunc_Access:FuncId:=31
abbrev ref29_rows:FuncId:=32
abbrev footprint_all:FuncId:=33
abbrev footprint_begin:FuncId:=34
abbrev footprint_collector_exprs:FuncId:=35
abbrev footprint_collector_action:FuncId:=36
abbrev footprint_applicable:FuncId:=37
abbrev footprint_collector_list:FuncId:=38
abbrev footprint_UsesRow_c1:FuncId:=39
abbrev trigger_VisitAll:FuncId:=40
abbrev slices_ContainsFunc_Action:FuncId:=41
abbrev footprint_UsesRow_c2:FuncId:=42
abbrev trigger_Visit:FuncId:=43
abbrev slices_Index_string:FuncId:=44
abbrev commute_keyColumn:FuncId:=45
abbrev commute_reads:FuncId:=46
abbrev commute_confined:FuncId:=47
abbrev rank_Sets:FuncId:=48
abbrev slices_pdqsortOrdered_string:FuncId:=49
abbrev math_bits_Len:FuncId:=50
abbrev scope_Source:FuncId:=51
abbrev trigger_Frames:FuncId:=52
abbrev slices_Concat_Table:FuncId:=53
abbrev trigger_Transitions:FuncId:=54
abbrev footprint_collector_column:FuncId:=55
abbrev footprint_collector_query:FuncId:=56
abbrev footprint_collector_known:FuncId:=57
abbrev footprint_inside:FuncId:=58
abbrev footprint_collector_add:FuncId:=59
abbrev footprint_collector_assignment:FuncId:=61
abbrev dml_Assigned:FuncId:=63
abbrev before_Applicable:FuncId:=64
abbrev slices_SortFunc_Access:FuncId:=65
abbrev footprint_collector_list_c1:FuncId:=66
abbrev cmp_Or_int:FuncId:=67
abbrev cmp_Compare_string:FuncId:=68
abbrev cmp_Compare_int:FuncId:=69
abbrev trigger_visitor_exprs:FuncId:=70
abbrev slices_IndexFunc_Action:FuncId:=71
abbrev trigger_visitor_action:FuncId:=72
abbrev schema_KeyColumn:FuncId:=73
abbrev trigger_Reads:FuncId:=74
abbrev slices_ContainsFunc_Trigger:FuncId:=75
abbrev rank_First:FuncId:=77
abbrev commute_safe:FuncId:=78
abbrev rank_sets:FuncId:=79
abbrev slices_insertionSortOrdered_string:FuncId:=80
abbrev math_bits_Len64:FuncId:=90
abbrev slices_IndexFunc_Table:FuncId:=91
abbrev scope_Source_c1:FuncId:=92
abbrev slices_Clone_Column:FuncId:=93
abbrev slices_Clone_Value:FuncId:=94
abbrev slices_Grow_Table:FuncId:=95
abbrev scope_Resolve:FuncId:=99
abbrev slices_Clone_Frame:FuncId:=100
abbrev schema_Find:FuncId:=101
abbrev footprint_Step:FuncId:=104
abbrev slices_ContainsFunc_string:FuncId:=107
abbrev before_Applicable_c1:FuncId:=108
abbrev deep_Trigger:FuncId:=109
abbrev cmp_isNaN_string:FuncId:=111
abbrev cmp_isNaN_int:FuncId:=112
abbrev trigger_visitor_queries:FuncId:=113
abbrev slices_IndexFunc_Column:FuncId:=114
abbrev schema_KeyColumn_c1:FuncId:=115
abbrev trigger_Reads_c1:FuncId:=116
abbrev trigger_Reads_c2:FuncId:=117
abbrev slices_ContainsFunc_Query:FuncId:=118
abbrev slices_IndexFunc_Trigger:FuncId:=119
abbrev schema_Find_c1:FuncId:=130
abbrev slices_IndexFunc_string:FuncId:=134
abbrev slices_Clone_string:FuncId:=135
abbrev slices_Clone_Rank:FuncId:=136
abbrev deep_Exprs:FuncId:=137
abbrev deep_list_api_Action:FuncId:=138
abbrev deep_Action:FuncId:=139
abbrev slices_IndexFunc_Query:FuncId:=148
abbrev deep_list_api_Expr:FuncId:=150
abbrev deep_Expr:FuncId:=151
abbrev deep_list_Lapi_Expr:FuncId:=152
abbrev deep_list_api_Query:FuncId:=153
abbrev deep_Query:FuncId:=154
abbrev deep_list_api_Set:FuncId:=155
abbrev deep_set:FuncId:=156
end S
namespace Ty
abbrev int:TypeId:=3
abbrev bool:TypeId:=4
abbrev string:TypeId:=9
abbrev LAccess:TypeId:=22
abbrev Lint:TypeId:=23
abbrev LExpr:TypeId:=32
abbrev Trigger:TypeId:=35
abbrev Action:TypeId:=41
abbrev Access:TypeId:=52
abbrev Value:TypeId:=57
abbrev Expr:TypeId:=59
abbrev Set:TypeId:=62
abbrev Table:TypeId:=75
abbrev Column:TypeId:=98
abbrev M_Access_bool:TypeId:=115
abbrev Query:TypeId:=120
abbrev Frame:TypeId:=162
abbrev Rank:TypeId:=206
end Ty
def tabA:List TI:=[
 ⟨.scalar,0,0,[]⟩,
 ⟨.scalar,1,8,[.v .nilFunc]⟩,
 ⟨.int .i64,1,8,[(.v (.int .i64 0))]⟩,
 ⟨.int .i64,1,8,[(.v (.int .i64 0))]⟩,
 ⟨.bool,1,1,[.bl false]⟩,
 ⟨.int .u8,1,1,[(.v (.int .u8 0))]⟩,
 ⟨.int .u8,1,1,[(.v (.int .u8 0))]⟩,
 ⟨.struct [0,1,2,3],4,24,[(.v (.int .i64 0)),(.v (.int .i64 0)),.bl false,(.v (.int .u8 0))]⟩,
 ⟨.struct [0,1,2,3],4,24,[(.v (.int .i64 0)),(.v (.int .i64 0)),.bl false,(.v (.int .u8 0))]⟩,
 ⟨.str,1,16,[.v (.string ⟨#[]⟩)]⟩,
 ⟨.str,1,16,[.v (.string ⟨#[]⟩)]⟩,
 ⟨.str,1,16,[.v (.string ⟨#[]⟩)]⟩,
 ⟨.int .u64,1,8,[(.v (.int .u64 0))]⟩,
 ⟨.struct [0,1],2,24,[.v (.string ⟨#[]⟩),(.v (.int .u64 0))]⟩,
 ⟨.struct [0,1],2,24,[.v (.string ⟨#[]⟩),(.v (.int .u64 0))]⟩,
 ⟨.scalar,1,8,[.v (.pointer none)]⟩,
 ⟨.scalar,1,8,[.v (.pointer none)]⟩,
 ⟨.scalar,1,8,[.v (.pointer none)]⟩,
 ⟨.struct [0],1,8,[.v (.pointer none)]⟩,
 ⟨.struct [0],1,8,[.v (.pointer none)]⟩,
 ⟨.scalar,1,16,[.v .nilIface]⟩,
 ⟨.int .i32,1,4,[(.v (.int .i32 0))]⟩,
 ⟨.slice 52,1,24,[.nl]⟩,
 ⟨.slice 3,1,24,[.nl]⟩,
 ⟨.scalar,1,8,[.v .nilFunc]⟩,
 ⟨.scalar,1,8,[.v (.pointer none)]⟩,
 ⟨.scalar,1,8,[.v .nilFunc]⟩,
 ⟨.scalar,1,8,[.v .nilFunc]⟩,
 ⟨.scalar,1,8,[.v .nilFunc]⟩,
 ⟨.scalar,1,8,[.v .nilFunc]⟩,
 ⟨.slice 9,1,24,[.nl]⟩,
 ⟨.slice 206,1,24,[.nl]⟩,
 ⟨.slice 59,1,24,[.nl]⟩,
 ⟨.slice 41,1,24,[.nl]⟩,
 ⟨.struct [0,1,2,3,4,5,6,7,8,9,10],11,200,[.v (.string ⟨#[]⟩),.v (.string ⟨#[]⟩),.bl false,(.v (.int .i64 0)),.nl,.bl false,.nl,.nl,.nl,.nl,.nl]⟩,
 ⟨.struct [0,1,2,3,4,5,6,7,8,9,10],11,200,[.v (.string ⟨#[]⟩),.v (.string ⟨#[]⟩),.bl false,(.v (.int .i64 0)),.nl,.bl false,.nl,.nl,.nl,.nl,.nl]⟩,
 ⟨.scalar,1,8,[.v .nilFunc]⟩,
 ⟨.slice 32,1,24,[.nl]⟩,
 ⟨.slice 120,1,24,[.nl]⟩,
 ⟨.slice 62,1,24,[.nl]⟩,
 ⟨.struct [0,1,2,3,4,5,6],7,136,[(.v (.int .i64 0)),.v (.string ⟨#[]⟩),.nl,.nl,.nl,.nl,.v (.string ⟨#[]⟩)]⟩,
 ⟨.struct [0,1,2,3,4,5,6],7,136,[(.v (.int .i64 0)),.v (.string ⟨#[]⟩),.nl,.nl,.nl,.nl,.v (.string ⟨#[]⟩)]⟩,
 ⟨.scalar,1,8,[.v .nilFunc]⟩,
 ⟨.slice 35,1,24,[.nl]⟩,
 ⟨.slice 75,1,24,[.nl]⟩,
 ⟨.scalar,1,8,[.v .nilFunc]⟩,
 ⟨.scalar,1,8,[.v .nilFunc]⟩,
 ⟨.scalar,1,8,[.v .nilFunc]⟩,
 ⟨.struct [0,1],2,32,[.nl,(.v (.int .i64 0))]⟩,
 ⟨.struct [0,1],2,32,[.nl,(.v (.int .i64 0))]⟩,
 ⟨.scalar,1,8,[.v .nilFunc]⟩,
 ⟨.struct [0,1,2],3,40,[.v (.string ⟨#[]⟩),.v (.string ⟨#[]⟩),(.v (.int .i64 0))]⟩,
 ⟨.struct [0,1,2],3,40,[.v (.string ⟨#[]⟩),.v (.string ⟨#[]⟩),(.v (.int .i64 0))]⟩,
 ⟨.scalar,1,8,[.v .nilFunc]⟩,
 ⟨.scalar,1,8,[.v .nilFunc]⟩,
 ⟨.scalar,1,8,[.v .nilFunc]⟩,
 ⟨.struct [0,1,2],3,32,[(.v (.int .i64 0)),(.v (.int .i64 0)),.v (.string ⟨#[]⟩)]⟩,
 ⟨.struct [0,1,2],3,32,[(.v (.int .i64 0)),(.v (.int .i64 0)),.v (.string ⟨#[]⟩)]⟩,
 ⟨.struct [0,1,2,3,6,7,8,9],10,136,[(.v (.int .i64 0)),(.v (.int .i64 0)),.bl false,(.v (.int .i64 0)),(.v (.int .i64 0)),.v (.string ⟨#[]⟩),.v (.string ⟨#[]⟩),.v (.string ⟨#[]⟩),.nl,.nl]⟩,
 ⟨.struct [0,1,2,3,6,7,8,9],10,136,[(.v (.int .i64 0)),(.v (.int .i64 0)),.bl false,(.v (.int .i64 0)),(.v (.int .i64 0)),.v (.string ⟨#[]⟩),.v (.string ⟨#[]⟩),.v (.string ⟨#[]⟩),.nl,.nl]⟩,
 ⟨.scalar,1,8,[.v .nilFunc]⟩,
 ⟨.struct [0,1],11,152,[.v (.string ⟨#[]⟩),(.v (.int .i64 0)),(.v (.int .i64 0)),.bl false,(.v (.int .i64 0)),(.v (.int .i64 0)),.v (.string ⟨#[]⟩),.v (.string ⟨#[]⟩),.v (.string ⟨#[]⟩),.nl,.nl]⟩,
 ⟨.struct [0,1],11,152,[.v (.string ⟨#[]⟩),(.v (.int .i64 0)),(.v (.int .i64 0)),.bl false,(.v (.int .i64 0)),(.v (.int .i64 0)),.v (.string ⟨#[]⟩),.v (.string ⟨#[]⟩),.v (.string ⟨#[]⟩),.nl,.nl]⟩,
 ⟨.scalar,1,8,[.v .nilFunc]⟩,
 ⟨.scalar,1,8,[.v .nilFunc]⟩,
 ⟨.scalar,1,8,[.v .nilFunc]⟩,
 ⟨.scalar,1,8,[.v .nilFunc]⟩,
 ⟨.scalar,1,8,[.v .nilFunc]⟩,
 ⟨.slice 72,1,24,[.nl]⟩,
 ⟨.scalar,1,8,[.v .nilFunc]⟩,
 ⟨.slice 98,1,24,[.nl]⟩,
 ⟨.struct [0,1],2,40,[.v (.string ⟨#[]⟩),.nl]⟩,
 ⟨.struct [0,1],2,40,[.v (.string ⟨#[]⟩),.nl]⟩,
 ⟨.slice 170,1,24,[.nl]⟩,
 ⟨.struct [0,2,3],4,72,[.v (.string ⟨#[]⟩),.nl,(.v (.int .i64 0)),.nl]⟩,
 ⟨.struct [0,2,3],4,72,[.v (.string ⟨#[]⟩),.nl,(.v (.int .i64 0)),.nl]⟩,
 ⟨.scalar,1,8,[.v .nilFunc]⟩,
 ⟨.scalar,1,8,[.v .nilFunc]⟩,
 ⟨.scalar,1,8,[.v .nilFunc]⟩,
 ⟨.scalar,1,8,[.v .nilFunc]⟩,
 ⟨.scalar,1,8,[.v .nilFunc]⟩,
 ⟨.scalar,1,8,[.v .nilFunc]⟩,
 ⟨.slice 162,1,24,[.nl]⟩,
 ⟨.scalar,0,0,[]⟩,
 ⟨.scalar,1,8,[.v .nilFunc]⟩,
 ⟨.scalar,1,8,[.v (.pointer none)]⟩,
 ⟨.scalar,1,8,[.v .nilFunc]⟩,
 ⟨.scalar,1,8,[.v .nilFunc]⟩,
 ⟨.scalar,1,8,[.v .nilFunc]⟩,
 ⟨.scalar,1,8,[.v .nilFunc]⟩,
 ⟨.scalar,1,8,[.v .nilFunc]⟩,
 ⟨.scalar,1,8,[.v .nilFunc]⟩,
 ⟨.scalar,1,8,[.v .nilFunc]⟩,
 ⟨.scalar,1,8,[.v .nilFunc]⟩,
 ⟨.scalar,1,8,[.v .nilFunc]⟩,
 ⟨.scalar,1,8,[.v .nilFunc]⟩,
 ⟨.scalar,1,8,[.v .nilFunc]⟩,
 ⟨.struct [0,1,2,3],4,32,[.v (.string ⟨#[]⟩),(.v (.int .i64 0)),.bl false,.bl false]⟩,
 ⟨.struct [0,1,2,3],4,32,[.v (.string ⟨#[]⟩),(.v (.int .i64 0)),.bl false,.bl false]⟩,
 ⟨.scalar,0,0,[]⟩,
 ⟨.scalar,1,8,[.v .nilFunc]⟩,
 ⟨.scalar,1,8,[.v .nilFunc]⟩,
 ⟨.scalar,1,8,[.v .nilFunc]⟩,
 ⟨.scalar,1,8,[.v .nilFunc]⟩,
 ⟨.scalar,1,8,[.v .nilFunc]⟩,
 ⟨.scalar,1,8,[.v .nilFunc]⟩,
 ⟨.int .u64,1,8,[(.v (.int .u64 0))]⟩,
 ⟨.scalar,0,0,[]⟩,
 ⟨.scalar,1,8,[.v .nilFunc]⟩,
 ⟨.scalar,1,8,[.v .nilFunc]⟩,
 ⟨.scalar,1,8,[.v .nilFunc]⟩,
 ⟨.scalar,1,8,[.v .nilFunc]⟩,
 ⟨.slice 168,1,24,[.nl]⟩,
 ⟨.struct [0,1,2,3],4,88,[.v (.string ⟨#[]⟩),.nl,.nl,.nl]⟩,
 ⟨.struct [0,1,2,3],4,88,[.v (.string ⟨#[]⟩),.nl,.nl,.nl]⟩,
 ⟨.map 52 4,1,8,[.v (.map none)]⟩,
 ⟨.struct [0,1],2,32,[.nl,.v (.map none)]⟩,
 ⟨.struct [0,1],2,32,[.nl,.v (.map none)]⟩,
 ⟨.scalar,1,8,[.v .nilFunc]⟩,
 ⟨.struct [0,1,2,3],4,72,[.bl false,.nl,.v (.string ⟨#[]⟩),.nl]⟩,
 ⟨.struct [0,1,2,3],4,72,[.bl false,.nl,.v (.string ⟨#[]⟩),.nl]⟩,
 ⟨.scalar,1,8,[.v .nilFunc]⟩,
 ⟨.scalar,1,8,[.v .nilFunc]⟩,
 ⟨.scalar,1,8,[.v .nilFunc]⟩,
 ⟨.scalar,1,8,[.v .nilFunc]⟩,
 ⟨.scalar,1,8,[.v .nilFunc]⟩,
 ⟨.scalar,1,8,[.v .nilFunc]⟩,
 ⟨.scalar,1,8,[.v .nilFunc]⟩,
 ⟨.scalar,1,8,[.v .nilFunc]⟩,
 ⟨.scalar,1,8,[.v .nilFunc]⟩,
 ⟨.scalar,1,8,[.v .nilFunc]⟩,
 ⟨.scalar,1,8,[.v .nilFunc]⟩,
 ⟨.scalar,1,8,[.v .nilFunc]⟩,
 ⟨.scalar,1,8,[.v .nilFunc]⟩,
 ⟨.scalar,1,8,[.v .nilFunc]⟩,
 ⟨.scalar,1,8,[.v .nilFunc]⟩,
 ⟨.scalar,1,8,[.v .nilFunc]⟩,
 ⟨.scalar,1,8,[.v .nilFunc]⟩,
 ⟨.scalar,1,8,[.v .nilFunc]⟩,
 ⟨.slice 4,1,24,[.nl]⟩,
 ⟨.scalar,1,8,[.v .nilFunc]⟩,
 ⟨.scalar,0,0,[]⟩,
 ⟨.scalar,1,8,[.v .nilFunc]⟩,
 ⟨.scalar,1,8,[.v .nilFunc]⟩,
 ⟨.int .i64,1,8,[(.v (.int .i64 0))]⟩,
 ⟨.scalar,0,0,[]⟩,
 ⟨.scalar,1,8,[.v .nilFunc]⟩,
 ⟨.scalar,1,8,[.v .nilFunc]⟩,
 ⟨.scalar,1,8,[.v .nilFunc]⟩,
 ⟨.scalar,1,8,[.v .nilFunc]⟩,
 ⟨.scalar,0,0,[]⟩,
 ⟨.scalar,1,8,[.v .nilFunc]⟩,
 ⟨.scalar,1,8,[.v .nilFunc]⟩,
 ⟨.int .u32,1,4,[(.v (.int .u32 0))]⟩,
 ⟨.scalar,1,8,[.v .nilFunc]⟩,
 ⟨.int .u64,1,8,[(.v (.int .u64 0))]⟩,
 ⟨.scalar,1,8,[.v .nilFunc]⟩,
 ⟨.scalar,1,8,[.v .nilFunc]⟩,
 ⟨.scalar,1,8,[.v .nilFunc]⟩,
 ⟨.slice 57,1,24,[.nl]⟩,
 ⟨.scalar,1,8,[.v .nilFunc]⟩,
 ⟨.struct [0,1,2,3],4,72,[.v (.string ⟨#[]⟩),.bl false,.nl,.nl]⟩,
 ⟨.struct [0,1,2,3],4,72,[.v (.string ⟨#[]⟩),.bl false,.nl,.nl]⟩,
 ⟨.slice 44,1,24,[.nl]⟩,
 ⟨.scalar,1,8,[.v .nilFunc]⟩,
 ⟨.scalar,1,8,[.v .nilFunc]⟩,
 ⟨.scalar,1,8,[.v .nilFunc]⟩,
 ⟨.struct [0,1,2],3,56,[(.v (.int .i64 0)),.nl,.nl]⟩,
 ⟨.struct [0,1,2],3,56,[(.v (.int .i64 0)),.nl,.nl]⟩,
 ⟨.struct [0,1],2,32,[(.v (.int .i64 0)),.nl]⟩,
 ⟨.struct [0,1],2,32,[(.v (.int .i64 0)),.nl]⟩,
 ⟨.scalar,1,8,[.v .nilFunc]⟩,
 ⟨.scalar,0,0,[]⟩,
 ⟨.scalar,1,8,[.v .nilFunc]⟩,
 ⟨.scalar,1,8,[.v .nilFunc]⟩,
 ⟨.scalar,1,8,[.v .nilFunc]⟩,
 ⟨.scalar,0,0,[]⟩,
 ⟨.scalar,1,8,[.v .nilFunc]⟩,
 ⟨.scalar,1,8,[.v .nilFunc]⟩,
 ⟨.scalar,1,8,[.v .nilFunc]⟩,
 ⟨.scalar,1,8,[.v .nilFunc]⟩,
 ⟨.scalar,1,8,[.v .nilFunc]⟩,
 ⟨.scalar,1,8,[.v .nilFunc]⟩,
 ⟨.scalar,1,8,[.v .nilFunc]⟩,
 ⟨.scalar,1,8,[.v .nilFunc]⟩,
 ⟨.scalar,1,8,[.v .nilFunc]⟩,
 ⟨.scalar,1,8,[.v .nilFunc]⟩,
 ⟨.scalar,1,8,[.v .nilFunc]⟩,
 ⟨.scalar,1,8,[.v .nilFunc]⟩,
 ⟨.scalar,1,8,[.v .nilFunc]⟩,
 ⟨.scalar,1,8,[.v .nilFunc]⟩,
 ⟨.int .u64,1,8,[(.v (.int .u64 0))]⟩,
 ⟨.scalar,1,8,[.v .nilFunc]⟩,
 ⟨.scalar,1,8,[.v .nilFunc]⟩,
 ⟨.scalar,1,8,[.v .nilFunc]⟩,
 ⟨.scalar,1,8,[.v (.pointer none)]⟩,
 ⟨.scalar,1,8,[.v .nilFunc]⟩,
 ⟨.scalar,1,8,[.v .nilFunc]⟩,
 ⟨.scalar,1,8,[.v .nilFunc]⟩,
 ⟨.scalar,1,8,[.v .nilFunc]⟩,
 ⟨.scalar,1,8,[.v .nilFunc]⟩,
 ⟨.scalar,1,8,[.v .nilFunc]⟩,
 ⟨.scalar,1,8,[.v .nilFunc]⟩,
 ⟨.scalar,1,8,[.v .nilFunc]⟩,
 ⟨.scalar,1,8,[.v .nilFunc]⟩,
 ⟨.struct [0,1,2,3],4,48,[.v (.string ⟨#[]⟩),.v (.string ⟨#[]⟩),(.v (.int .i64 0)),(.v (.int .i64 0))]⟩,
 ⟨.struct [0,1,2,3],4,48,[.v (.string ⟨#[]⟩),.v (.string ⟨#[]⟩),(.v (.int .i64 0)),(.v (.int .i64 0))]⟩,
 ⟨.scalar,1,8,[.v .nilFunc]⟩,
 ⟨.scalar,1,8,[.v .nilFunc]⟩,
 ⟨.scalar,1,8,[.v .nilFunc]⟩,
 ⟨.scalar,1,8,[.v .nilFunc]⟩,
 ⟨.scalar,1,8,[.v .nilFunc]⟩,
 ⟨.scalar,1,8,[.v .nilFunc]⟩,
 ⟨.scalar,1,8,[.v .nilFunc]⟩,
 ⟨.scalar,1,8,[.v .nilFunc]⟩,
 ⟨.scalar,1,8,[.v (.pointer none)]⟩,
 ⟨.scalar,0,0,[]⟩,
 ⟨.scalar,1,8,[.v .nilFunc]⟩,
 ⟨.scalar,1,8,[.v .nilFunc]⟩,
 ⟨.scalar,1,8,[.v .nilFunc]⟩,
 ⟨.scalar,1,8,[.v .nilFunc]⟩,
 ⟨.scalar,1,8,[.v .nilFunc]⟩,
 ⟨.scalar,1,8,[.v .nilFunc]⟩,
 ⟨.scalar,1,8,[.v .nilFunc]⟩,
 ⟨.scalar,1,8,[.v .nilFunc]⟩,
 ⟨.scalar,1,8,[.v .nilFunc]⟩,
 ⟨.scalar,1,8,[.v .nilFunc]⟩,
 ⟨.scalar,1,8,[.v .nilFunc]⟩,
 ⟨.scalar,1,8,[.v .nilFunc]⟩,
 ⟨.struct [0,1,2,3],4,40,[.v (.pointer none),.v (.pointer none),.v (.pointer none),.v (.string ⟨#[]⟩)]⟩,
 ⟨.struct [0,1,2,3],4,40,[.v (.pointer none),.v (.pointer none),.v (.pointer none),.v (.string ⟨#[]⟩)]⟩,
 ⟨.scalar,0,0,[]⟩,
 ⟨.scalar,0,0,[]⟩,
 ⟨.scalar,0,0,[]⟩,
 ⟨.scalar,1,8,[.v .nilFunc]⟩,
 ⟨.int .u8,1,1,[(.v (.int .u8 0))]⟩,
 ⟨.int .u8,1,1,[(.v (.int .u8 0))]⟩,
 ⟨.scalar,1,8,[.v .nilFunc]⟩,
 ⟨.scalar,1,8,[.v (.pointer none)]⟩,
 ⟨.int .i32,1,4,[(.v (.int .i32 0))]⟩,
 ⟨.int .i32,1,4,[(.v (.int .i32 0))]⟩,
 ⟨.struct [0,1,2,3,4,5,6,7,8,9,10],11,48,[(.v (.int .u64 0)),(.v (.int .u64 0)),(.v (.int .u32 0)),(.v (.int .u8 0)),(.v (.int .u8 0)),(.v (.int .u8 0)),(.v (.int .u8 0)),.v .nilFunc,.v (.pointer none),(.v (.int .i32 0)),(.v (.int .i32 0))]⟩,
 ⟨.struct [0,1,2,3,4,5,6,7,8,9,10],11,48,[(.v (.int .u64 0)),(.v (.int .u64 0)),(.v (.int .u32 0)),(.v (.int .u8 0)),(.v (.int .u8 0)),(.v (.int .u8 0)),(.v (.int .u8 0)),.v .nilFunc,.v (.pointer none),(.v (.int .i32 0)),(.v (.int .i32 0))]⟩,
 ⟨.scalar,0,0,[]⟩]
theorem zoR:zgN Proofs.Tryz.prog tabA tabA.length=true:=by kernel_rfl
theorem mix_ok:Proofs.Tryz.prog.follows .mixedOrders=true:=by kernel_rfl
namespace B
noncomputable abbrev law29_CommuteClashes:Func:=Proofs.Tryz.f3
noncomputable abbrev law29_known:Func:=Proofs.Tryz.f4
noncomputable abbrev world_New:Func:=Proofs.Tryz.f5
noncomputable abbrev law29_accesses:Func:=Proofs.Tryz.f6
noncomputable abbrev commute_Clash:Func:=Proofs.Tryz.f7
noncomputable abbrev ref29_Clash:Func:=Proofs.Tryz.f8
noncomputable abbrev law29_writes:Func:=Proofs.Tryz.f9
noncomputable abbrev commute_After:Func:=Proofs.Tryz.f10
noncomputable abbrev law29_tables:Func:=Proofs.Tryz.f11
noncomputable abbrev slices_Equal_string:Func:=Proofs.Tryz.f12
noncomputable abbrev commute_Keyed:Func:=Proofs.Tryz.f13
noncomputable abbrev world_Tape_Next:Func:=Proofs.Tryz.f14
noncomputable abbrev slices_ContainsFunc_Access:Func:=Proofs.Tryz.f15
noncomputable abbrev commute_Clash_c1:Func:=Proofs.Tryz.f16
noncomputable abbrev commute_clash:Func:=Proofs.Tryz.f17
noncomputable abbrev ref29_clashes:Func:=Proofs.Tryz.f18
noncomputable abbrev world_Col:Func:=Proofs.Tryz.f19
noncomputable abbrev world_Bin:Func:=Proofs.Tryz.f20
noncomputable abbrev footprint_Of:Func:=Proofs.Tryz.f21
noncomputable abbrev footprint_UsesRow:Func:=Proofs.Tryz.f22
noncomputable abbrev slices_DeleteFunc_Access:Func:=Proofs.Tryz.f23
noncomputable abbrev commute_After_c1:Func:=Proofs.Tryz.f24
noncomputable abbrev slices_Contains_string:Func:=Proofs.Tryz.f25
noncomputable abbrev world_Schemas:Func:=Proofs.Tryz.f26
noncomputable abbrev commute_keyed:Func:=Proofs.Tryz.f27
noncomputable abbrev slices_Sort_string:Func:=Proofs.Tryz.f28
noncomputable abbrev slices_Compact_string:Func:=Proofs.Tryz.f29
noncomputable abbrev world_Mod:Func:=Proofs.Tryz.f30
noncomputable abbrev slices_IndexFunc_Access:Func:=Proofs.Tryz.f31
noncomputable abbrev ref29_rows:Func:=Proofs.Tryz.f32
noncomputable abbrev footprint_all:Func:=Proofs.Tryz.f33
noncomputable abbrev footprint_begin:Func:=Proofs.Tryz.f34
noncomputable abbrev footprint_collector_exprs:Func:=Proofs.Tryz.f35
noncomputable abbrev footprint_collector_action:Func:=Proofs.Tryz.f36
noncomputable abbrev footprint_applicable:Func:=Proofs.Tryz.f37
noncomputable abbrev footprint_collector_list:Func:=Proofs.Tryz.f38
noncomputable abbrev footprint_UsesRow_c1:Func:=Proofs.Tryz.f39
noncomputable abbrev trigger_VisitAll:Func:=Proofs.Tryz.f40
noncomputable abbrev slices_ContainsFunc_Action:Func:=Proofs.Tryz.f41
noncomputable abbrev footprint_UsesRow_c2:Func:=Proofs.Tryz.f42
noncomputable abbrev trigger_Visit:Func:=Proofs.Tryz.f43
noncomputable abbrev slices_Index_string:Func:=Proofs.Tryz.f44
noncomputable abbrev commute_keyColumn:Func:=Proofs.Tryz.f45
noncomputable abbrev commute_reads:Func:=Proofs.Tryz.f46
noncomputable abbrev commute_confined:Func:=Proofs.Tryz.f47
noncomputable abbrev rank_Sets:Func:=Proofs.Tryz.f48
noncomputable abbrev slices_pdqsortOrdered_string:Func:=Proofs.Tryz.f49
noncomputable abbrev math_bits_Len:Func:=Proofs.Tryz.f50
noncomputable abbrev scope_Source:Func:=Proofs.Tryz.f51
noncomputable abbrev trigger_Frames:Func:=Proofs.Tryz.f52
noncomputable abbrev slices_Concat_Table:Func:=Proofs.Tryz.f53
noncomputable abbrev trigger_Transitions:Func:=Proofs.Tryz.f54
noncomputable abbrev footprint_collector_column:Func:=Proofs.Tryz.f55
noncomputable abbrev footprint_collector_query:Func:=Proofs.Tryz.f56
noncomputable abbrev footprint_collector_known:Func:=Proofs.Tryz.f57
noncomputable abbrev footprint_inside:Func:=Proofs.Tryz.f58
noncomputable abbrev footprint_collector_add:Func:=Proofs.Tryz.f59
noncomputable abbrev footprint_collector_assignment:Func:=Proofs.Tryz.f61
noncomputable abbrev dml_Assigned:Func:=Proofs.Tryz.f63
noncomputable abbrev before_Applicable:Func:=Proofs.Tryz.f64
noncomputable abbrev slices_SortFunc_Access:Func:=Proofs.Tryz.f65
noncomputable abbrev footprint_collector_list_c1:Func:=Proofs.Tryz.f66
noncomputable abbrev cmp_Or_int:Func:=Proofs.Tryz.f67
noncomputable abbrev cmp_Compare_string:Func:=Proofs.Tryz.f68
noncomputable abbrev cmp_Compare_int:Func:=Proofs.Tryz.f69
noncomputable abbrev trigger_visitor_exprs:Func:=Proofs.Tryz.f70
noncomputable abbrev slices_IndexFunc_Action:Func:=Proofs.Tryz.f71
noncomputable abbrev trigger_visitor_action:Func:=Proofs.Tryz.f72
noncomputable abbrev schema_KeyColumn:Func:=Proofs.Tryz.f73
noncomputable abbrev trigger_Reads:Func:=Proofs.Tryz.f74
noncomputable abbrev slices_ContainsFunc_Trigger:Func:=Proofs.Tryz.f75
noncomputable abbrev rank_First:Func:=Proofs.Tryz.f77
noncomputable abbrev commute_safe:Func:=Proofs.Tryz.f78
noncomputable abbrev rank_sets:Func:=Proofs.Tryz.f79
noncomputable abbrev slices_insertionSortOrdered_string:Func:=Proofs.Tryz.f80
noncomputable abbrev math_bits_Len64:Func:=Proofs.Tryz.f90
noncomputable abbrev slices_IndexFunc_Table:Func:=Proofs.Tryz.f91
noncomputable abbrev scope_Source_c1:Func:=Proofs.Tryz.f92
noncomputable abbrev slices_Clone_Column:Func:=Proofs.Tryz.f93
noncomputable abbrev slices_Clone_Value:Func:=Proofs.Tryz.f94
noncomputable abbrev slices_Grow_Table:Func:=Proofs.Tryz.f95
noncomputable abbrev scope_Resolve:Func:=Proofs.Tryz.f99
noncomputable abbrev slices_Clone_Frame:Func:=Proofs.Tryz.f100
noncomputable abbrev schema_Find:Func:=Proofs.Tryz.f101
noncomputable abbrev footprint_Step:Func:=Proofs.Tryz.f104
noncomputable abbrev slices_ContainsFunc_string:Func:=Proofs.Tryz.f107
noncomputable abbrev before_Applicable_c1:Func:=Proofs.Tryz.f108
noncomputable abbrev deep_Trigger:Func:=Proofs.Tryz.f109
noncomputable abbrev cmp_isNaN_string:Func:=Proofs.Tryz.f111
noncomputable abbrev cmp_isNaN_int:Func:=Proofs.Tryz.f112
noncomputable abbrev trigger_visitor_queries:Func:=Proofs.Tryz.f113
noncomputable abbrev slices_IndexFunc_Column:Func:=Proofs.Tryz.f114
noncomputable abbrev schema_KeyColumn_c1:Func:=Proofs.Tryz.f115
noncomputable abbrev trigger_Reads_c1:Func:=Proofs.Tryz.f116
noncomputable abbrev trigger_Reads_c2:Func:=Proofs.Tryz.f117
noncomputable abbrev slices_ContainsFunc_Query:Func:=Proofs.Tryz.f118
noncomputable abbrev slices_IndexFunc_Trigger:Func:=Proofs.Tryz.f119
noncomputable abbrev schema_Find_c1:Func:=Proofs.Tryz.f130
noncomputable abbrev slices_IndexFunc_string:Func:=Proofs.Tryz.f134
noncomputable abbrev slices_Clone_string:Func:=Proofs.Tryz.f135
noncomputable abbrev slices_Clone_Rank:Func:=Proofs.Tryz.f136
noncomputable abbrev deep_Exprs:Func:=Proofs.Tryz.f137
noncomputable abbrev deep_list_api_Action:Func:=Proofs.Tryz.f138
noncomputable abbrev deep_Action:Func:=Proofs.Tryz.f139
noncomputable abbrev slices_IndexFunc_Query:Func:=Proofs.Tryz.f148
noncomputable abbrev deep_list_api_Expr:Func:=Proofs.Tryz.f150
noncomputable abbrev deep_Expr:Func:=Proofs.Tryz.f151
noncomputable abbrev deep_list_Lapi_Expr:Func:=Proofs.Tryz.f152
noncomputable abbrev deep_list_api_Query:Func:=Proofs.Tryz.f153
noncomputable abbrev deep_Query:Func:=Proofs.Tryz.f154
noncomputable abbrev deep_list_api_Set:Func:=Proofs.Tryz.f155
noncomputable abbrev deep_set:Func:=Proofs.Tryz.f156
end B
namespace At
theorem law29_CommuteClashes:Proofs.Tryz.prog.funcs[S.law29_CommuteClashes]?=some B.law29_CommuteClashes:=Proofs.Tryz.func3
theorem law29_known:Proofs.Tryz.prog.funcs[S.law29_known]?=some B.law29_known:=Proofs.Tryz.func4
theorem world_New:Proofs.Tryz.prog.funcs[S.world_New]?=some B.world_New:=Proofs.Tryz.func5
theorem law29_accesses:Proofs.Tryz.prog.funcs[S.law29_accesses]?=some B.law29_accesses:=Proofs.Tryz.func6
theorem commute_Clash:Proofs.Tryz.prog.funcs[S.commute_Clash]?=some B.commute_Clash:=Proofs.Tryz.func7
theorem ref29_Clash:Proofs.Tryz.prog.funcs[S.ref29_Clash]?=some B.ref29_Clash:=Proofs.Tryz.func8
theorem law29_writes:Proofs.Tryz.prog.funcs[S.law29_writes]?=some B.law29_writes:=Proofs.Tryz.func9
theorem commute_After:Proofs.Tryz.prog.funcs[S.commute_After]?=some B.commute_After:=Proofs.Tryz.func10
theorem law29_tables:Proofs.Tryz.prog.funcs[S.law29_tables]?=some B.law29_tables:=Proofs.Tryz.func11
theorem slices_Equal_string:Proofs.Tryz.prog.funcs[S.slices_Equal_string]?=some B.slices_Equal_string:=Proofs.Tryz.func12
theorem commute_Keyed:Proofs.Tryz.prog.funcs[S.commute_Keyed]?=some B.commute_Keyed:=Proofs.Tryz.func13
theorem world_Tape_Next:Proofs.Tryz.prog.funcs[S.world_Tape_Next]?=some B.world_Tape_Next:=Proofs.Tryz.func14
theorem slices_ContainsFunc_Access:Proofs.Tryz.prog.funcs[S.slices_ContainsFunc_Access]?=some B.slices_ContainsFunc_Access:=Proofs.Tryz.func15
theorem commute_Clash_c1:Proofs.Tryz.prog.funcs[S.commute_Clash_c1]?=some B.commute_Clash_c1:=Proofs.Tryz.func16
theorem commute_clash:Proofs.Tryz.prog.funcs[S.commute_clash]?=some B.commute_clash:=Proofs.Tryz.func17
theorem ref29_clashes:Proofs.Tryz.prog.funcs[S.ref29_clashes]?=some B.ref29_clashes:=Proofs.Tryz.func18
theorem world_Col:Proofs.Tryz.prog.funcs[S.world_Col]?=some B.world_Col:=Proofs.Tryz.func19
theorem world_Bin:Proofs.Tryz.prog.funcs[S.world_Bin]?=some B.world_Bin:=Proofs.Tryz.func20
theorem footprint_Of:Proofs.Tryz.prog.funcs[S.footprint_Of]?=some B.footprint_Of:=Proofs.Tryz.func21
theorem footprint_UsesRow:Proofs.Tryz.prog.funcs[S.footprint_UsesRow]?=some B.footprint_UsesRow:=Proofs.Tryz.func22
theorem slices_DeleteFunc_Access:Proofs.Tryz.prog.funcs[S.slices_DeleteFunc_Access]?=some B.slices_DeleteFunc_Access:=Proofs.Tryz.func23
theorem commute_After_c1:Proofs.Tryz.prog.funcs[S.commute_After_c1]?=some B.commute_After_c1:=Proofs.Tryz.func24
theorem slices_Contains_string:Proofs.Tryz.prog.funcs[S.slices_Contains_string]?=some B.slices_Contains_string:=Proofs.Tryz.func25
theorem world_Schemas:Proofs.Tryz.prog.funcs[S.world_Schemas]?=some B.world_Schemas:=Proofs.Tryz.func26
theorem commute_keyed:Proofs.Tryz.prog.funcs[S.commute_keyed]?=some B.commute_keyed:=Proofs.Tryz.func27
theorem slices_Sort_string:Proofs.Tryz.prog.funcs[S.slices_Sort_string]?=some B.slices_Sort_string:=Proofs.Tryz.func28
theorem slices_Compact_string:Proofs.Tryz.prog.funcs[S.slices_Compact_string]?=some B.slices_Compact_string:=Proofs.Tryz.func29
theorem world_Mod:Proofs.Tryz.prog.funcs[S.world_Mod]?=some B.world_Mod:=Proofs.Tryz.func30
theorem slices_IndexFunc_Access:Proofs.Tryz.prog.funcs[S.slices_IndexFunc_Access]?=some B.slices_IndexFunc_Access:=Proofs.Tryz.func31
theorem ref29_rows:Proofs.Tryz.prog.funcs[S.ref29_rows]?=some B.ref29_rows:=Proofs.Tryz.func32
theorem footprint_all:Proofs.Tryz.prog.funcs[S.footprint_all]?=some B.footprint_all:=Proofs.Tryz.func33
theorem footprint_begin:Proofs.Tryz.prog.funcs[S.footprint_begin]?=some B.footprint_begin:=Proofs.Tryz.func34
theorem footprint_collector_exprs:Proofs.Tryz.prog.funcs[S.footprint_collector_exprs]?=some B.footprint_collector_exprs:=Proofs.Tryz.func35
theorem footprint_collector_action:Proofs.Tryz.prog.funcs[S.footprint_collector_action]?=some B.footprint_collector_action:=Proofs.Tryz.func36
theorem footprint_applicable:Proofs.Tryz.prog.funcs[S.footprint_applicable]?=some B.footprint_applicable:=Proofs.Tryz.func37
theorem footprint_collector_list:Proofs.Tryz.prog.funcs[S.footprint_collector_list]?=some B.footprint_collector_list:=Proofs.Tryz.func38
theorem footprint_UsesRow_c1:Proofs.Tryz.prog.funcs[S.footprint_UsesRow_c1]?=some B.footprint_UsesRow_c1:=Proofs.Tryz.func39
theorem trigger_VisitAll:Proofs.Tryz.prog.funcs[S.trigger_VisitAll]?=some B.trigger_VisitAll:=Proofs.Tryz.func40
theorem slices_ContainsFunc_Action:Proofs.Tryz.prog.funcs[S.slices_ContainsFunc_Action]?=some B.slices_ContainsFunc_Action:=Proofs.Tryz.func41
theorem footprint_UsesRow_c2:Proofs.Tryz.prog.funcs[S.footprint_UsesRow_c2]?=some B.footprint_UsesRow_c2:=Proofs.Tryz.func42
theorem trigger_Visit:Proofs.Tryz.prog.funcs[S.trigger_Visit]?=some B.trigger_Visit:=Proofs.Tryz.func43
theorem slices_Index_string:Proofs.Tryz.prog.funcs[S.slices_Index_string]?=some B.slices_Index_string:=Proofs.Tryz.func44
theorem commute_keyColumn:Proofs.Tryz.prog.funcs[S.commute_keyColumn]?=some B.commute_keyColumn:=Proofs.Tryz.func45
theorem commute_reads:Proofs.Tryz.prog.funcs[S.commute_reads]?=some B.commute_reads:=Proofs.Tryz.func46
theorem commute_confined:Proofs.Tryz.prog.funcs[S.commute_confined]?=some B.commute_confined:=Proofs.Tryz.func47
theorem rank_Sets:Proofs.Tryz.prog.funcs[S.rank_Sets]?=some B.rank_Sets:=Proofs.Tryz.func48
theorem slices_pdqsortOrdered_string:Proofs.Tryz.prog.funcs[S.slices_pdqsortOrdered_string]?=some B.slices_pdqsortOrdered_string:=Proofs.Tryz.func49
theorem math_bits_Len:Proofs.Tryz.prog.funcs[S.math_bits_Len]?=some B.math_bits_Len:=Proofs.Tryz.func50
theorem scope_Source:Proofs.Tryz.prog.funcs[S.scope_Source]?=some B.scope_Source:=Proofs.Tryz.func51
theorem trigger_Frames:Proofs.Tryz.prog.funcs[S.trigger_Frames]?=some B.trigger_Frames:=Proofs.Tryz.func52
theorem slices_Concat_Table:Proofs.Tryz.prog.funcs[S.slices_Concat_Table]?=some B.slices_Concat_Table:=Proofs.Tryz.func53
theorem trigger_Transitions:Proofs.Tryz.prog.funcs[S.trigger_Transitions]?=some B.trigger_Transitions:=Proofs.Tryz.func54
theorem footprint_collector_column:Proofs.Tryz.prog.funcs[S.footprint_collector_column]?=some B.footprint_collector_column:=Proofs.Tryz.func55
theorem footprint_collector_query:Proofs.Tryz.prog.funcs[S.footprint_collector_query]?=some B.footprint_collector_query:=Proofs.Tryz.func56
theorem footprint_collector_known:Proofs.Tryz.prog.funcs[S.footprint_collector_known]?=some B.footprint_collector_known:=Proofs.Tryz.func57
theorem footprint_inside:Proofs.Tryz.prog.funcs[S.footprint_inside]?=some B.footprint_inside:=Proofs.Tryz.func58
theorem footprint_collector_add:Proofs.Tryz.prog.funcs[S.footprint_collector_add]?=some B.footprint_collector_add:=Proofs.Tryz.func59
theorem footprint_collector_assignment:Proofs.Tryz.prog.funcs[S.footprint_collector_assignment]?=some B.footprint_collector_assignment:=Proofs.Tryz.func61
theorem dml_Assigned:Proofs.Tryz.prog.funcs[S.dml_Assigned]?=some B.dml_Assigned:=Proofs.Tryz.func63
theorem before_Applicable:Proofs.Tryz.prog.funcs[S.before_Applicable]?=some B.before_Applicable:=Proofs.Tryz.func64
theorem slices_SortFunc_Access:Proofs.Tryz.prog.funcs[S.slices_SortFunc_Access]?=some B.slices_SortFunc_Access:=Proofs.Tryz.func65
theorem footprint_collector_list_c1:Proofs.Tryz.prog.funcs[S.footprint_collector_list_c1]?=some B.footprint_collector_list_c1:=Proofs.Tryz.func66
theorem cmp_Or_int:Proofs.Tryz.prog.funcs[S.cmp_Or_int]?=some B.cmp_Or_int:=Proofs.Tryz.func67
theorem cmp_Compare_string:Proofs.Tryz.prog.funcs[S.cmp_Compare_string]?=some B.cmp_Compare_string:=Proofs.Tryz.func68
theorem cmp_Compare_int:Proofs.Tryz.prog.funcs[S.cmp_Compare_int]?=some B.cmp_Compare_int:=Proofs.Tryz.func69
theorem trigger_visitor_exprs:Proofs.Tryz.prog.funcs[S.trigger_visitor_exprs]?=some B.trigger_visitor_exprs:=Proofs.Tryz.func70
theorem slices_IndexFunc_Action:Proofs.Tryz.prog.funcs[S.slices_IndexFunc_Action]?=some B.slices_IndexFunc_Action:=Proofs.Tryz.func71
theorem trigger_visitor_action:Proofs.Tryz.prog.funcs[S.trigger_visitor_action]?=some B.trigger_visitor_action:=Proofs.Tryz.func72
theorem schema_KeyColumn:Proofs.Tryz.prog.funcs[S.schema_KeyColumn]?=some B.schema_KeyColumn:=Proofs.Tryz.func73
theorem trigger_Reads:Proofs.Tryz.prog.funcs[S.trigger_Reads]?=some B.trigger_Reads:=Proofs.Tryz.func74
theorem slices_ContainsFunc_Trigger:Proofs.Tryz.prog.funcs[S.slices_ContainsFunc_Trigger]?=some B.slices_ContainsFunc_Trigger:=Proofs.Tryz.func75
theorem rank_First:Proofs.Tryz.prog.funcs[S.rank_First]?=some B.rank_First:=Proofs.Tryz.func77
theorem commute_safe:Proofs.Tryz.prog.funcs[S.commute_safe]?=some B.commute_safe:=Proofs.Tryz.func78
theorem rank_sets:Proofs.Tryz.prog.funcs[S.rank_sets]?=some B.rank_sets:=Proofs.Tryz.func79
theorem slices_insertionSortOrdered_string:Proofs.Tryz.prog.funcs[S.slices_insertionSortOrdered_string]?=some B.slices_insertionSortOrdered_string:=Proofs.Tryz.func80
theorem math_bits_Len64:Proofs.Tryz.prog.funcs[S.math_bits_Len64]?=some B.math_bits_Len64:=Proofs.Tryz.func90
theorem slices_IndexFunc_Table:Proofs.Tryz.prog.funcs[S.slices_IndexFunc_Table]?=some B.slices_IndexFunc_Table:=Proofs.Tryz.func91
theorem scope_Source_c1:Proofs.Tryz.prog.funcs[S.scope_Source_c1]?=some B.scope_Source_c1:=Proofs.Tryz.func92
theorem slices_Clone_Column:Proofs.Tryz.prog.funcs[S.slices_Clone_Column]?=some B.slices_Clone_Column:=Proofs.Tryz.func93
theorem slices_Clone_Value:Proofs.Tryz.prog.funcs[S.slices_Clone_Value]?=some B.slices_Clone_Value:=Proofs.Tryz.func94
theorem slices_Grow_Table:Proofs.Tryz.prog.funcs[S.slices_Grow_Table]?=some B.slices_Grow_Table:=Proofs.Tryz.func95
theorem scope_Resolve:Proofs.Tryz.prog.funcs[S.scope_Resolve]?=some B.scope_Resolve:=Proofs.Tryz.func99
theorem slices_Clone_Frame:Proofs.Tryz.prog.funcs[S.slices_Clone_Frame]?=some B.slices_Clone_Frame:=Proofs.Tryz.func100
theorem schema_Find:Proofs.Tryz.prog.funcs[S.schema_Find]?=some B.schema_Find:=Proofs.Tryz.func101
theorem footprint_Step:Proofs.Tryz.prog.funcs[S.footprint_Step]?=some B.footprint_Step:=Proofs.Tryz.func104
theorem slices_ContainsFunc_string:Proofs.Tryz.prog.funcs[S.slices_ContainsFunc_string]?=some B.slices_ContainsFunc_string:=Proofs.Tryz.func107
theorem before_Applicable_c1:Proofs.Tryz.prog.funcs[S.before_Applicable_c1]?=some B.before_Applicable_c1:=Proofs.Tryz.func108
theorem deep_Trigger:Proofs.Tryz.prog.funcs[S.deep_Trigger]?=some B.deep_Trigger:=Proofs.Tryz.func109
theorem cmp_isNaN_string:Proofs.Tryz.prog.funcs[S.cmp_isNaN_string]?=some B.cmp_isNaN_string:=Proofs.Tryz.func111
theorem cmp_isNaN_int:Proofs.Tryz.prog.funcs[S.cmp_isNaN_int]?=some B.cmp_isNaN_int:=Proofs.Tryz.func112
theorem trigger_visitor_queries:Proofs.Tryz.prog.funcs[S.trigger_visitor_queries]?=some B.trigger_visitor_queries:=Proofs.Tryz.func113
theorem slices_IndexFunc_Column:Proofs.Tryz.prog.funcs[S.slices_IndexFunc_Column]?=some B.slices_IndexFunc_Column:=Proofs.Tryz.func114
theorem schema_KeyColumn_c1:Proofs.Tryz.prog.funcs[S.schema_KeyColumn_c1]?=some B.schema_KeyColumn_c1:=Proofs.Tryz.func115
theorem trigger_Reads_c1:Proofs.Tryz.prog.funcs[S.trigger_Reads_c1]?=some B.trigger_Reads_c1:=Proofs.Tryz.func116
theorem trigger_Reads_c2:Proofs.Tryz.prog.funcs[S.trigger_Reads_c2]?=some B.trigger_Reads_c2:=Proofs.Tryz.func117
theorem slices_ContainsFunc_Query:Proofs.Tryz.prog.funcs[S.slices_ContainsFunc_Query]?=some B.slices_ContainsFunc_Query:=Proofs.Tryz.func118
theorem slices_IndexFunc_Trigger:Proofs.Tryz.prog.funcs[S.slices_IndexFunc_Trigger]?=some B.slices_IndexFunc_Trigger:=Proofs.Tryz.func119
theorem schema_Find_c1:Proofs.Tryz.prog.funcs[S.schema_Find_c1]?=some B.schema_Find_c1:=Proofs.Tryz.func130
theorem slices_IndexFunc_string:Proofs.Tryz.prog.funcs[S.slices_IndexFunc_string]?=some B.slices_IndexFunc_string:=Proofs.Tryz.func134
theorem slices_Clone_string:Proofs.Tryz.prog.funcs[S.slices_Clone_string]?=some B.slices_Clone_string:=Proofs.Tryz.func135
theorem slices_Clone_Rank:Proofs.Tryz.prog.funcs[S.slices_Clone_Rank]?=some B.slices_Clone_Rank:=Proofs.Tryz.func136
theorem deep_Exprs:Proofs.Tryz.prog.funcs[S.deep_Exprs]?=some B.deep_Exprs:=Proofs.Tryz.func137
theorem deep_list_api_Action:Proofs.Tryz.prog.funcs[S.deep_list_api_Action]?=some B.deep_list_api_Action:=Proofs.Tryz.func138
theorem deep_Action:Proofs.Tryz.prog.funcs[S.deep_Action]?=some B.deep_Action:=Proofs.Tryz.func139
theorem slices_IndexFunc_Query:Proofs.Tryz.prog.funcs[S.slices_IndexFunc_Query]?=some B.slices_IndexFunc_Query:=Proofs.Tryz.func148
theorem deep_list_api_Expr:Proofs.Tryz.prog.funcs[S.deep_list_api_Expr]?=some B.deep_list_api_Expr:=Proofs.Tryz.func150
theorem deep_Expr:Proofs.Tryz.prog.funcs[S.deep_Expr]?=some B.deep_Expr:=Proofs.Tryz.func151
theorem deep_list_Lapi_Expr:Proofs.Tryz.prog.funcs[S.deep_list_Lapi_Expr]?=some B.deep_list_Lapi_Expr:=Proofs.Tryz.func152
theorem deep_list_api_Query:Proofs.Tryz.prog.funcs[S.deep_list_api_Query]?=some B.deep_list_api_Query:=Proofs.Tryz.func153
theorem deep_Query:Proofs.Tryz.prog.funcs[S.deep_Query]?=some B.deep_Query:=Proofs.Tryz.func154
theorem deep_list_api_Set:Proofs.Tryz.prog.funcs[S.deep_list_api_Set]?=some B.deep_list_api_Set:=Proofs.Tryz.func155
theorem deep_set:Proofs.Tryz.prog.funcs[S.deep_set]?=some B.deep_set:=Proofs.Tryz.func156
end At
end Go.AM
namespace Go.AM
theorem Rel.nilRow {E:Env0} {h:Heap} {β:List Con} {S:Addr→Prop} {w:World} (r:Rel E h β S w) (e:TypeId) (a:Option Addr) :
  Ext h β S w (h++[Blk.row e [] false]) (β++[.nil a]) S w∧Rel E (h++[Blk.row e [] false]) (β++[.nil a]) S w :=
 r.newRow e [] false (.nil a) ⟨⟨rfl,rfl,rfl,Nat.le_refl _,fun _ _=>rfl⟩,Nat.le_refl _⟩ (fun g hg=>by cases hg) rfl
theorem zfe {T:TypeId→TI} {h:Heap} {β:List Con} {S:Addr→Prop} {w:World} {v:Value} (hv:RelV T h β w S .nl v):∃ a,v=.slice a 0 0:=by
 cases hv with
 | d _ _ hd=>cases hd
 | nl a=>exact ⟨a,rfl⟩
theorem Rel.ownNil {E:Env0} {h:Heap} {β:List Con} {S:Addr→Prop} {w:World} (r:Rel E h β S w) (e:TypeId) (a:Option Addr) :
  RelV E.T (h++[Blk.row e [] false]) (β++[.nil a]) w S (.own h.length 0) (.slice a 0 0) :=
 .own _ _ _ e [] false (getElem?_append_new _ _) (Nat.le_refl _) (fun _=>by rw [← r.len,getElem?_append_new];rfl) rfl
theorem zoh {E:Env0} {fn:Func} {h0:Heap} {c:Cfg} {R:AV→Heap→Prop} (t:Nat) (e:TypeId) (hc:look c.ts t=.nl)
  (hg:Good E fn h0 ⟨c.n,c.todo,(t,.own c.h.length 0)::c.ts,c.h++[Blk.row e [] false]⟩ R):Good E fn h0 c R:=by
 intro β0 S0 w0 β S w tmps hb0 hn x0 r rt
 have ht:=rt t
 rw [hc] at ht
 obtain ⟨a,ha⟩:=zfe ht
 obtain ⟨x1,r1⟩:=r.nilRow e a
 refine hg β0 S0 w0 _ S w tmps hb0 hn (x0.trans x1) r1 fun t'=>?_
 simp only [look]
 cases hb:Nat.beq t t' with
 | true =>
  have:=Nat.eq_of_beq_eq_true hb
  subst this
  simp only
  rw [ha]
  exact r.ownNil e a
 | false=>exact (rt t').ext x1
theorem zc2 {E:Env0} {fn:Func} {h0 H:Heap} {c:Cfg} {R:AV→Heap→Prop} (e:TypeId) (hg:Good E fn h0 c fun r h=>r=.nl∧h=H)
  (hR:R (.own H.length 0) (H++[Blk.row e [] false])):Good E fn h0 c R:=by
 intro β0 S0 w0 β S w tmps hb0 hn x0 r rt
 refine zbZ (zgw fun en w' hp=>?_) _ _ _ _ (hg β0 S0 w0 β S w tmps hb0 hn x0 r rt)
 obtain ⟨y,h',β',S',v,he,⟨rfl,rfl⟩,r',x',hv⟩:=hp
 obtain ⟨a,rfl⟩:=zfe hv
 obtain ⟨x1,r1⟩:=r'.nilRow e a
 exact ⟨_,_,_,S',_,he,hR,r1,x'.trans x1,r'.ownNil e a⟩
theorem zeC {h:Heap} {β:List Con} {S:Addr→Prop} {w:World} {b:Nat} {cs:List AV} (hb:h[b]?=some (.box cs)) (cs':List AV):Ext h β S w (h.set b (.box cs')) β S w :=
 { Ext.refl h β S w with
  box:=fun b' cs1 h1=>by
   by_cases hbb:b=b'
   ·subst hbb
    exact ⟨cs',by rw [List.getElem?_set_self (List.getElem?_eq_some_iff.1 hb).1]⟩
   ·exact ⟨cs1,by rw [List.getElem?_set_ne hbb];exact h1⟩
  row:=fun b' e xs sh h1=>by
   have hbb:b≠b':=fun e=>by subst e;rw [hb] at h1;cases h1
   exact ⟨xs,sh,by rw [List.getElem?_set_ne hbb];exact h1,Nat.le_refl _,fun _=>rfl⟩
  mp:=fun b' es h1=>by
   have hbb:b≠b':=fun e=>by subst e;rw [hb] at h1;cases h1
   exact ⟨es,by rw [List.getElem?_set_ne hbb];exact h1⟩ }
theorem Rel.setBox {E:Env0} {h:Heap} {β:List Con} {S:Addr→Prop} {w:World} (r:Rel E h β S w) {b:Nat} {cs:List AV} (hb:h[b]?=some (.box cs)) (cs':List AV)
  (hc:∀ (g:Nat) (vs:List Value) (t:TypeId),β[b]?=some (.box g)→w.heap[g]?=some (.cells vs.toArray t (0,0))→cs.length=vs.length→(∀ (i:Nat) (x:AV) (y:Value),cs[i]?=some x→vs[i]?=some y→RelV E.T h β w S x y∧y.oneCell'=true) →
   cs'.length=vs.length∧∀ (i:Nat) (x:AV) (y:Value),cs'[i]?=some x→vs[i]?=some y→RelV E.T h β w S x y∧y.oneCell'=true):Rel E (h.set b (.box cs')) β S w:=by
 have x:=zeC (β:=β) (S:=S) (w:=w) hb cs'
 have ne:∀ {b':Nat} {e:TypeId} {xs:List (List AV)} {sh:Bool},(h.set b (.box cs'))[b']?=some (.row e xs sh)→b≠b'∧h[b']?=some (.row e xs sh):=by
  intro b' e xs sh h1
  by_cases hbb:b=b'
  ·subst hbb
   rw [List.getElem?_set_self (List.getElem?_eq_some_iff.1 hb).1] at h1
   cases h1
  ·rw [List.getElem?_set_ne hbb] at h1
   exact ⟨hbb,h1⟩
 have nem:∀ {b':Nat} {es:List (AV × AV)},(h.set b (.box cs'))[b']?=some (.mp es)→h[b']?=some (.mp es):=by
  intro b' es h1
  by_cases hbb:b=b'
  ·subst hbb
   rw [List.getElem?_set_self (List.getElem?_eq_some_iff.1 hb).1] at h1
   cases h1
  ·rw [List.getElem?_set_ne hbb] at h1
   exact h1
 refine { r with len:=by simpa using r.len,box:=?_,row:=fun b' e xs sh h1=>r.row b' e xs sh (ne h1).2,mp:=fun b' es h1=>r.mp b' es (nem h1),free:=?_ }
 ·intro b' cs1 h1
  by_cases hbb:b=b'
  ·subst hbb
   rw [List.getElem?_set_self (List.getElem?_eq_some_iff.1 hb).1] at h1
   cases h1
   obtain ⟨g,vs,t,h2,h3,h4,h5⟩:=r.box b cs hb
   obtain ⟨h6,h7⟩:=hc g vs t h2 h3 h4 h5
   exact ⟨g,vs,t,h2,h3,h6,fun i y z hy hz=>⟨(h7 i y z hy hz).1.ext x,(h7 i y z hy hz).2⟩⟩
  ·rw [List.getElem?_set_ne hbb] at h1
   obtain ⟨g,vs,t,h2,h3,h4,h5⟩:=r.box b' cs1 h1
   exact ⟨g,vs,t,h2,h3,h4,fun i y z hy hz=>⟨(h5 i y z hy hz).1.ext x,(h5 i y z hy hz).2⟩⟩
 ·intro b' k g a h1 h2 h3 h4
  obtain ⟨e,xs,h5,h6⟩:=r.free b' k g a h1 h2 h3 h4
  have hbb:b≠b':=fun e=>by subst e;rw [hb] at h5;cases h5
  exact ⟨e,xs,by rw [List.getElem?_set_ne hbb];exact h5,h6⟩
theorem zlt {E:Env0} {fn:Func} {h0:Heap} {c:Cfg} {R:AV→Heap→Prop} (b i:Nat) (e:TypeId) {cs:List AV} (hb:c.h[b]?=some (.box cs)) (hi:cs[i]?=some .nl)
  (hg:Good E fn h0 ⟨c.n,c.todo,c.ts,(c.h++[Blk.row e [] false]).set b (.box (cs.set i (.own c.h.length 0)))⟩ R):Good E fn h0 c R:=by
 intro β0 S0 w0 β S w tmps hb0 hn x0 r rt
 obtain ⟨g,vs,t,h2,h3,h4,h5⟩:=r.box b cs hb
 have hil:i < vs.length:=by rw [← h4];exact (List.getElem?_eq_some_iff.1 hi).1
 have hv:=h5 i .nl vs[i] hi (by simp [hil])
 obtain ⟨a,ha⟩:=zfe hv.1
 obtain ⟨x1,r1⟩:=r.nilRow e a
 have hb1:(c.h++[Blk.row e [] false])[b]?=some (.box cs):=by rw [List.getElem?_append_left (List.getElem?_eq_some_iff.1 hb).1];exact hb
 have x2:=zeC (β:=β++[.nil a]) (S:=S) (w:=w) hb1 (cs.set i (.own c.h.length 0))
 have r2:=r1.setBox hb1 (cs.set i (.own c.h.length 0)) (fun g' vs' t' e2 e3 e4 e5=>by
  refine ⟨by simpa using e4,fun j x y hx hy=>?_⟩
  by_cases hij:i=j
  ·subst hij
   rw [List.getElem?_set_self (List.getElem?_eq_some_iff.1 hi).1] at hx
   cases hx
   have:=e5 i .nl y hi hy
   refine ⟨?_,this.2⟩
   have hg:(β++[Con.nil a])[b]?=some (.box g):=x1.con b g h2
   rw [hg] at e2
   cases e2
   rw [h3] at e3
   have hvs:vs=vs':=by
    have e6:vs.toArray=vs'.toArray:=by injection e3 with e3;injection e3
    simpa using congrArg Array.toList e6
   subst hvs
   have:y=vs[i]:=by
    rw [List.getElem?_eq_getElem hil] at hy
    cases hy
    rfl
   rw [this,ha]
   exact r.ownNil e a
  ·rw [List.getElem?_set_ne hij] at hx
   exact e5 j x y hx hy)
 exact hg β0 S0 w0 _ S w tmps hb0 hn ((x0.trans x1).trans x2) r2 fun t'=>((rt t').ext x1).ext x2
theorem zb3 {E:Env0} {fn:Func} {h0:Heap} {c c':Cfg} {R:AV→Heap→Prop} (t:Nat) (e:TypeId) (live:List Nat) (m:Nat) (hc:look c.ts t=.nl) (hm:Nat.ble h0.length m=true)
  (he:cut live m ⟨c.n,c.todo,(t,.own c.h.length 0)::c.ts,c.h++[Blk.row e [] false]⟩=c') (hg:Good E fn h0 c' R):Good E fn h0 c R :=
 zoh t e hc (zcG live m (Nat.le_of_ble_eq_true hm) (he ▸ hg))
theorem ziU {E:Env0} {fn:Func} {h0:Heap} {c c':Cfg} {R:AV→Heap→Prop} (b i:Nat) (e:TypeId) (live:List Nat) (m:Nat) {cs:List AV} (hb:c.h[b]?=some (.box cs)) (hi:cs[i]?=some .nl) (hm:Nat.ble h0.length m=true)
  (he:cut live m ⟨c.n,c.todo,c.ts,(c.h++[Blk.row e [] false]).set b (.box (cs.set i (.own c.h.length 0)))⟩=c') (hg:Good E fn h0 c' R):Good E fn h0 c R :=
 zlt b i e hb hi (zcG live m (Nat.le_of_ble_eq_true hm) (he ▸ hg))
theorem zl6 {E:Env0} {fn:Func} {h0:Heap} {c c':Cfg} {R:AV→Heap→Prop} (t:Nat) (b:Bool) (live:List Nat) (m:Nat) (hc:look c.ts t=.bl b) (hm:Nat.ble h0.length m=true)
  (he:cut live m ⟨c.n,c.todo,(t,.v (.bool b))::c.ts,c.h⟩=c') (hg:Good E fn h0 c' R):Good E fn h0 c R:=by
 have hg':=zcG live m (Nat.le_of_ble_eq_true hm) (he ▸ hg)
 intro β0 S0 w0 β S w tmps hb0 hn x0 r rt
 refine hg' β0 S0 w0 β S w tmps hb0 hn x0 r fun t'=>?_
 simp only [look]
 cases hb:Nat.beq t t' with
 | true =>
  have:=Nat.eq_of_beq_eq_true hb
  subst this
  have ht:=rt t
  rw [hc] at ht
  rw [ht.bl_inv]
  exact zby _
 | false=>exact rt t'
theorem zk9 {E:Env0} {fn:Func} {h0:Heap} {c c':Cfg} {R:AV→Heap→Prop} (t:Nat) {v:AV} {q:Prop} (live:List Nat) (m:Nat) (hc:look c.ts t=v) (hq:frzO c.h v=q) (ho:q) (hm:Nat.ble h0.length m=true)
  (he:cut live m ⟨c.n,c.todo,(t,frz c.h v)::c.ts,share c.h (frzM v)⟩=c') (hg:Good E fn h0 c' R):Good E fn h0 c R:=by
 have hg':=zcG live m (Nat.le_of_ble_eq_true hm) (he ▸ hg)
 intro β0 S0 w0 β S w tmps hb0 hn x0 r rt
 have hv:=rt t
 rw [hc] at hv
 obtain ⟨S',⟨x1,r1⟩,d1⟩:=zkB E v c.h β S w _ r hv (by rw [hq];exact ho)
 refine hg' β0 S0 w0 β S' w tmps hb0 hn (x0.trans x1) r1 fun t'=>?_
 simp only [look]
 cases hb:Nat.beq t t' with
 | true =>
  have:=Nat.eq_of_beq_eq_true hb
  subst this
  exact .d _ _ d1
 | false=>exact (rt t').ext x1
theorem zmd {E:Env0} {fn:Func} {h0:Heap} {c c':Cfg} {R:AV→Heap→Prop} (t b n:Nat) (live:List Nat) (m:Nat) (hc:look c.ts t=.own b n) (hm:Nat.ble h0.length m=true)
  (he:cut live m ⟨c.n,c.todo,(t,.os b n 0 n)::c.ts,c.h⟩=c') (hg:Good E fn h0 c' R):Good E fn h0 c R:=by
 have hg':=zcG live m (Nat.le_of_ble_eq_true hm) (he ▸ hg)
 intro β0 S0 w0 β S w tmps hb0 hn x0 r rt
 refine hg' β0 S0 w0 β S w tmps hb0 hn x0 r fun t'=>?_
 simp only [look]
 cases hb:Nat.beq t t' with
 | true =>
  have:=Nat.eq_of_beq_eq_true hb
  subst this
  have ht:=rt t
  rw [hc] at ht
  exact r.own_os ht
 | false=>exact rt t'
theorem zjA {E:Env0} {fn:Func} {h0:Heap} {c c':Cfg} {R:AV→Heap→Prop} (b i:Nat) (x:Bool) (live:List Nat) (m:Nat) {cs:List AV} (hb:c.h[b]?=some (.box cs)) (hi:cs[i]?=some (.bl x)) (hm:Nat.ble h0.length m=true)
  (he:cut live m ⟨c.n,c.todo,c.ts,c.h.set b (.box (cs.set i (.v (.bool x))))⟩=c') (hg:Good E fn h0 c' R):Good E fn h0 c R:=by
 have hg':=zcG live m (Nat.le_of_ble_eq_true hm) (he ▸ hg)
 intro β0 S0 w0 β S w tmps hb0 hn x0 r rt
 have x2:=zeC (β:=β) (S:=S) (w:=w) hb (cs.set i (.v (.bool x)))
 have r2:=r.setBox hb (cs.set i (.v (.bool x))) (fun g' vs' t' e2 e3 e4 e5=>by
  refine ⟨by simpa using e4,fun j x' y hx hy=>?_⟩
  by_cases hij:i=j
  ·subst hij
   rw [List.getElem?_set_self (List.getElem?_eq_some_iff.1 hi).1] at hx
   cases hx
   have:=e5 i (.bl x) y hi hy
   refine ⟨?_,this.2⟩
   rw [this.1.bl_inv]
   exact zby _
  ·rw [List.getElem?_set_ne hij] at hx
   exact e5 j x' y hx hy)
 exact hg' β0 S0 w0 β S w tmps hb0 hn (x0.trans x2) r2 fun t'=>(rt t').ext x2
theorem za7 {E:Env0} {fn:Func} {h0:Heap} {n:Nat} {todo:List It} {ts ts':TS} {h h':Heap} {R:AV→Heap→Prop} (e1:ts=ts') (e2:h=h') (hg:Good E fn h0 ⟨n,todo,ts',h'⟩ R):Good E fn h0 ⟨n,todo,ts,h⟩ R:=by
 subst e1;subst e2;exact hg
end Go.AM
namespace Go.AM
structure St where
 o:List Orc
 p:List Prop
 h:allP p
def orcs:List St→List Orc
 | []=>[]
 | s::r=>s.o++orcs r
def zaB:List St→List Prop
 | []=>[]
 | s::r=>s.p++zaB r
theorem zkZ:∀ {a b:List Prop},allP a→allP b→allP (a++b)
 | [],_,_,hb=>hb
 | [_],[],ha,_=>ha
 | [_],_::_,ha,hb=>⟨ha,hb⟩
 | _::q::r,_,ha,hb=>⟨ha.1,zkZ (a:=q::r) ha.2 hb⟩
theorem zaw:∀ l:List St,allP (zaB l)
 | []=>trivial
 | s::r=>zkZ s.h (zaw r)
def sb {c b:Bool} (h:c=b):St:=⟨[.b b],[c=b],h⟩
def si {e n:Int} (h:e=n):St:=⟨[.i n],[e=n],h⟩
def se {xs:List (List AV)} {i:Int} {c:List AV} {n:Nat} (h:ElAt xs i c n):St:=⟨[.el c],[ElAt xs i c n],h⟩
def sy {s:ByteArray} {i n:Int} (h:ByteAt s i n):St:=⟨[.i n],[ByteAt s i n],h⟩
def sc {E:Env0} {f:FuncId} {args:List AV} {r:AV} {h':Heap} (h:zaa E f args [] r h'):St:=⟨[.call [] r h'],[zaa E f args [] r h'],h⟩
def sl {E:Env0} {f:FuncId} {args:List AV} {hl:Heap} {r:AV} {h':Heap} (lend:List Nat) (h:zaa E f args hl r h'):St:=⟨[.call lend r h'],[zaa E f args hl r h'],h⟩
def sln {E:Env0} {f:FuncId} {args:List AV} {hl:Heap} {r:AV} {h':Heap} (lend:List Nat) (h:zaa E f args hl r h'):St:=⟨[.calln lend r h'],[zaa E f args hl r h'],h⟩
def sk {E:Env0} {f:FuncId} {args:List AV} {hl:Heap} {r:AV} {h':Heap} {p:Prop} (hp:p) (lend:List Nat) (h:zaa E f args hl r h'):St:=⟨[.call lend r h'],[p∧zaa E f args hl r h'],⟨hp,h⟩⟩
def sq {p:Prop} (h:p):St:=⟨[],[p],h⟩
def sx (o:Orc) {p:Prop} (h:p):St:=⟨[o],[p],h⟩
def sg {c b:Bool} (h:c=b):St:=⟨[.b b],[c=b∧True],⟨h,trivial⟩⟩
def so {c b:Bool} (h:c=b) (s:St):St:=⟨.b b::s.o,[c=b∧allP s.p],⟨h,s.h⟩⟩
def zgj:List (Nat × List St)→List (Nat × List Orc)
 | []=>[]
 | (i,l)::r=>(i,orcs l)::zgj r
def ziq:List (Nat × List St)→List St
 | []=>[]
 | (_,l)::r=>l++ziq r
def sd (l:List (Nat × List St)):St:=⟨[.draw (zgj l)],[allP (zaB (ziq l))],zaw _⟩
def zlT (p:Prop) (ts:TS) (h:Heap):Nat→Prop
 | 0=>True
 | n+1=>(p∧ts=ts∧h=h)∧zlT p ts h n
theorem zj3 {p:Prop} (hp:p) (ts:TS) (h:Heap):∀ n,zlT p ts h n
 | 0=>trivial
 | n+1=>⟨⟨hp,rfl,rfl⟩,zj3 hp ts h n⟩
def sdm (l:List (Nat × List St)) (n:Nat) (ts:TS) (h:Heap):St:=⟨[.draw (zgj l)],[allP (zaB (ziq l))∧zlT (allP (zaB (ziq l))) ts h (n+1)],⟨zaw _,zj3 (zaw _) ts h _⟩⟩
theorem walk {E : Env0} (ht : zan E) (hmix : E.P.follows .mixedOrders = true) {f : FuncId} {fn : Func} {c : Code} {args : List AV} {r y : AV} (hf : E.P.funcs[f]? = some fn) (hb : fn.body = some c) (hname : (fn.name == "runtime.NumGoroutine") = false)
  (hn:Nat.ble args.length fn.ntmps=true) (n:Nat) (l:List St) (hfin:fin (mk E) fn 0 n ⟨fn.ntmps,[.code c],zbg 0 args,[]⟩ (orcs l)=some (zaB l,y,[])) (hr:y=r):zaa E f args [] r [] :=
 zey ht hmix hf hb hname hn n (orcs l) hfin (zaw l) ⟨hr,rfl⟩
theorem walkH {E : Env0} (ht : zan E) (hmix : E.P.follows .mixedOrders = true) {f : FuncId} {fn : Func} {c : Code} {args : List AV} {h : Heap} {r y : AV} {H H' : Heap} (hf : E.P.funcs[f]? = some fn) (hb : fn.body = some c) (hname : (fn.name == "runtime.NumGoroutine") = false)
  (hn:Nat.ble args.length fn.ntmps=true) (n:Nat) (l:List St) (hfin:fin (mk E) fn h.length n ⟨fn.ntmps,[.code c],zbg 0 args,h⟩ (orcs l)=some (zaB l,y,H)) (hr:y=r∧H=H'):zaa E f args h r H' :=
 zey ht hmix hf hb hname hn n (orcs l) hfin (zaw l) hr
def upto (E:Env) (live:List Nat) (m n:Nat) (c:Cfg) (os:List Orc):List Prop × Cfg:=match run E n c os with
 | (q,c',_)=>(q,cut live m c')
theorem zci {E:Env0} (ht:zan E) (hmix:E.P.follows .mixedOrders=true) {fn:Func} {R:AV→Heap→Prop} {h0:Heap} {c c':Cfg} (n:Nat) (l:List St) (live:List Nat) (m:Nat) (hm:Nat.ble h0.length m=true)
  (hu:upto (mk E) live m n c (orcs l)=(zaB l,c')) (hg:Good E fn h0 c' R):Good E fn h0 c R:=by
 unfold upto at hu
 have h1:(run (mk E) n c (orcs l)).1=zaB l:=by
  have:=congrArg Prod.fst hu
  exact this
 have h2:cut live m (run (mk E) n c (orcs l)).2.1=c':=congrArg Prod.snd hu
 exact zhD ht hmix n (orcs l) live m hm h1 h2 (zaw l) hg
theorem zii {E:Env0} (ht:zan E) (hmix:E.P.follows .mixedOrders=true) {fn:Func} {R:AV→Heap→Prop} {h0:Heap} {c:Cfg} {y:AV} {H:Heap} {m:Nat} (n:Nat) (l:List St)
  (hfin:fin (mk E) fn m n c (orcs l)=some (zaB l,y,H)) (hR:R y H):Good E fn h0 c (Shut m R) :=
 zeS ht hmix n (orcs l) hfin (zaw l) hR
theorem zcA {E:Env0} (ht:zan E) (hmix:E.P.follows .mixedOrders=true) {fn:Func} {R:AV→Heap→Prop} {h0:Heap} {c:Cfg} {y:AV} {H:Heap} (n:Nat) (l:List St)
  (hfin:finK (mk E) fn n c (orcs l)=some (zaB l,y,H)) (hR:R y H):Good E fn h0 c R :=
 zjy ht hmix n (orcs l) hfin (zaw l) hR
theorem znC {E:Env0} (ht:zan E) (hmix:E.P.follows .mixedOrders=true) {f:FuncId} {fn:Func} {c:Code} {args:List AV} {h:Heap} {R:AV→Heap→Prop} (hf:E.P.funcs[f]?=some fn) (hb:fn.body=some c)
  (hname : (fn.name == "runtime.NumGoroutine") = false) (hn : Nat.ble args.length fn.ntmps = true) (n : Nat) (l : List St) (live : List Nat) (m : Nat) {c' : Cfg} (hm : Nat.ble h.length m = true)
  (hu:upto (mk E) live m n ⟨fn.ntmps,[.code c],zbg 0 args,h⟩ (orcs l)=(zaB l,c')) (hg:Good E fn h c' R):zbx E f args h R :=
 zax hf hb hname (Nat.le_of_ble_eq_true hn) (zci ht hmix n l live m hm hu hg)
theorem zh3 {E:Env0} (ht:zan E) (hmix:E.P.follows .mixedOrders=true) {f:FuncId} {fn:Func} {c:Code} {args:List AV} {h:Heap} {R:AV→Heap→Prop} (hf:E.P.funcs[f]?=some fn) (hb:fn.body=some c)
  (hname : (fn.name == "runtime.NumGoroutine") = false) (hn : Nat.ble args.length fn.ntmps = true) (n : Nat) (l : List St) (live : List Nat) (m : Nat) {c' : Cfg} (hm : Nat.ble h.length m = true)
  (hu:upto (mk E) live m n ⟨fn.ntmps,[.code c],zbg 0 args,h⟩ (orcs l)=(zaB l,c')) (hg:Good E fn h c' (Shut h.length R)):zbx E f args h R :=
 zb4 (zax hf hb hname (Nat.le_of_ble_eq_true hn) (zci ht hmix n l live m hm hu hg))
end Go.AM
namespace Go.AM
open Go.RowKit
def zhn (t:TI):Shp→Bool
 | .int _=>match t.kind with|.int _=>Nat.beq t.size 1&&!t.isAgg|_=>false
 | .str=>match t.kind with|.str=>Nat.beq t.size 1&&!t.isAgg|_=>false
 | .bool=>match t.kind with|.bool=>Nat.beq t.size 1&&!t.isAgg|_=>false
 | .other=>false
def flat (T:TypeId→TI):Nat→List Field→List Shp→Bool
 | _,[],[]=>true
 | i, f :: fs, s :: ss => (f.name != "_") && Nat.beq f.offset i && zhn (T f.type) s && flat T (i + 1) fs ss
 | _,_,_=>false
theorem eqCell {E:Env0} (ht:zan E) {t:TypeId} {x y:Value} {r:Bool} (d:Nat) (hs:zhn (E.T t) (shp x)=true) (he:zc3 x y=some r) (w:World):(Op.equalIn (d+1) t x y).run E.P w=.ok r w:=by
 cases x <;> simp [shp,zhn] at hs
 case bool a =>
  split at hs
  ·rename_i hk
   obtain ⟨i,dd,z,tok⟩:=ht.at_ (t:=t) (by intro h;rw [h] at hk;cases hk)
   cases y <;> simp [zc3] at he
   subst he
   have:=tok.bool_ hk
   subst this
   exact run_equalIn_bool' w d t _ _ tok.und
  ·cases hs
 case int k a =>
  split at hs
  ·rename_i k' hk
   obtain ⟨i,dd,z,tok⟩:=ht.at_ (t:=t) (by intro h;rw [h] at hk;cases hk)
   cases y <;> simp [zc3] at he
   obtain ⟨rfl,rfl⟩:=he
   have:=tok.int_ hk
   subst this
   exact run_equalIn_int w d t _ _ _ _ tok.und
  ·cases hs
 case string a =>
  split at hs
  ·rename_i hk
   obtain ⟨i,dd,z,tok⟩:=ht.at_ (t:=t) (by intro h;rw [h] at hk;cases hk)
   cases y <;> simp [zc3] at he
   subst he
   have:=tok.str_ hk
   subst this
   rw [run_equalIn_string w d t _ _ tok.und,beq_toListBytes]
  ·cases hs
theorem zih {t:TI} {s:Shp} (h:zhn t s=true):t.size=1∧t.isAgg=false∧t≠⟨.scalar,0,0,[]⟩:=by
 unfold zhn at h
 split at h <;> try cases h
 all_goals
  split at h
  ·rename_i hk
   simp only [Bool.and_eq_true,Bool.not_eq_true'] at h
   exact ⟨Nat.eq_of_beq_eq_true h.1,h.2,by intro h';rw [h'] at hk;cases hk⟩
  ·cases h
theorem zhJ {E:Env0} (ht:zan E) (d:Nat) (w:World):∀ (fs:List Field) (px py xs ys:List Value) (r:Bool),px.length=py.length→flat E.T px.length fs (xs.map shp)=true→zaQ xs ys=some r →
  (Op.eqFields (d+1) (px++xs).toArray (py++ys).toArray fs).run E.P w=.ok r w
 | [],px,py,xs,ys,r,hp,hf,he=>by
  cases xs with
  | cons x xs=>simp [flat] at hf
  | nil =>
   cases ys <;> simp [zaQ] at he
   subst he
   rfl
 | f::fs,px,py,[],ys,r,hp,hf,he=>by simp [flat] at hf
 | f::fs,px,py,x::xs,[],r,hp,hf,he=>by simp [zaQ] at he
 | f::fs,px,py,x::xs,y::ys,r,hp,hf,he=>by
  simp only [List.map_cons,flat,Bool.and_eq_true,bne_iff_ne] at hf
  obtain ⟨⟨⟨hn,ho⟩,hs⟩,hrest⟩:=hf
  have ho:=Nat.eq_of_beq_eq_true ho
  simp only [zaQ] at he
  split at he
  ·rename_i a b h1 h2
   simp only [Option.some.injEq] at he
   subst he
   obtain ⟨hsz,hagg,hne⟩:=zih hs
   obtain ⟨i,dd,z,tok⟩:=ht.at_ hne
   have p1:=ze8 tok w (px++x::xs) f.offset (by rw [hsz,ho];simp)
   have p2:=ze8 tok w (py++y::ys) f.offset (by rw [hsz,ho,hp];simp)
   rw [hsz,ho] at p1
   rw [hsz,ho,hp] at p2
   simp only [List.drop_left,List.take_succ_cons,List.take_zero,zdG,hagg] at p1 p2
   have p3:=eqCell ht d hs h1 w
   have ih:=zhJ ht d w fs (px++[x]) (py++[y]) xs ys b (by simp [hp]) (by simpa using hrest) h2
   simp only [List.append_assoc,List.singleton_append] at ih
   simp only [Op.eqFields,ne_eq,hn,not_false_eq_true,if_true,Sem.run_bind,ho]
   rw [p1,Result.andThen_ok,hp,p2,Result.andThen_ok]
   simp only [List.headD_cons]
   rw [p3,Result.andThen_ok]
   cases a
   ·rfl
   ·simpa using ih
  ·cases he
theorem seq_of {E:Env0} (ht:zan E) {t:TypeId} {fs:Array Field} {ss:List Shp} (hu:E.P.underlying t=some (.struct fs)) (hp:E.P.stoodInHeld t=false) (hg:E.P.eqGuardType E.P.depth t=false) (hf:flat E.T 0 fs.toList ss=true) :
  StructEq E.P t ss:=by
 refine ⟨hg,fun w xs ys r hs he=>?_⟩
 have hfo:E.P.fieldsOf t=fs:=by simp [Program.fieldsOf,hu]
 have h1:=run_equalIn_struct (P:=E.P) w 9999 t xs.toArray ys.toArray (by rw [hfo];exact hu) hp
 rw [hfo] at h1
 have h2:=zhJ ht 9998 w fs.toList [] [] xs ys r rfl (by rw [hs];exact hf) he
 simp only [List.nil_append] at h2
 unfold Op.equal Op.maxDepth
 rw [h1]
 exact h2
end Go.AM
namespace Go.AM
abbrev Str:=ByteArray
abbrev iv (n:Int):AV:=.v (.int .i64 n)
abbrev bv (b:Bool):AV:=.v (.bool b)
abbrev sv (s:Str):AV:=.v (.string s)
def globs (g:Nat):Option (List AV) :=
 none
noncomputable def E0:Env0:=⟨Proofs.Tryz.prog,zf9 tabA,globs⟩
theorem E0ok:zan E0:=zn4 zoR
theorem mix0:E0.P.follows .mixedOrders=true:=mix_ok
structure V where
 kind:Int
 int:Int
 text:Str
def V.cells (v:V):List AV:=[iv v.kind,iv v.int,sv v.text]
abbrev V.av (v:V):AV:=.agg v.cells
def V.null:V:=⟨0,0,⟨#[]⟩⟩
mutual
inductive X where
 | mk (kind op:Int) (not:Bool) (val:V) (table name:Str) (args:List X) (sub:List Qy)
inductive Qy where
 | mk (star:Bool) (items:List X) (frm:Str) (wh:List X)
end
def X.kind:X→Int|.mk k _ _ _ _ _ _ _=>k
def X.op:X→Int|.mk _ o _ _ _ _ _ _=>o
def X.not:X→Bool|.mk _ _ n _ _ _ _ _=>n
def X.val:X→V|.mk _ _ _ v _ _ _ _=>v
def X.table:X→Str|.mk _ _ _ _ t _ _ _=>t
def X.name:X→Str|.mk _ _ _ _ _ m _ _=>m
def X.args:X→List X|.mk _ _ _ _ _ _ xs _=>xs
def X.sub:X→List Qy|.mk _ _ _ _ _ _ _ qs=>qs
def Qy.star:Qy→Bool|.mk s _ _ _=>s
def Qy.items:Qy→List X|.mk _ i _ _=>i
def Qy.frm:Qy→Str|.mk _ _ f _=>f
def Qy.wh:Qy→List X|.mk _ _ _ w=>w
@[simp] theorem X.kind_mk (k o:Int) (n:Bool) (v:V) (t m:Str) (xs:List X) (qs:List Qy):(X.mk k o n v t m xs qs).kind=k:=rfl
@[simp] theorem X.op_mk (k o:Int) (n:Bool) (v:V) (t m:Str) (xs:List X) (qs:List Qy):(X.mk k o n v t m xs qs).op=o:=rfl
@[simp] theorem X.not_mk (k o:Int) (n:Bool) (v:V) (t m:Str) (xs:List X) (qs:List Qy):(X.mk k o n v t m xs qs).not=n:=rfl
@[simp] theorem X.val_mk (k o:Int) (n:Bool) (v:V) (t m:Str) (xs:List X) (qs:List Qy):(X.mk k o n v t m xs qs).val=v:=rfl
@[simp] theorem X.table_mk (k o:Int) (n:Bool) (v:V) (t m:Str) (xs:List X) (qs:List Qy):(X.mk k o n v t m xs qs).table=t:=rfl
@[simp] theorem X.name_mk (k o:Int) (n:Bool) (v:V) (t m:Str) (xs:List X) (qs:List Qy):(X.mk k o n v t m xs qs).name=m:=rfl
@[simp] theorem X.args_mk (k o:Int) (n:Bool) (v:V) (t m:Str) (xs:List X) (qs:List Qy):(X.mk k o n v t m xs qs).args=xs:=rfl
@[simp] theorem X.sub_mk (k o:Int) (n:Bool) (v:V) (t m:Str) (xs:List X) (qs:List Qy):(X.mk k o n v t m xs qs).sub=qs:=rfl
@[simp] theorem Qy.star_mk (s:Bool) (i:List X) (f:Str) (w:List X):(Qy.mk s i f w).star=s:=rfl
@[simp] theorem Qy.items_mk (s:Bool) (i:List X) (f:Str) (w:List X):(Qy.mk s i f w).items=i:=rfl
@[simp] theorem Qy.frm_mk (s:Bool) (i:List X) (f:Str) (w:List X):(Qy.mk s i f w).frm=f:=rfl
@[simp] theorem Qy.wh_mk (s:Bool) (i:List X) (f:Str) (w:List X):(Qy.mk s i f w).wh=w:=rfl
mutual
def X.raw:X→List AV
 | .mk k o n v t m xs qs=>[iv k,iv o,bv n,iv v.kind,iv v.int,sv v.text,sv t,sv m,.sl (zad xs),.sl (zae qs)]
def Qy.raw:Qy→List AV
 | .mk s is f w=>[bv s,.sl (zad is),sv f,.sl (zad w)]
def zad:List X→List (List AV)
 | []=>[]
 | x::r=>X.raw x::zad r
def zae:List Qy→List (List AV)
 | []=>[]
 | x::r=>Qy.raw x::zae r
end
def X.cells (x:X):List AV:=[iv x.kind,iv x.op,bv x.not,iv x.val.kind,iv x.val.int,sv x.val.text,sv x.table,sv x.name,.sl (zad x.args),.sl (zae x.sub)]
def Qy.cells (x:Qy):List AV:=[bv x.star,.sl (zad x.items),sv x.frm,.sl (zad x.wh)]
theorem X.raw_eq (x:X):x.raw=x.cells:=by cases x;simp [X.raw,X.cells,X.kind,X.op,X.not,X.val,X.table,X.name,X.args,X.sub]
theorem Qy.raw_eq (x:Qy):x.raw=x.cells:=by cases x;simp [Qy.raw,Qy.cells,Qy.star,Qy.items,Qy.frm,Qy.wh]
theorem zcO:∀ l:List X,zad l=l.map X.cells
 | []=>by simp [zad]
 | x::r=>by simp [zad,zcO r,X.raw_eq]
theorem zcJ:∀ l:List Qy,zae l=l.map Qy.cells
 | []=>by simp [zae]
 | x::r=>by simp [zae,zcJ r,Qy.raw_eq]
@[simp] theorem zbh:zad []=[]:=zcO []
@[simp] theorem za3 (x:X) (r:List X):zad (x::r)=x.cells::zad r:=by simp [zcO]
@[simp] theorem zbw (a b:List X):zad (a++b)=zad a++zad b:=by simp [zcO]
@[simp] theorem zgv (a:List X):(zad a).length=a.length:=by simp [zcO]
@[simp] theorem zbi:zae []=[]:=zcJ []
@[simp] theorem za2 (x:Qy) (r:List Qy):zae (x::r)=x.cells::zae r:=by simp [zcJ]
@[simp] theorem zjH (a:List Qy):(zae a).length=a.length:=by simp [zcJ]
@[simp] theorem X.cells_length (x:X):x.cells.length=10:=rfl
@[simp] theorem Qy.cells_length (x:Qy):x.cells.length=4:=rfl
abbrev X.av (x:X):AV:=.agg x.cells
abbrev Qy.av (x:Qy):AV:=.agg x.cells
structure Col where
 name:Str
 type:Int
 notNull:Bool
 key:Bool
def Col.cells (c:Col):List AV:=[sv c.name,iv c.type,bv c.notNull,bv c.key]
structure Sch where
 name:Str
 cols:List Col
def Sch.cells (s:Sch):List AV:=[sv s.name,.sl (s.cols.map Col.cells)]
abbrev Sch.av (s:Sch):AV:=.agg s.cells
structure Rw where
 id:Int
 vals:List V
def Rw.cells (r:Rw):List AV:=[iv r.id,.sl (r.vals.map V.cells)]
structure Tb where
 sch:Sch
 next:Int
 rows:List Rw
def Tb.cells (t:Tb):List AV:=[sv t.sch.name,.sl (t.sch.cols.map Col.cells),iv t.next,.sl (t.rows.map Rw.cells)]
abbrev Tb.av (t:Tb):AV:=.agg t.cells
structure Fr where
 name:Str
 strict:Bool
 cols:List Col
 vals:List V
def Fr.cells (f:Fr):List AV:=[sv f.name,bv f.strict,.sl (f.cols.map Col.cells),.sl (f.vals.map V.cells)]
abbrev vsl (l:List V):AV:=.sl (l.map V.cells)
abbrev fsl (l:List Fr):AV:=.sl (l.map Fr.cells)
abbrev tsl (l:List Tb):AV:=.sl (l.map Tb.cells)
abbrev xsl (l:List X):AV:=.sl (zad l)
abbrev Pure (f:FuncId) (args:List AV) (r:AV):Prop:=zaa E0 f args [] r []
theorem zdg {f : FuncId} {fn : Func} {c : Code} {args : List AV} {r : AV} (hf : E0.P.funcs[f]? = some fn) (hb : fn.body = some c) (hname : (fn.name == "runtime.NumGoroutine") = false) (hn : Nat.ble args.length fn.ntmps = true)
  (n:Nat) (os:List Orc) {q:List Prop} (hfin:fin (mk E0) fn 0 n ⟨fn.ntmps,[.code c],zbg 0 args,[]⟩ os=some (q,r,[])) (hq:allP q):Pure f args r :=
 zey E0ok mix0 hf hb hname hn n os hfin hq ⟨rfl,rfl⟩
@[simp] theorem V.cells_length (x:V):x.cells.length=3:=rfl
@[simp] theorem Col.cells_length (x:Col):x.cells.length=4:=rfl
@[simp] theorem Sch.cells_length (x:Sch):x.cells.length=2:=rfl
@[simp] theorem Rw.cells_length (x:Rw):x.cells.length=2:=rfl
@[simp] theorem Tb.cells_length (x:Tb):x.cells.length=4:=rfl
@[simp] theorem Fr.cells_length (x:Fr):x.cells.length=4:=rfl
theorem zcx {l:List X} {i:Nat} {x:X} (h:l[i]?=some x):ElAt (zad l) (i:Int) x.cells 10 :=
 ⟨by omega,by simp [zcO,h],rfl⟩
theorem zeP {l:List Qy} {i:Nat} {x:Qy} (h:l[i]?=some x):ElAt (zae l) (i:Int) x.cells 4 :=
 ⟨by omega,by simp [zcJ,h],rfl⟩
theorem zao {α:Type} (f:α→List AV) {l:List α} {i:Nat} {x:α} (h:l[i]?=some x) {n:Nat} (hn:(f x).length=n):ElAt (l.map f) (i:Int) (f x) n :=
 ⟨by omega,by simp [h],hn⟩
theorem zaA (i:Nat) (h:i < 9223372036854775807):IntKind.i64.wrap ((i:Int)+1)=((i+1:Nat):Int):=by
 rw [IntKind.wrap_i64];omega
theorem zaL {t:Int} {n:Nat} (h1:t=(n:Int)) (h2:n≤9223372036854775807):IntKind.i64.wrap t=(n:Int):=by
 rw [h1,IntKind.wrap_i64];omega
def pm1:Nat→Int
 | 0=>-1
 | k+1=>(k:Int)
theorem pm1_eq (k:Nat):pm1 k=(k:Int) - 1:=by cases k <;> simp [pm1]
theorem zkR (k:Nat) (h:k < 9223372036854775806):IntKind.i64.wrap ((k:Int) - 1)=pm1 k:=by
 rw [pm1_eq,IntKind.wrap_i64];omega
theorem zde {α:Type} {l:List α} {i:Nat} {x:α} (h:l[i]?=some x):l.drop i=x::l.drop (i+1):=by
 obtain ⟨h1,h2⟩:=List.getElem?_eq_some_iff.mp h
 rw [List.drop_eq_getElem_cons h1,h2]
theorem at_lt {α:Type} {l:List α} {i:Nat} {x:α} (h:l[i]?=some x):i < l.length:=(List.getElem?_eq_some_iff.mp h).1
theorem zbc {α:Type} {l:List α} {i:Nat} (h:i < l.length):∃ x,l[i]?=some x:=⟨l[i],by simp [h]⟩
structure Tp where
 l:List Int
 pos:Nat
 ok:l.length≤500
def Tp.cells (t:Tp):List AV:=[.sl (t.l.map fun n=>[iv n]),iv t.pos]
structure Pl where
 frs:List Fr
 tbs:List Sch
def Pl.cells (p:Pl):List AV:=[.sl (p.frs.map Fr.cells),.sl (p.tbs.map Sch.cells)]
abbrev Pl.av (p:Pl):AV:=.agg p.cells
abbrev ssl (l:List Str):AV:=.sl (l.map fun s=>[sv s])
structure Se where
 col:Str
 ex:X
def Se.cells (s:Se):List AV:=sv s.col::s.ex.cells
structure Ac where
 kind:Int
 table:Str
 rows:List (List X)
 query:List Qy
 sets:List Se
 wh:List X
 text:Str
def Ac.cells (a:Ac):List AV:=[iv a.kind,sv a.table,.sl (a.rows.map fun r=>[.sl (zad r)]),.sl (zae a.query),.sl (a.sets.map Se.cells),.sl (zad a.wh),sv a.text]
abbrev Ac.av (a:Ac):AV:=.agg a.cells
structure Rk where
 table:Str
 col:Str
 low:Int
 high:Int
def Rk.cells (r:Rk):List AV:=[sv r.table,sv r.col,iv r.low,iv r.high]
structure Tg where
 name:Str
 table:Str
 before:Bool
 event:Int
 of:List Str
 each:Bool
 prec:List Str
 foll:List Str
 rank:List Rk
 when_:List X
 acts:List Ac
def Tg.cells (t:Tg):List AV:=[sv t.name,sv t.table,bv t.before,iv t.event,ssl t.of,bv t.each,ssl t.prec,ssl t.foll,.sl (t.rank.map Rk.cells),.sl (zad t.when_),.sl (t.acts.map Ac.cells)]
abbrev Tg.av (t:Tg):AV:=.agg t.cells
@[simp] theorem Se.cells_length (x:Se):x.cells.length=11:=rfl
@[simp] theorem Ac.cells_length (x:Ac):x.cells.length=7:=rfl
@[simp] theorem Rk.cells_length (x:Rk):x.cells.length=4:=rfl
@[simp] theorem Tg.cells_length (x:Tg):x.cells.length=11:=rfl
end Go.AM
namespace Go.AM
noncomputable def runF (fn:Func) (args:List AV) (h:Heap) (os:List Orc):Option (List Prop × AV × Heap) :=
 match fn.body, (fn.name == "runtime.NumGoroutine"), Nat.ble args.length fn.ntmps with
 | some c,false,true=>fin (mk E0) fn h.length 3000 ⟨fn.ntmps,[.code c],zbg 0 args,h⟩ os
 | _,_,_=>none
noncomputable def zgk (fn:Func) (args:List AV) (h:Heap) (live:List Nat) (m:Nat) (os:List Orc):Option (List Prop × Cfg) :=
 match fn.body, (fn.name == "runtime.NumGoroutine"), Nat.ble args.length fn.ntmps, Nat.ble h.length m with
 | some c,false,true,true=>some (upto (mk E0) live m 3000 ⟨fn.ntmps,[.code c],zbg 0 args,h⟩ os)
 | _,_,_,_=>none
noncomputable def zjZ (h0:Heap) (live:List Nat) (m:Nat) (c:Cfg) (os:List Orc):Option (List Prop × Cfg) :=
 match Nat.ble h0.length m with
 | true=>some (upto (mk E0) live m 3000 c os)
 | false=>none
theorem wk {f:FuncId} {fn:Func} {args:List AV} {h H:Heap} {r:AV} (hf:E0.P.funcs[f]?=some fn) (l:List St) (hfin:runF fn args h (orcs l)=some (zaB l,r,H)):zaa E0 f args h r H:=by
 unfold runF at hfin
 split at hfin
 ·rename_i c hb hn ha
  exact zey E0ok mix0 hf hb hn ha 3000 (orcs l) hfin (zaw l) ⟨rfl,rfl⟩
 ·cases hfin
theorem wkc {f:FuncId} {fn:Func} {args:List AV} {h:Heap} {R:AV→Heap→Prop} {c':Cfg} (hf:E0.P.funcs[f]?=some fn) (l:List St) (live:List Nat) (m:Nat) (hu:zgk fn args h live m (orcs l)=some (zaB l,c'))
  (hg:Good E0 fn h c' (Shut h.length R)):zbx E0 f args h R:=by
 unfold zgk at hu
 split at hu
 ·rename_i c hb hn ha hm
  exact zh3 E0ok mix0 hf hb hn ha 3000 l live m hm (Option.some.inj hu) hg
 ·cases hu
theorem wkl {fn:Func} {R:AV→Heap→Prop} {h0:Heap} {c c':Cfg} (l:List St) (live:List Nat) (m:Nat) (hu:zjZ h0 live m c (orcs l)=some (zaB l,c')) (hg:Good E0 fn h0 c' R):Good E0 fn h0 c R:=by
 unfold zjZ at hu
 split at hu
 ·rename_i hm
  exact zci E0ok mix0 3000 l live m hm (Option.some.inj hu) hg
 ·cases hu
theorem wkr {fn:Func} {h0:Heap} {c:Cfg} {r:AV} {H:Heap} {m:Nat} (l:List St) (hfin:fin (mk E0) fn m 3000 c (orcs l)=some (zaB l,r,H)):Good E0 fn h0 c (Shut m fun y h=>y=r∧h=H) :=
 zii E0ok mix0 3000 l hfin ⟨rfl,rfl⟩
noncomputable def runFK (fn:Func) (args:List AV) (h:Heap) (os:List Orc):Option (List Prop × AV × Heap) :=
 match fn.body, (fn.name == "runtime.NumGoroutine"), Nat.ble args.length fn.ntmps with
 | some c,false,true=>finK (mk E0) fn 3000 ⟨fn.ntmps,[.code c],zbg 0 args,h⟩ os
 | _,_,_=>none
theorem wkK {f:FuncId} {fn:Func} {args:List AV} {h H:Heap} {r:AV} (hf:E0.P.funcs[f]?=some fn) (l:List St) (hfin:runFK fn args h (orcs l)=some (zaB l,r,H)):zaa E0 f args h r H:=by
 unfold runFK at hfin
 split at hfin
 ·rename_i c hb hn ha
  exact zlx E0ok mix0 hf hb hn ha 3000 (orcs l) hfin (zaw l) ⟨rfl,rfl⟩
 ·cases hfin
def pickS (l:List (Nat × List St)) (i:Nat):List St:=match l with
 | []=>[]
 | (j,s)::r=>match Nat.beq j i with
  | true=>s
  | false=>pickS r i
def pickL (l:List (Nat × List St)):List Nat→List St
 | []=>[]
 | i::r=>pickS l i++pickL l r
def zmf (l:List (Nat × List St)) (ts:TS) (h:Heap):List (List Nat)→Prop
 | []=>True
 | o::r=>(allP (zaB (pickL l o))∧ts=ts∧h=h)∧zmf l ts h r
theorem zkg (l:List (Nat × List St)) (ts:TS) (h:Heap):∀ o,zmf l ts h o
 | []=>trivial
 | _::r=>⟨⟨zaw _,rfl,rfl⟩,zkg l ts h r⟩
def sdp (l:List (Nat × List St)) (os:List (List Nat)) (ts:TS) (h:Heap):St:=⟨[.draw (zgj l)],[allP (zaB (ziq l))∧zmf l ts h os],⟨zaw _,zkg l ts h os⟩⟩
theorem wkrS {fn:Func} {h0:Heap} {c:Cfg} {r y:AV} {H H':Heap} {m:Nat} (l:List St) (hfin:fin (mk E0) fn m 3000 c (orcs l)=some (zaB l,y,H)) (e:y=r∧H=H'):Good E0 fn h0 c (Shut m fun y h=>y=r∧h=H'):=by
 obtain ⟨rfl,rfl⟩:=e
 exact wkr l hfin
theorem owed {p:Prop} (h:p:=by first|assumption|(simp;done)|(simp;omega)|omega|rfl|(refine ⟨⟨?_⟩,?_⟩ <;> first|(simp;done)|(simp;omega)|omega)|(refine ⟨⟨?_⟩,?_,?_⟩ <;> first|(simp;done)|(simp;omega)|omega)|(refine ⟨?_,?_,?_⟩ <;> first|(simp;done)|(simp;omega)|omega)|(refine ⟨?_,⟨?_⟩,?_,?_⟩ <;> first|(simp;done)|(simp;omega)|omega)|(constructor <;> first|(simp;done)|(simp;omega)|omega|(simp at *;omega))):p:=h
def sqx (p:Prop) (h:p:=by first|assumption|(simp;done)|(simp;omega)|omega|rfl|(refine ⟨⟨?_⟩,?_⟩ <;> first|(simp;done)|(simp;omega)|omega)|(refine ⟨⟨?_⟩,?_,?_⟩ <;> first|(simp;done)|(simp;omega)|omega)|(refine ⟨?_,?_,?_⟩ <;> first|(simp;done)|(simp;omega)|omega)|(refine ⟨?_,⟨?_⟩,?_,?_⟩ <;> first|(simp;done)|(simp;omega)|omega)|(constructor <;> first|(simp;done)|(simp;omega)|omega|(simp at *;omega))):St:=sq h
def skx (p:Prop) {E:Env0} {f:FuncId} {args:List AV} {hl:Heap} {r:AV} {h':Heap} (lend:List Nat) (h:zaa E f args hl r h') (hp:p:=by first|assumption|(simp;done)|(simp;omega)|omega|rfl|(refine ⟨⟨?_⟩,?_⟩ <;> first|(simp;done)|(simp;omega)|omega)|(refine ⟨⟨?_⟩,?_,?_⟩ <;> first|(simp;done)|(simp;omega)|omega)|(refine ⟨?_,?_,?_⟩ <;> first|(simp;done)|(simp;omega)|omega)|(refine ⟨?_,⟨?_⟩,?_,?_⟩ <;> first|(simp;done)|(simp;omega)|omega)|(constructor <;> first|(simp;done)|(simp;omega)|omega|(simp at *;omega))):St:=sk hp lend h
end Go.AM
namespace Go.AM
set_option maxRecDepth 100000
def cmpI (a b:Int):Int:=if a < b then -1 else if b < a then 1 else 0
def ltS (a b:Str):Bool:=Op.bytesLess a.toList b.toList
def eqS (a b:Str):Bool:=a.toList==b.toList
def cmpS (a b:Str):Int:=if ltS a b then -1 else if !(ltS a b || eqS a b) then 1 else 0
theorem zbF (n:Int):Pure S.cmp_isNaN_int [iv n] (bv (n != n)) :=
 zdg At.cmp_isNaN_int rfl kr kr 100 [] (q:=[]) kr trivial
theorem za9 (n:Str):Pure S.cmp_isNaN_string [sv n] (bv (!(n.toList==n.toList))) :=
 zdg At.cmp_isNaN_string rfl kr kr 100 [] (q:=[]) kr trivial
theorem zhG (a b:Int):Pure S.cmp_Compare_int [iv a,iv b] (iv (cmpI a b)):=by
 unfold cmpI
 by_cases h1:a < b
 ·rw [if_pos h1]
  exact zdg At.cmp_Compare_int rfl kr kr 200 [.call [] (bv (a != a)) [],.call [] (bv (b != b)) [],.b false,.b false,.b true]
   (q:=[Pure S.cmp_isNaN_int [iv a] (bv (a != a)),Pure S.cmp_isNaN_int [iv b] (bv (b != b)),(a != a)=false,(b != b)=false,decide (a < b)=true]) kr
   ⟨zbF a,zbF b,by simp,by simp,by simpa [allP] using h1⟩
 ·rw [if_neg h1]
  by_cases h2:b < a
  ·rw [if_pos h2]
   exact zdg At.cmp_Compare_int rfl kr kr 200 [.call [] (bv (a != a)) [],.call [] (bv (b != b)) [],.b false,.b false,.b false,.b true]
    (q:=[Pure S.cmp_isNaN_int [iv a] (bv (a != a)),Pure S.cmp_isNaN_int [iv b] (bv (b != b)),(a != a)=false,(b != b)=false,decide (a < b)=false,decide (b < a)=true]) kr
    ⟨zbF a,zbF b,by simp,by simp,by simpa using h1,by simpa [allP] using h2⟩
  ·rw [if_neg h2]
   exact zdg At.cmp_Compare_int rfl kr kr 200 [.call [] (bv (a != a)) [],.call [] (bv (b != b)) [],.b false,.b false,.b false,.b false]
    (q:=[Pure S.cmp_isNaN_int [iv a] (bv (a != a)),Pure S.cmp_isNaN_int [iv b] (bv (b != b)),(a != a)=false,(b != b)=false,decide (a < b)=false,decide (b < a)=false]) kr
    ⟨zbF a,zbF b,by simp,by simp,by simpa using h1,by simpa [allP] using h2⟩
end Go.AM
namespace Go.AM
set_option maxRecDepth 100000
theorem zdA (a b:Str):Pure S.cmp_Compare_string [sv a,sv b] (iv (cmpS a b)):=by
 unfold cmpS ltS eqS
 cases h1:Op.bytesLess a.toList b.toList
 ·rw [if_neg (by simp)]
  cases h2:(!(Op.bytesLess a.toList b.toList || a.toList==b.toList))
  ·rw [h1] at h2
   rw [h2,if_neg (by simp)]
   exact zdg At.cmp_Compare_string rfl kr kr 1500 ([.call [] (bv (!(a.toList==a.toList))) [],.call [] (bv (!(b.toList==b.toList))) [],.b false,.b false,.b false,.b false]) (q:=[zaa E0 S.cmp_isNaN_string [AV.v (Value.string a)] [] (AV.v (Value.bool !ByteArray.toList a==ByteArray.toList a)) [],zaa E0 S.cmp_isNaN_string [AV.v (Value.string b)] [] (AV.v (Value.bool !ByteArray.toList b==ByteArray.toList b)) [],(!ByteArray.toList a==ByteArray.toList a)=false,(!ByteArray.toList b==ByteArray.toList b)=false,Op.bytesLess (ByteArray.toList a) (ByteArray.toList b)=false,(!(Op.bytesLess (ByteArray.toList a) (ByteArray.toList b) || ByteArray.toList a==ByteArray.toList b))=false]) kr ⟨za9 a,za9 b,by simp,by simp,h1,by simp only [allP];rw [h1];exact h2⟩
  ·rw [h1] at h2
   rw [h2,if_pos rfl]
   exact zdg At.cmp_Compare_string rfl kr kr 1500 ([.call [] (bv (!(a.toList==a.toList))) [],.call [] (bv (!(b.toList==b.toList))) [],.b false,.b false,.b false,.b true]) (q:=[zaa E0 S.cmp_isNaN_string [AV.v (Value.string a)] [] (AV.v (Value.bool !ByteArray.toList a==ByteArray.toList a)) [],zaa E0 S.cmp_isNaN_string [AV.v (Value.string b)] [] (AV.v (Value.bool !ByteArray.toList b==ByteArray.toList b)) [],(!ByteArray.toList a==ByteArray.toList a)=false,(!ByteArray.toList b==ByteArray.toList b)=false,Op.bytesLess (ByteArray.toList a) (ByteArray.toList b)=false,(!(Op.bytesLess (ByteArray.toList a) (ByteArray.toList b) || ByteArray.toList a==ByteArray.toList b))=true]) kr ⟨za9 a,za9 b,by simp,by simp,h1,by simp only [allP];rw [h1];exact h2⟩
 ·rw [if_pos rfl]
  exact zdg At.cmp_Compare_string rfl kr kr 1500 ([.call [] (bv (!(a.toList==a.toList))) [],.call [] (bv (!(b.toList==b.toList))) [],.b false,.b false,.b true]) (q:=[zaa E0 S.cmp_isNaN_string [AV.v (Value.string a)] [] (AV.v (Value.bool !ByteArray.toList a==ByteArray.toList a)) [],zaa E0 S.cmp_isNaN_string [AV.v (Value.string b)] [] (AV.v (Value.bool !ByteArray.toList b==ByteArray.toList b)) [],(!ByteArray.toList a==ByteArray.toList a)=false,(!ByteArray.toList b==ByteArray.toList b)=false,Op.bytesLess (ByteArray.toList a) (ByteArray.toList b)=true]) kr ⟨za9 a,za9 b,by simp,by simp,h1⟩
def orI:List Int→Int
 | []=>0
 | x::r=>if x=0 then orI r else x
abbrev isl (l:List Int):AV:=.sl (l.map fun n=>[iv n])
noncomputable def L_Or (l:List Int) (i:Nat):Cfg:=zaq B.cmp_Or_int 0 [(3,iv 0),(6,.sl (l.map fun n=>[iv n])),(7,iv ((l.map fun n=>[iv n]).length:Nat)),(8,iv (i:Nat))] []
theorem znD (l:List Int) (hl:l.length < 9223372036854775807):∀ (k i:Nat),i+k=l.length→Good E0 B.cmp_Or_int [] (L_Or l i) (Shut 0 fun r h=>r=iv (orI (l.drop i))∧h=[]):=by
 intro k
 induction k with
 | zero =>
  intro i hi
  refine zab ?_
  refine zeS E0ok mix0 1500 ([.b false]) (q:=[decide ((i:Int) < (↑(List.map (fun n=>[iv n]) l).length:Int))=false]) (y:=iv 0) (H:=[]) kr ?_ ⟨?_,rfl⟩
  ·simp [allP];omega
  ·rw [List.drop_of_length_le (by omega)];rfl
 | succ k ih =>
  intro i hi
  obtain ⟨x,hx⟩:=zbc (l:=l) (i:=i) (by omega)
  have hlt:=at_lt hx
  refine zab ?_
  rw [zde hx,orI]
  by_cases h0:x=0
  ·rw [if_pos h0]
   exact zhD E0ok mix0 1500 ([.b true,.el [iv x],.b false,.i ((i+1:Nat):Int)]) [3,6,7,8] 0 (q:=[decide ((i:Int) < (↑(List.map (fun n=>[iv n]) l).length:Int))=true,ElAt (List.map (fun n=>[iv n]) l) (i:Int) [AV.v (Value.int IntKind.i64 x)] (1:Nat),(x != (0:Int))=false,IntKind.i64.wrap ((i:Int)+(1:Int))=(↑(i+(1:Nat)):Int)]) kr kr kr ⟨by simp;omega,zao (fun n=>[iv n]) hx rfl,by simp [h0],zaA i (by omega)⟩ (ih (i+1) (by omega))
  ·rw [if_neg h0]
   exact zeS E0ok mix0 1500 ([.b true,.el [iv x],.b true]) (q:=[decide ((i:Int) < (↑(List.map (fun n=>[iv n]) l).length:Int))=true,ElAt (List.map (fun n=>[iv n]) l) (i:Int) [AV.v (Value.int IntKind.i64 x)] (1:Nat),(x != (0:Int))=true]) (y:=iv x) (H:=[]) kr ⟨by simp;omega,zao (fun n=>[iv n]) hx rfl,by simpa [allP] using h0⟩ ⟨rfl,rfl⟩
theorem zka (l:List Int) (hl:l.length < 9223372036854775807):Pure S.cmp_Or_int [.sl (l.map fun n=>[iv n])] (iv (orI l)) :=
 zna E0ok mix0 At.cmp_Or_int rfl kr kr 1500 ([]) [3,6,7,8] 0 (q:=[]) kr kr kr trivial (znD l hl l.length 0 (by omega))
end Go.AM
namespace Go.AM
set_option maxRecDepth 100000
def cmpV (a b:V):Int:=orI [cmpI a.kind b.kind,cmpI a.int b.int,cmpS a.text b.text]
end Go.AM
namespace Go.AM
set_option maxRecDepth 100000
def okB (c:Nat):Bool:=!(decide ((c:Int) < 32))&&!(decide ((126:Int) < c))
def znB (l:List UInt8):Bool:=match l with
 | []=>true
 | c::r=>okB c.toNat&&znB r
def plainS (s:Str):Bool:=znB s.data.toList&&decide ((s.size:Int)≤64)
end Go.AM
namespace Go.AM
set_option maxRecDepth 100000
set_option linter.unusedSimpArgs false
set_option linter.unusedVariables false
abbrev V.small (v:V):Prop:=v.text.size < 9223372036854775807
def zm7 (v:V):Bool :=
 bif v.kind==(0:Int) then
  v.kind==(0:Int)&&(v.int==(0:Int)&&(v.text==ByteArray.mk #[]&&true))
 else
  bif v.kind==(1:Int) then
   ByteArray.toList v.text==(ByteArray.mk #[]).toList
  else
   bif v.kind==(2:Int) then
    bif v.int==(0:Int) then
     ByteArray.toList v.text==(ByteArray.mk #[]).toList
    else
     bif v.int==(1:Int) then
      ByteArray.toList v.text==(ByteArray.mk #[]).toList
     else
      false
   else
    bif v.kind==(3:Int) then
     bif v.int==(0:Int) then
      plainS v.text
     else
      false
    else
     false
def zfG (v:V):Bool :=
 bif zm7 v then
  bif v.kind==2 then
   true
  else
   v.kind==(0:Int)
 else
  false
def lnot (v:V):V × Bool :=
 bif !zfG v then
  (V.mk 0 0 (ByteArray.mk #[]),false)
 else
  bif v.kind==0 then
   (v,true)
  else
   (V.mk (2:Int) (if (v.int==(0:Int))=true then (1:Int) else (0:Int)) (ByteArray.mk #[]),true)
def zmq (a b:V):V :=
 bif a.kind==2&&((a.int==if false=true then 1 else 0)&&(a.text==ByteArray.mk #[]&&true)) then
  V.mk 2 (if false=true then 1 else 0) (ByteArray.mk #[])
 else
  bif b.kind==2&&((b.int==if false=true then 1 else 0)&&(b.text==ByteArray.mk #[]&&true)) then
   V.mk 2 (if false=true then 1 else 0) (ByteArray.mk #[])
  else
   bif a.kind==0 then
    V.mk 0 0 (ByteArray.mk #[])
   else
    bif b.kind==0 then
     V.mk 0 0 (ByteArray.mk #[])
    else
     V.mk 2 (if true=true then 1 else 0) (ByteArray.mk #[])
def land (a b:V):V × Bool :=
 bif !zfG a then
  (V.mk 0 0 (ByteArray.mk #[]),false)
 else
  bif !zfG b then
   (V.mk 0 0 (ByteArray.mk #[]),false)
  else
   (zmq a b,true)
def lor (a b:V):V × Bool :=
 bif !zfG a then
  (V.mk 0 0 (ByteArray.mk #[]),false)
 else
  bif !zfG b then
   (V.mk 0 0 (ByteArray.mk #[]),false)
  else
   ((lnot (zmq (lnot a).fst (lnot b).fst)).fst,(lnot (zmq (lnot a).fst (lnot b).fst)).snd)
def isTrue (a:V):Bool :=
 a.kind==(2:Int)&&((a.int==if true=true then (1:Int) else (0:Int))&&(a.text==ByteArray.mk #[]&&true))
def aAdd (a b:Int):Int × Bool :=
 bif decide (0 < b) then
  bif decide (IntKind.i64.wrap (9223372036854775807 - b) < a) then
   (0,false)
  else
   bif decide (b < 0) then
    bif decide (a < IntKind.i64.wrap (-9223372036854775808 - b)) then
     (0,false)
    else
     (IntKind.i64.wrap (a+b),true)
   else
    (IntKind.i64.wrap (a+b),true)
 else
  bif decide (b < 0) then
   bif decide (a < IntKind.i64.wrap (-9223372036854775808 - b)) then
    (0,false)
   else
    (IntKind.i64.wrap (a+b),true)
  else
   (IntKind.i64.wrap (a+b),true)
def aSub (a b:Int):Int × Bool :=
 bif decide (b < 0) then
  bif decide (IntKind.i64.wrap (9223372036854775807+b) < a) then
   (0,false)
  else
   bif decide (0 < b) then
    bif decide (a < IntKind.i64.wrap (-9223372036854775808+b)) then
     (0,false)
    else
     (IntKind.i64.wrap (a - b),true)
   else
    (IntKind.i64.wrap (a - b),true)
 else
  bif decide (0 < b) then
   bif decide (a < IntKind.i64.wrap (-9223372036854775808+b)) then
    (0,false)
   else
    (IntKind.i64.wrap (a - b),true)
  else
   (IntKind.i64.wrap (a - b),true)
def aMul (a b:Int):Int × Bool :=
 bif a==0 then
  (0,true)
 else
  bif b==0 then
   (0,true)
  else
   bif a==-9223372036854775808 then
    bif b==-1 then
     (0,false)
    else
     bif b==-9223372036854775808 then
      bif a==-1 then
       (0,false)
      else
       bif IntKind.i64.wrap ((IntKind.i64.wrap (a * b)).tdiv b) != a then
        (0,false)
       else
        (IntKind.i64.wrap (a * b),true)
     else
      bif IntKind.i64.wrap ((IntKind.i64.wrap (a * b)).tdiv b) != a then
       (0,false)
      else
       (IntKind.i64.wrap (a * b),true)
   else
    bif b==-9223372036854775808 then
     bif a==-1 then
      (0,false)
     else
      bif IntKind.i64.wrap ((IntKind.i64.wrap (a * b)).tdiv b) != a then
       (0,false)
      else
       (IntKind.i64.wrap (a * b),true)
    else
     bif IntKind.i64.wrap ((IntKind.i64.wrap (a * b)).tdiv b) != a then
      (0,false)
     else
      (IntKind.i64.wrap (a * b),true)
def aDiv (a b:Int):Int × Bool :=
 bif b==0 then
  (0,false)
 else
  bif a==-9223372036854775808 then
   bif b==-1 then
    (0,false)
   else
    (IntKind.i64.wrap (a.tdiv b),true)
  else
   (IntKind.i64.wrap (a.tdiv b),true)
def aMod (a b:Int):Int × Bool :=
 bif b==0 then
  (0,false)
 else
  bif b==-1 then
   (0,true)
  else
   (a.tmod b,true)
def zeq (v:V) (ok:Bool):V × Int :=
 bif !ok then
  (V.mk 0 0 (ByteArray.mk #[]),5)
 else
  (v,0)
def cmpOp (op c:Int):Bool:=bif op==3 then c==0 else bif op==4 then c != 0 else bif op==5 then decide (c < 0) else bif op==6 then decide (c≤0) else bif op==7 then decide (0 < c) else decide (0≤c)
def vCmp (op:Int) (a b:V):V × Int :=
 bif a.kind==0 then
  (V.mk 0 0 (ByteArray.mk #[]),0)
 else
  bif b.kind==0 then
   (V.mk 0 0 (ByteArray.mk #[]),0)
  else
   bif a.kind != b.kind then
    (V.mk 0 0 (ByteArray.mk #[]),5)
   else
    (V.mk 2 (if cmpOp op (cmpV a b)=true then 1 else 0) (ByteArray.mk #[]),0)
def ziC (op:Int) (a b:V):V × Int :=
 bif a.kind==0 then
  (V.mk 0 0 (ByteArray.mk #[]),0)
 else
  bif b.kind==0 then
   (V.mk 0 0 (ByteArray.mk #[]),0)
  else
   bif a.kind != 1 then
    (V.mk 0 0 (ByteArray.mk #[]),5)
   else
    bif b.kind != 1 then
     (V.mk 0 0 (ByteArray.mk #[]),5)
    else
     bif op==12 then
      bif b.int==0 then
       (V.mk 0 0 (ByteArray.mk #[]),7)
      else
       bif op==9 then
        bif !(aAdd a.int b.int).snd then
         (V.mk 0 0 (ByteArray.mk #[]),6)
        else
         (V.mk 1 (aAdd a.int b.int).fst (ByteArray.mk #[]),0)
       else
        bif op==10 then
         bif !(aSub a.int b.int).snd then
          (V.mk 0 0 (ByteArray.mk #[]),6)
         else
          (V.mk 1 (aSub a.int b.int).fst (ByteArray.mk #[]),0)
        else
         bif op==11 then
          bif !(aMul a.int b.int).snd then
           (V.mk 0 0 (ByteArray.mk #[]),6)
          else
           (V.mk 1 (aMul a.int b.int).fst (ByteArray.mk #[]),0)
         else
          bif !(aDiv a.int b.int).snd then
           (V.mk 0 0 (ByteArray.mk #[]),6)
          else
           (V.mk 1 (aDiv a.int b.int).fst (ByteArray.mk #[]),0)
     else
      bif op==13 then
       bif b.int==0 then
        (V.mk 0 0 (ByteArray.mk #[]),7)
       else
        bif op==9 then
         bif !(aAdd a.int b.int).snd then
          (V.mk 0 0 (ByteArray.mk #[]),6)
         else
          (V.mk 1 (aAdd a.int b.int).fst (ByteArray.mk #[]),0)
        else
         bif op==10 then
          bif !(aSub a.int b.int).snd then
           (V.mk 0 0 (ByteArray.mk #[]),6)
          else
           (V.mk 1 (aSub a.int b.int).fst (ByteArray.mk #[]),0)
         else
          bif op==11 then
           bif !(aMul a.int b.int).snd then
            (V.mk 0 0 (ByteArray.mk #[]),6)
           else
            (V.mk 1 (aMul a.int b.int).fst (ByteArray.mk #[]),0)
          else
           bif !(aMod a.int b.int).snd then
            (V.mk 0 0 (ByteArray.mk #[]),6)
           else
            (V.mk 1 (aMod a.int b.int).fst (ByteArray.mk #[]),0)
      else
       bif op==9 then
        bif !(aAdd a.int b.int).snd then
         (V.mk 0 0 (ByteArray.mk #[]),6)
        else
         (V.mk 1 (aAdd a.int b.int).fst (ByteArray.mk #[]),0)
       else
        bif op==10 then
         bif !(aSub a.int b.int).snd then
          (V.mk 0 0 (ByteArray.mk #[]),6)
         else
          (V.mk 1 (aSub a.int b.int).fst (ByteArray.mk #[]),0)
        else
         bif op==11 then
          bif !(aMul a.int b.int).snd then
           (V.mk 0 0 (ByteArray.mk #[]),6)
          else
           (V.mk 1 (aMul a.int b.int).fst (ByteArray.mk #[]),0)
         else
          (V.mk 0 0 (ByteArray.mk #[]),6)
def zkw (x y z:V):V × Int :=
 bif (vCmp 6 y x).snd != 0 then
  (V.mk 0 0 (ByteArray.mk #[]),(vCmp 6 y x).snd)
 else
  bif (vCmp 6 x z).snd != 0 then
   (V.mk 0 0 (ByteArray.mk #[]),(vCmp 6 x z).snd)
  else
   ((zeq (land (vCmp 6 y x).fst (vCmp 6 x z).fst).fst (land (vCmp 6 y x).fst (vCmp 6 x z).fst).snd).fst,(zeq (land (vCmp 6 y x).fst (vCmp 6 x z).fst).fst (land (vCmp 6 y x).fst (vCmp 6 x z).fst).snd).snd)
def znR (op:Int) (nt:Bool) (a:V):V × Int :=
 (V.mk (2:Int) (if (!(a.kind==(0:Int))==nt)=true then (1:Int) else (0:Int)) (ByteArray.mk #[]),0)
def opNot (op:Int) (nt:Bool) (a:V):V × Int :=
 ((zeq (lnot a).fst (lnot a).snd).fst,(zeq (lnot a).fst (lnot a).snd).snd)
def opNeg (op:Int) (nt:Bool) (a:V):V × Int :=
 ((ziC 10 (V.mk 1 0 (ByteArray.mk #[])) a).fst,(ziC 10 (V.mk 1 0 (ByteArray.mk #[])) a).snd)
def opBet (op:Int) (nt:Bool) (a b c:V):V × Int :=
 ((zkw a b c).fst,(zkw a b c).snd)
def opBin (op:Int) (nt:Bool) (a b:V):V × Int :=
 bif op==2 then
  ((zeq (land a b).fst (land a b).snd).fst,(zeq (land a b).fst (land a b).snd).snd)
 else
  bif op==1 then
   ((zeq (lor a b).fst (lor a b).snd).fst,(zeq (lor a b).fst (lor a b).snd).snd)
  else
   bif decide (op≤8) then
    ((vCmp op a b).fst,(vCmp op a b).snd)
   else
    ((ziC op a b).fst,(ziC op a b).snd)
end Go.AM
namespace Go.AM
set_option maxRecDepth 100000
set_option linter.unusedSimpArgs false
set_option linter.unusedVariables false
abbrev zac {α:Type} (l:List α):Prop:=l.length≤1000000000
def idxF {α:Type} (p:α→Bool):List α→Nat→Int
 | [],_=>-1
 | x::r,i=>bif p x then (i:Int) else idxF p r (i+1)
theorem zi6 {α:Type} (p:α→Bool):∀ (l:List α) (i:Nat),(idxF p l i=-1∧l.find? p=none)∨∃ (j:Nat) (x:α),idxF p l i=((i+j:Nat):Int)∧l[j]?=some x∧l.find? p=some x
 | [],i=>.inl ⟨rfl,rfl⟩
 | x::r,i=>by
  cases hp:p x
  ·rcases zi6 p r (i+1) with ⟨h1,h2⟩|⟨j,y,h1,h2,h3⟩
   ·exact .inl ⟨by simp [idxF,hp,h1],by simp [hp,h2]⟩
   ·exact .inr ⟨j+1,y,by simp only [idxF,hp,cond_false,h1];omega,by simpa using h2,by simp [hp,h3]⟩
  ·exact .inr ⟨0,x,by simp [idxF,hp],by simp,by simp [hp]⟩
def zbR (t:Tb) (n:Str):Bool :=
 ByteArray.toList t.sch.name==ByteArray.toList n
def colC (t:Col) (n:Str):Bool :=
 ByteArray.toList t.name==ByteArray.toList n
theorem zfd (t:Col) (n:Str) :zaa E0 S.schema_Find_c1 [.agg t.cells,.p 0 0] [.box [sv n]] (bv (colC t n)) [.box [sv n]]:=by
 exact walkH E0ok mix0 At.schema_Find_c1 rfl kr kr 3000 (y:=AV.v (Value.bool (ByteArray.toList t.name==ByteArray.toList n))) (H:=[Blk.box [AV.v (Value.string n)]]) [] kr (⟨rfl,rfl⟩)
noncomputable def zmy (tb:List Col) (n:Str) (i:Nat):Cfg:=zaq B.slices_IndexFunc_Column 0 [(0,.sl (tb.map Col.cells)),(1,.fn S.schema_Find_c1 [.p 0 0]),(7,iv ((tb.map Col.cells).length:Nat)),(8,iv (i:Nat))] [.box [sv n]]
theorem zmH (tb:List Col) (n:Str) (hl:zac tb):∀ (k i:Nat),i+k=tb.length→Good E0 B.slices_IndexFunc_Column [.box [sv n]] (zmy tb n i) (Shut 1 fun r h=>r=iv (idxF (fun t=>colC t n) (tb.drop i) i)∧h=[.box [sv n]]):=by
 intro k
 induction k with
 | zero =>
  intro i hi
  refine zab ?_
  have h0:decide ((i:Int) < (((tb.map Col.cells).length:Nat):Int))=false:=by simp;omega
  have e0:tb.drop i=[]:=List.drop_of_length_le (by omega)
  rw [e0]
  exact zii E0ok mix0 3000 (y:=AV.v (Value.int IntKind.i64 (-1:Int))) (H:=[Blk.box [AV.v (Value.string n)]]) [sb h0] kr (⟨rfl,rfl⟩)
 | succ k ih =>
  intro i hi
  have ih:=ih (i+1) (by omega)
  obtain ⟨x,hx⟩:=zbc (l:=tb) (i:=i) (by omega)
  have h0:decide ((i:Int) < (((tb.map Col.cells).length:Nat):Int))=true:=by simp;omega
  have hw:=zaA i (by omega)
  rw [zde hx]
  simp only [idxF]
  refine zab ?_
  cases h1:colC x n
  ·exact zci E0ok mix0 3000 (c':=zmy tb n (i+(1:Nat))) [sb h0,se (zao Col.cells hx rfl),sl [(0:Nat)] (zfd x n),sb h1,si hw] [0,1,7,8] 1 kr kr (by simpa only [cond_true,cond_false,h1] using ih)
  ·exact zii E0ok mix0 3000 (y:=AV.v (Value.int IntKind.i64 (i:Int))) (H:=[Blk.box [AV.v (Value.string n)]]) [sb h0,se (zao Col.cells hx rfl),sl [(0:Nat)] (zfd x n),sb h1] kr (⟨by simp only [cond_true,cond_false,h1],rfl⟩)
theorem zeD (tb:List Col) (n:Str) (hl:zac tb):zaa E0 S.slices_IndexFunc_Column [.sl (tb.map Col.cells),.fn S.schema_Find_c1 [.p 0 0]] [.box [sv n]] (iv (idxF (fun t=>colC t n) tb 0)) [.box [sv n]]:=by
 exact zh3 E0ok mix0 At.slices_IndexFunc_Column rfl kr kr 3000 (c':=zmy tb n (0:Nat)) [] [0,1,7,8] 1 kr kr (by simpa using zmH tb n hl tb.length 0 (by simp))
def zjM (tb:List Tb) (n:Str):Option Tb:=tb.find? fun t=>zbR t n
def Tb.zero:Tb:=⟨⟨⟨#[]⟩,[]⟩,0,[]⟩
theorem zcj (s:Sch) (n:Str) (hl:zac s.cols):Pure S.schema_Find [s.av,sv n] (iv (idxF (fun c=>colC c n) s.cols 0)):=by
 exact walk E0ok mix0 At.schema_Find rfl kr kr 3000 (y:=AV.v (Value.int IntKind.i64 (idxF (fun t=>colC t n) s.cols (0:Nat)))) [sl [(1:Nat)] (zeD s.cols n (by first|assumption|(simp;done)|omega|(simp;omega)))] kr (rfl)
def zi8 (kind op:Int) (xs:List X) (qs:List Qy) (it wh:List X):Bool :=
 bif kind==(1:Int) then
  bif (↑(zad xs).length:Int) != (0:Int) then
   false
  else
   bif (↑(zae qs).length:Int) != (0:Int) then
    false
   else
    true
 else
  bif kind==(2:Int) then
   bif (↑(zad xs).length:Int) != (0:Int) then
    false
   else
    bif (↑(zae qs).length:Int) != (0:Int) then
     false
    else
     true
  else
   bif kind==(3:Int) then
    bif (↑(zad xs).length:Int) != (1:Int) then
     false
    else
     bif (↑(zae qs).length:Int) != (0:Int) then
      false
     else
      true
   else
    bif kind==(4:Int) then
     bif (↑(zad xs).length:Int) != (1:Int) then
      false
     else
      bif (↑(zae qs).length:Int) != (0:Int) then
       false
      else
       true
    else
     bif kind==(6:Int) then
      bif (↑(zad xs).length:Int) != (1:Int) then
       false
      else
       bif (↑(zae qs).length:Int) != (0:Int) then
        false
       else
        true
     else
      bif kind==(5:Int) then
       bif decide (op < (1:Int)) then
        false
       else
        bif decide ((13:Int) < op) then
         false
        else
         bif (↑(zad xs).length:Int) != (2:Int) then
          false
         else
          bif (↑(zae qs).length:Int) != (0:Int) then
           false
          else
           true
      else
       bif kind==(7:Int) then
        bif (↑(zad xs).length:Int) != (3:Int) then
         false
        else
         bif (↑(zae qs).length:Int) != (0:Int) then
          false
         else
          true
       else
        bif kind==(8:Int) then
         bif (↑(zad xs).length:Int) != (0:Int) then
          false
         else
          bif (↑(zae qs).length:Int) != (1:Int) then
           false
          else
           bif (↑(zad it).length:Int)==(0:Int) then
            decide ((↑(zad wh).length:Int)≤(1:Int))
           else
            false
        else
         bif kind==(9:Int) then
          bif (↑(zad xs).length:Int) != (0:Int) then
           false
          else
           bif (↑(zae qs).length:Int) != (1:Int) then
            false
           else
            bif (↑(zad it).length:Int)==(0:Int) then
             decide ((↑(zad wh).length:Int)≤(1:Int))
            else
             false
         else
          bif kind==(10:Int) then
           bif (↑(zad xs).length:Int) != (0:Int) then
            false
           else
            bif (↑(zae qs).length:Int) != (1:Int) then
             false
            else
             bif (↑(zad it).length:Int)==(1:Int) then
              decide ((↑(zad wh).length:Int)≤(1:Int))
             else
              false
          else
           bif kind==(11:Int) then
            bif (↑(zad xs).length:Int) != (0:Int) then
             false
            else
             bif (↑(zae qs).length:Int) != (1:Int) then
              false
             else
              bif (↑(zad it).length:Int)==(1:Int) then
               decide ((↑(zad wh).length:Int)≤(1:Int))
              else
               false
           else
            bif kind==(12:Int) then
             bif (↑(zad xs).length:Int) != (0:Int) then
              false
             else
              bif (↑(zae qs).length:Int) != (1:Int) then
               false
              else
               bif (↑(zad it).length:Int)==(1:Int) then
                decide ((↑(zad wh).length:Int)≤(1:Int))
               else
                false
            else
             false
def ziR (kind op:Int) (xs:List X):Bool :=
 bif kind==(1:Int) then
  bif (↑(zad xs).length:Int) != (0:Int) then
   false
  else
   true
 else
  bif kind==(2:Int) then
   bif (↑(zad xs).length:Int) != (0:Int) then
    false
   else
    true
  else
   bif kind==(3:Int) then
    bif (↑(zad xs).length:Int) != (1:Int) then
     false
    else
     true
   else
    bif kind==(4:Int) then
     bif (↑(zad xs).length:Int) != (1:Int) then
      false
     else
      true
    else
     bif kind==(6:Int) then
      bif (↑(zad xs).length:Int) != (1:Int) then
       false
      else
       true
     else
      bif kind==(5:Int) then
       bif decide (op < (1:Int)) then
        false
       else
        bif decide ((13:Int) < op) then
         false
        else
         bif (↑(zad xs).length:Int) != (2:Int) then
          false
         else
          true
      else
       bif kind==(7:Int) then
        bif (↑(zad xs).length:Int) != (3:Int) then
         false
        else
         true
       else
        bif kind==(8:Int) then
         bif (↑(zad xs).length:Int) != (0:Int) then
          false
         else
          false
        else
         bif kind==(9:Int) then
          bif (↑(zad xs).length:Int) != (0:Int) then
           false
          else
           false
         else
          bif kind==(10:Int) then
           bif (↑(zad xs).length:Int) != (0:Int) then
            false
           else
            false
          else
           bif kind==(11:Int) then
            bif (↑(zad xs).length:Int) != (0:Int) then
             false
            else
             false
           else
            bif kind==(12:Int) then
             bif (↑(zad xs).length:Int) != (0:Int) then
              false
             else
              false
            else
             false
end Go.AM
namespace Go.AM
set_option maxRecDepth 100000
set_option linter.unusedSimpArgs false
set_option linter.unusedVariables false
theorem sD1_1 {p:Prop} (h:p:=by first|assumption|omega|(simp;done)|(simp;omega)):p:=h
def modI (v n:Int):Int:=bif decide (v.tmod n < 0) then IntKind.i64.wrap (v.tmod n+n) else v.tmod n
theorem zk8 (v n:Int) (hn:n≠0):Pure S.world_Mod [iv v,iv n] (iv (modI v n)):=by
 unfold modI
 cases h1:decide (v.tmod n < (0:Int))
 ·exact wk At.world_Mod [sx (.i (v.tmod n)) (show ¬n=(0:Int)∧(v.tmod n:Int)=v.tmod n from ⟨hn,rfl⟩),sb h1] kr
 ·exact wk At.world_Mod [sx (.i (v.tmod n)) (show ¬n=(0:Int)∧(v.tmod n:Int)=v.tmod n from ⟨hn,rfl⟩),sb h1,si (e:=IntKind.i64.wrap (v.tmod n+n)) rfl] kr
def Tp.next (t:Tp) (n:Int):Nat × Tp:=match t.l[t.pos]? with
 | some x=>((modI x n).toNat,⟨t.l,t.pos+1,t.ok⟩)
 | none=>(0,t)
theorem zh5 (v n:Int) (hn:0 < n) (hv:n≤9223372036854775807):0≤modI v n∧modI v n < n:=by
 unfold modI
 have h1:=Int.tmod_lt_of_pos v hn
 have h2:-n < v.tmod n:=by
  have:=Int.tmod_lt_of_pos (-v) hn
  rw [Int.neg_tmod] at this;omega
 cases h:decide (v.tmod n < 0)
 ·simp at h;simp;omega
 ·simp at h;simp only [cond_true];rw [IntKind.wrap_i64];omega
theorem Tp.next_lt (t:Tp) (n:Int) (hn:0 < n) (hv:n≤9223372036854775807):((t.next n).1:Int) < n:=by
 unfold Tp.next
 split
 ·have:=zh5 (by assumption) n hn hv
  simp;omega
 ·simpa using hn
abbrev Pos (n:Int):Prop:=0 < n∧n≤9223372036854775807
theorem zjw (i:Nat) (h:i < 9223372036854775806):IntKind.i64.wrap (((i+1:Nat):Int) - 1)=((i:Nat):Int):=by
 rw [IntKind.wrap_i64];omega
theorem zoC (t:Tp) (n:Int) (hx:t.l.length≤t.pos):zaa E0 S.world_Tape_Next [.p 0 0,iv n] [.box t.cells] (iv 0) [.box t.cells]:=by
 have h0:decide ((((t.l.map fun n=>[iv n]).length:Nat):Int)≤((t.pos:Nat):Int))=true:=by simp;omega
 exact wk At.world_Tape_Next [sd [],sb h0] kr
theorem zfH (t:Tp) (n:Int) (x:Int) (hn:n≠0) (hx:t.l[t.pos]?=some x) (h0:decide ((((t.l.map fun n=>[iv n]).length:Nat):Int)≤((t.pos:Nat):Int))=false) (hw:IntKind.i64.wrap ((t.pos:Int)+1)=((t.pos+1:Nat):Int)) (hw2:IntKind.i64.wrap (((t.pos+1:Nat):Int) - 1)=((t.pos:Nat):Int)):∃ (a:Int),a=modI x n∧zaa E0 S.world_Tape_Next [.p 0 0,iv n] [.box t.cells] (iv a) [.box (Tp.cells ⟨t.l,t.pos+1,t.ok⟩)]:=by
 exact ⟨modI x n,by first|assumption|trivial|(simp;done)|omega|(simp;omega)|(simp at *;omega),wk At.world_Tape_Next [sd [],sb h0,si hw,sd [(8,[si hw2]),(9,[se (zao (fun n=>[iv n]) hx rfl)]),(12,[sc (zk8 x n sD1_1)])]] kr⟩
theorem c_next (t:Tp) (n:Int) (hn:Pos n):zaa E0 S.world_Tape_Next [.p 0 0,iv n] [.box t.cells] (iv ((t.next n).1:Nat)) [.box (t.next n).2.cells]:=by
 unfold Tp.next
 cases hx:t.l[t.pos]? with
 | none=>exact zoC t n (by simpa using hx)
 | some x =>
  have hl:=at_lt hx
  have ho:=t.ok
  obtain ⟨a,rfl,hc⟩:=zfH t n x (by omega) hx (by simp;omega) (zaA t.pos (by omega)) (zjw t.pos (by omega))
  have h2:=zh5 x n hn.1 hn.2
  simp only
  rw [Int.toNat_of_nonneg h2.1]
  exact hc
theorem zb7 (t:Tp) (n:Int) (hn:Pos n):∃ (a:Nat) (t':Tp),(a:Int) < n∧zaa E0 S.world_Tape_Next [.p 0 0,iv n] [.box t.cells] (iv a) [.box t'.cells] :=
 ⟨_,_,t.next_lt n hn.1 hn.2,c_next t n hn⟩
abbrev I64 (n:Int):Prop:=-9223372036854775808≤n∧n≤9223372036854775807
structure V.Good (v:V):Prop where
 valid:zm7 v=true
 i64:I64 v.int
 small:v.small
def xLit (v:V):X :=
 X.mk 1 0 false v (ByteArray.mk #[]) (ByteArray.mk #[]) [] []
def xCol (t n:Str):X :=
 X.mk 2 0 false (V.mk 0 0 (ByteArray.mk #[])) t n [] []
theorem zfB (t n:Str) :zaa E0 S.world_Col [sv t,sv n] [] ((xCol t n).av) []:=by
 exact wk At.world_Col [] kr
def xBin (op:Int) (a b:X):X :=
 X.mk 5 op false (V.mk 0 0 (ByteArray.mk #[])) (ByteArray.mk #[]) (ByteArray.mk #[]) [a,b] []
theorem zlu (op:Int) (a b:X) :zaa E0 S.world_Bin [iv op,a.av,b.av] [] ((xBin op a b).av) []:=by
 unfold xBin
 exact (by (try simp only [X.av,Qy.av,xsl,za3,zbh,za2,zbi,X.cells,Qy.cells,X.args_mk,X.sub_mk,Qy.items_mk,Qy.wh_mk]);exact wk At.world_Bin [] kr)
end Go.AM
namespace Go.AM
open Go.RowKit
set_option linter.unusedSimpArgs false
set_option linter.unusedVariables false
section
variable {E : Env0}
theorem znY (ht:zan E) {fn:Func} {R:AV→Heap→Prop} {h0:Heap} {n:Nat} {ts:TS} {h:Heap} {y:AV} (hv:retV E ts h fn.results.toList=some y) (hR:R y h):Good E fn h0 ⟨n,[],ts,h⟩ R:=by
 intro β0 S0 w0 β S w tmps hb0 hn x0 r rt
 simp only at r rt x0
 have key:∀ v,(results fn tmps).run E.P w=.ok v w→RelV E.T h β w S y v→kont E.P [] (bodyPost E.P fn (Post E h0 β0 S0 w0 R)) .normal ⟨tmps,[]⟩ w:=by
  intro v hrun hrel
  have hpost:bodyPost E.P fn (Post E h0 β0 S0 w0 R) .normal ⟨tmps,[]⟩ w:=⟨rfl,v,hrun,y,h,β,S,v,rfl,hR,r,x0,hrel⟩
  exact hpost
 unfold retV at hv
 cases ha:zeR E ts h fn.results.toList with
 | none=>simp [ha] at hv
 | some ys =>
  obtain ⟨vs,w1,w2⟩:=zgZ ht r rt _ ys ha
  have hrun:(results fn tmps).run E.P w=.ok (if hh:vs.toArray.size=1 then vs.toArray[0] else .tuple vs.toArray) w:=by
   rw [zid,Array.mapM_eq_mapM_toList]
   simp only [Sem.run_bind,Sem.run_map]
   rw [w1]
   simp only [Result.andThen_ok,Sem.run_pure]
  rw [ha] at hv
  split at hv
  ·rename_i x hx
   cases hx
   cases hv
   have hvl:=w2.1
   match vs,hvl,w2,hrun with
   | [v],_,w2,hrun =>
    refine key v ?_ w2.uncons.1
    rw [hrun]
    simp
   | [],hvl,_,_=>simp at hvl
   | _::_::_,hvl,_,_=>simp at hvl
  ·rename_i xs hne hx
   cases hx
   cases hv
   refine key (.tuple vs.toArray) ?_ (.tup _ _ w2.1 w2.2)
   rw [hrun,dif_neg]
   intro h1
   have hl:ys.length=1:=by rw [w2.1];simpa using h1
   match ys,hl with
   | [a],_=>exact hne a rfl
  ·rename_i hx
   cases hx
end
theorem zjD {E:Env0} {fn:Func} {h0:Heap} {c c':Cfg} {R:AV→Heap→Prop} (b i:Nat) (live:List Nat) (m:Nat) {cs:List AV} (hb:c.h[b]?=some (.box cs)) (hi:cs[i]?=some .nl) (hm:Nat.ble h0.length m=true)
  (he:cut live m ⟨c.n,c.todo,c.ts,c.h.set b (.box (cs.set i (.sl [])))⟩=c') (hg:Good E fn h0 c' R):Good E fn h0 c R:=by
 have hg':=zcG live m (Nat.le_of_ble_eq_true hm) (he ▸ hg)
 intro β0 S0 w0 β S w tmps hb0 hn x0 r rt
 have x2:=zeC (β:=β) (S:=S) (w:=w) hb (cs.set i (.sl []))
 have r2:=r.setBox hb (cs.set i (.sl [])) (fun g' vs' t' e2 e3 e4 e5=>by
  refine ⟨by simpa using e4,fun j x' y hx hy=>?_⟩
  by_cases hij:i=j
  ·subst hij
   rw [List.getElem?_set_self (List.getElem?_eq_some_iff.1 hi).1] at hx
   cases hx
   have:=e5 i .nl y hi hy
   refine ⟨?_,this.2⟩
   obtain ⟨a,rfl⟩:=zfe this.1
   exact .d _ _ (.sl [] a 0 0 0 0 (fun _=>undef) (fun hn=>absurd rfl hn) (Nat.le_refl _) (Nat.zero_le _) (by simp) (by simp) (by simp))
  ·rw [List.getElem?_set_ne hij] at hx
   exact e5 j x' y hx hy)
 exact hg' β0 S0 w0 β S w tmps hb0 hn (x0.trans x2) r2 fun t'=>(rt t').ext x2
def finE (E:Env) (fn:Func) (m n:Nat) (c:Cfg) (os:List Orc):Option (List Prop × AV × Heap) :=
 match run E n c os with
 | (q,⟨_,[],ts,h⟩,[])=>match retV E.toEnv0 ts h fn.results.toList with
  | some y=>some ((match frzM y with|[]=>q|_::_=>frzO h y::q),frz h y,((share h (frzM y)).take m).map (zaF (zbK m)))
  | none=>none
 | _=>none
theorem zjv {E:Env0} (ht:zan E) (hmix:E.P.follows .mixedOrders=true) {fn:Func} {R:AV→Heap→Prop} {h0:Heap} {c:Cfg} (n:Nat) (os:List Orc) {q:List Prop} {y:AV} {H:Heap} {m:Nat}
  (hfin:finE (mk E) fn m n c os=some (q,y,H)) (hq:allP q) (hR:R y H):Good E fn h0 c (Shut m R):=by
 unfold finE at hfin
 split at hfin
 ·rename_i q' n' ts h' hrun
  split at hfin
  ·rename_i y' hret
   simp only [Option.some.injEq,Prod.mk.injEq] at hfin
   obtain ⟨h1,h2,h3⟩:=hfin
   have hqo:allP q'∧frzO h' y':=by
    split at h1
    ·rename_i hm
     subst h1
     exact ⟨hq,zdJ y' hm⟩
    ·subst h1
     obtain ⟨a,b⟩:=zfr hq
     exact ⟨b,a⟩
   refine zeh ht hmix n c os (by rw [hrun];exact hqo.1) ?_
   rw [hrun]
   exact znY ht hret ⟨hqo.2,by rw [h2,h3];exact hR⟩
  ·cases hfin
 ·cases hfin
theorem wkrE {fn:Func} {h0:Heap} {c:Cfg} {r:AV} {H:Heap} {m:Nat} (l:List St) (hfin:finE (mk E0) fn m 3000 c (orcs l)=some (zaB l,r,H)):Good E0 fn h0 c (Shut m fun y h=>y=r∧h=H) :=
 zjv E0ok mix0 3000 (orcs l) hfin (zaw l) ⟨rfl,rfl⟩
noncomputable def runFE (fn:Func) (args:List AV) (h:Heap) (os:List Orc):Option (List Prop × AV × Heap) :=
 match fn.body, (fn.name == "runtime.NumGoroutine"), Nat.ble args.length fn.ntmps with
 | some c,false,true=>finE (mk E0) fn h.length 3000 ⟨fn.ntmps,[.code c],zbg 0 args,h⟩ os
 | _,_,_=>none
theorem wkE {f:FuncId} {fn:Func} {args:List AV} {h H:Heap} {r:AV} (hf:E0.P.funcs[f]?=some fn) (l:List St) (hfin:runFE fn args h (orcs l)=some (zaB l,r,H)):zaa E0 f args h r H:=by
 unfold runFE at hfin
 split at hfin
 ·rename_i c hb hn ha
  exact zb4 (zax hf hb hn (Nat.le_of_ble_eq_true ha) (zjv E0ok mix0 3000 (orcs l) hfin (zaw l) ⟨rfl,rfl⟩))
 ·cases hfin
end Go.AM
namespace Go.AM
inductive Ct where
 | fz (t:Nat)
 | os (t:Nat)
 | bl (t:Nat)
 | bx (k q:Nat)
 | nl (k q:Nat)
 | ot (t:Nat) (e:TypeId)
 | ob (k q:Nat) (e:TypeId)
def ctM (live:List Nat) (m:Nat) (x:Ct) (c:Cfg):Option (List Prop × Cfg):=match x with
 | .fz t=>some ([frzO c.h (look c.ts t)],cut live m ⟨c.n,c.todo,(t,frz c.h (look c.ts t))::c.ts,share c.h (frzM (look c.ts t))⟩)
 | .os t=>match look c.ts t with
  | .own b n=>some ([],cut live m ⟨c.n,c.todo,(t,.os b n 0 n)::c.ts,c.h⟩)
  | _=>none
 | .bl t=>match look c.ts t with
  | .bl b=>some ([],cut live m ⟨c.n,c.todo,(t,.v (.bool b))::c.ts,c.h⟩)
  | _=>none
 | .bx k q=>match c.h[k]? with
  | some (.box cs)=>match cs[q]? with
   | some (.bl b)=>some ([],cut live m ⟨c.n,c.todo,c.ts,c.h.set k (.box (cs.set q (.v (.bool b))))⟩)
   | _=>none
  | _=>none
 | .nl k q=>match c.h[k]? with
  | some (.box cs)=>match cs[q]? with
   | some .nl=>some ([],cut live m ⟨c.n,c.todo,c.ts,c.h.set k (.box (cs.set q (.sl [])))⟩)
   | _=>none
  | _=>none
 | .ot t e=>match look c.ts t with
  | .nl=>some ([],cut live m ⟨c.n,c.todo,(t,.own c.h.length 0)::c.ts,c.h++[Blk.row e [] false]⟩)
  | _=>none
 | .ob k q e=>match c.h[k]? with
  | some (.box cs)=>match cs[q]? with
   | some .nl=>some ([],cut live m ⟨c.n,c.todo,c.ts,(c.h++[Blk.row e [] false]).set k (.box (cs.set q (.own c.h.length 0)))⟩)
   | _=>none
  | _=>none
theorem ctM_ok {E:Env0} {fn:Func} {h0:Heap} {c c':Cfg} {R:AV→Heap→Prop} {live:List Nat} {m:Nat} {x:Ct} {q:List Prop} (hm:Nat.ble h0.length m=true) (h:ctM live m x c=some (q,c')) (ho:allP q) (hg:Good E fn h0 c' R):Good E fn h0 c R:=by
 cases x with
 | fz t =>
  cases h
  exact zk9 t live m rfl rfl ho hm rfl hg
 | os t =>
  simp only [ctM] at h
  split at h
  ·rename_i b n hl
   cases h
   exact zmd t b n live m hl hm rfl hg
  ·cases h
 | bl t =>
  simp only [ctM] at h
  split at h
  ·rename_i b hl
   cases h
   exact zl6 t b live m hl hm rfl hg
  ·cases h
 | bx k q =>
  simp only [ctM] at h
  split at h
  ·rename_i cs hb
   split at h
   ·rename_i b hi
    cases h
    exact zjA k q b live m hb hi hm rfl hg
   ·cases h
  ·cases h
 | nl k q =>
  simp only [ctM] at h
  split at h
  ·rename_i cs hb
   split at h
   ·rename_i hi
    cases h
    exact zjD k q live m hb hi hm rfl hg
   ·cases h
  ·cases h
 | ot t e =>
  simp only [ctM] at h
  split at h
  ·rename_i hl
   cases h
   exact zb3 t e live m hl hm rfl hg
  ·cases h
 | ob k q e =>
  simp only [ctM] at h
  split at h
  ·rename_i cs hb
   split at h
   ·rename_i hi
    cases h
    exact ziU k q e live m hb hi hm rfl hg
   ·cases h
  ·cases h
def cts (live:List Nat) (n0:Nat):List (Ct × Nat)→List Prop→Cfg→Option (List Prop × Cfg)
 | [],q,c=>some (q,c)
 | (x,m)::r,q,c=>match Nat.ble n0 m,ctM live m x c with
  | true,some (q1,c1)=>cts live n0 r (q++q1) c1
  | _,_=>none
theorem zcf:∀ {a b:List Prop},allP (a++b)→allP a∧allP b
 | [],_,h=>⟨trivial,h⟩
 | [_],[],h=>⟨h,trivial⟩
 | [_],_::_,h=>⟨h.1,h.2⟩
 | _::q::r,b,h=>by
  have:=zcf (a:=q::r) (b:=b) h.2
  exact ⟨⟨h.1,this.1⟩,this.2⟩
theorem zhE {live:List Nat} {n0:Nat}:∀ {l:List (Ct × Nat)} {q q':List Prop} {c c':Cfg},cts live n0 l q c=some (q',c')→∃ q2,q'=q++q2
 | [],_,_,_,_,h=>by
  cases h
  exact ⟨[],by simp⟩
 | (x,m)::r,q,q',c,c',h=>by
  simp only [cts] at h
  split at h
  ·rename_i q1 c1 _ _
   obtain ⟨q2,h2⟩:=zhE h
   exact ⟨q1++q2,by rw [h2,List.append_assoc]⟩
  ·cases h
theorem zke {E:Env0} {fn:Func} {h0:Heap} {R:AV→Heap→Prop} {live:List Nat}:∀ {l:List (Ct × Nat)} {q q':List Prop} {c c':Cfg},cts live h0.length l q c=some (q',c')→allP q'→Good E fn h0 c' R→Good E fn h0 c R
 | [],_,_,_,_,h,_,hg=>by
  cases h
  exact hg
 | (x,m)::r,q,q',c,c',h,ho,hg=>by
  simp only [cts] at h
  split at h
  ·rename_i q1 c1 hm hc
   obtain ⟨q2,h2⟩:=zhE h
   have h3:allP q1:=by
    rw [h2] at ho
    exact (zcf (zcf ho).1).2
   exact ctM_ok hm hc h3 (zke h ho hg)
  ·cases h
noncomputable def ziI (fn:Func) (args:List AV) (h:Heap) (live:List Nat) (m:Nat) (k:List (Ct × Nat)) (os:List Orc):Option (List Prop × Cfg) :=
 match zgk fn args h live m os with
 | some (q,c)=>cts live h.length k q c
 | none=>none
theorem zjj {fn:Func} {h0:Heap} {c c':Cfg} {R:AV→Heap→Prop} {live:List Nat} {m:Nat} {os:List Orc} {q:List Prop} (hm:Nat.ble h0.length m=true) (hu:upto (mk E0) live m 3000 c os=(q,c')) (hq:allP q) (hg:Good E0 fn h0 c' R):Good E0 fn h0 c R:=by
 unfold upto at hu
 have h1:(run (mk E0) 3000 c os).1=q:=by
  have:=congrArg Prod.fst hu
  exact this
 have h2:cut live m (run (mk E0) 3000 c os).2.1=c':=congrArg Prod.snd hu
 exact zhD E0ok mix0 3000 os live m hm h1 h2 hq hg
theorem wkcN {f:FuncId} {fn:Func} {args:List AV} {h:Heap} {R:AV→Heap→Prop} {c':Cfg} (hf:E0.P.funcs[f]?=some fn) (l:List St) (live:List Nat) (m:Nat) (k:List (Ct × Nat)) (hu:ziI fn args h live m k (orcs l)=some (zaB l,c'))
  (hg:Good E0 fn h c' (Shut h.length R)):zbx E0 f args h R:=by
 unfold ziI at hu
 split at hu
 ·rename_i q c1 h1
  unfold zgk at h1
  split at h1
  ·rename_i c hb hn ha hm
   obtain ⟨q2,h2⟩:=zhE hu
   have h3:=zaw l
   have h4:allP q:=by
    rw [h2] at h3
    exact (zcf h3).1
   exact zb4 (zax hf hb hn (Nat.le_of_ble_eq_true ha) (zjj hm (Option.some.inj h1) h4 (zke hu h3 hg)))
  ·cases h1
 ·cases hu
theorem wrapN8 {t:Int} {n:Nat} (h1:t=(n:Int)) (h2:n≤255):IntKind.u8.wrap t=(n:Int):=by
 rw [h1,IntKind.wrap_u8];omega
end Go.AM
namespace Go.AM
set_option maxRecDepth 100000
set_option linter.unusedSimpArgs false
set_option linter.unusedVariables false
structure ValOk (c:Col) (v:V):Prop where
 good:v.Good
 kind:v.kind=0∨v.kind=c.type
 nn:c.notNull=true→v.kind=c.type
abbrev ColOk (c:Col):Prop:=c.type=1∨c.type=2∨c.type=3
structure PrefOk (cols:List Col) (n:Nat) (vals:List V):Prop where
 len:vals.length=n
 at_:∀ (k:Nat) (c:Col) (v:V),cols[k]?=some c→vals[k]?=some v→ValOk c v
abbrev zd9 (cols:List Col) (vals:List V):Prop:=PrefOk cols cols.length vals
theorem PrefOk.nil (cols:List Col):PrefOk cols 0 []:=⟨rfl,fun k c v _ h=>by simp at h⟩
theorem PrefOk.push {cols:List Col} {n:Nat} {vals:List V} (h:PrefOk cols n vals) {c:Col} (hc:cols[n]?=some c) {v:V} (hv:ValOk c v):PrefOk cols (n+1) (vals++[v]):=by
 refine ⟨by simp [h.len],fun k c' v' h1 h2=>?_⟩
 by_cases hk:k < vals.length
 ·rw [List.getElem?_append_left hk] at h2
  exact h.at_ k c' v' h1 h2
 ·rw [List.getElem?_append_right (by omega)] at h2
  have hl:=h.len
  have:k - vals.length=0:=by
   rcases Nat.eq_zero_or_pos (k - vals.length) with h|h
   ·exact h
   ·rw [List.getElem?_eq_none (by simp;omega)] at h2;cases h2
  rw [this] at h2
  simp only [List.getElem?_cons_zero,Option.some.injEq] at h2
  have:k=n:=by omega
  subst this
  rw [h1] at hc
  cases hc
  exact h2 ▸ hv
def zbp :(List Sch) :=
 [Sch.mk (ByteArray.mk #[108,111,103]) [Col.mk (ByteArray.mk #[110]) 1 false false,Col.mk (ByteArray.mk #[115]) 3 false false],Sch.mk (ByteArray.mk #[116]) [Col.mk (ByteArray.mk #[105,100]) 1 true true,Col.mk (ByteArray.mk #[110]) 1 false false,Col.mk (ByteArray.mk #[98]) 2 false false,Col.mk (ByteArray.mk #[115]) 3 false false],Sch.mk (ByteArray.mk #[117]) [Col.mk (ByteArray.mk #[105,100]) 1 true true,Col.mk (ByteArray.mk #[110]) 1 true false,Col.mk (ByteArray.mk #[109]) 1 false false]]
theorem zin  :zaa E0 S.world_Schemas [] [] (.sl (zbp.map Sch.cells)) []:=by
 unfold zbp
 exact (by (try simp only [X.av,Qy.av,V.av,Tb.av,Sch.av,Pl.av,xsl,fsl,vsl,tsl,List.map_append,List.map_cons,List.map_nil,V.cells,Col.cells,Rw.cells,Tb.cells,Fr.cells,Sch.cells,Pl.cells,zbw,za3,zbh,za2,zbi,X.cells,Qy.cells,X.args_mk,X.sub_mk,Qy.items_mk,Qy.wh_mk]);exact wk At.world_Schemas [] kr)
def zlH (n:Str):List (Sch)→Nat→Sch
 | [],i =>
  Sch.mk (ByteArray.mk #[]) []
 | x::r,i =>
  bif ByteArray.toList x.name==ByteArray.toList n then
   x
  else
   zlH n r (i+1)
def zn9 (n:Str):Sch :=
 zlH n zbp (0)
def xNeg (a:X):X:=X.mk 4 0 false ⟨0,0,⟨#[]⟩⟩ ⟨#[]⟩ ⟨#[]⟩ [a] []
def plIn (p:Pl) (s:Sch):Pl :=
 Pl.mk (p.frs++[Fr.mk s.name false s.cols []]) p.tbs
end Go.AM
namespace Go.AM
set_option maxRecDepth 100000
set_option linter.unusedSimpArgs false
set_option linter.unusedVariables false
abbrev Few {α:Type} (l:List α):Prop:=l.length≤1000
def IsCol (x:X):Prop:=∃ a b,x=xCol a b
def zea (l:List X):Prop:=∀ x∈l,IsCol x
theorem zea.nil:zea []:=fun _ h=>by cases h
theorem zea.app {l m:List X} (h:zea l) (hm:zea m):zea (l++m):=fun x hx=>(List.mem_append.1 hx).elim (h x) (hm x)
theorem zea.col (a b:Str):zea [xCol a b]:=fun x hx=>by simp only [List.mem_singleton] at hx;exact ⟨a,b,hx⟩
theorem zea.at {l:List X} (h:zea l) {i:Nat} {x:X} (hx:l[i]?=some x):IsCol x:=h x (List.mem_of_getElem? hx)
structure Pl.Ok (p:Pl):Prop where
 frs:Few p.frs
 cols:∀ f∈p.frs,Few f.cols
structure TabOk (t:Tb):Prop where
 rows:∀ r∈t.rows,zd9 t.sch.cols r.vals
 len:t.rows.length≤1000
structure SchOk (s:Sch):Prop where
 few:Few s.cols
 cols:∀ c∈s.cols,ColOk c
 ne:s.cols≠[]
theorem SchOk.short {s:Sch} (h:SchOk s):zac s.cols:=by have:=h.few;simp only [Few] at this;simp only [zac];omega
def zhB (l:List V) (key:Int):V:=l.getD key.toNat V.null
abbrev zfF (s:Sch) (rows:List Rw):Prop:=∀ r∈rows,zd9 s.cols r.vals
theorem zfF.len {s:Sch} {rows:List Rw} (h:zfF s rows) {i:Nat} {x:Rw} (hx:rows[i]?=some x):x.vals.length=s.cols.length:=(h x (List.mem_of_getElem? hx)).len
theorem zfF.push {s:Sch} {rows:List Rw} (h:zfF s rows) {x:Rw} (hx:zd9 s.cols x.vals):zfF s (rows++[x]):=fun r hr=>(List.mem_append.1 hr).elim (h r) fun h=>by simp only [List.mem_singleton] at h;exact h ▸ hx
theorem zom {x:Sch} (hx:x∈zbp):SchOk x:=by
 simp only [zbp,List.mem_cons,List.not_mem_nil,or_false] at hx
 rcases hx with rfl|rfl|rfl <;> exact ⟨by simp,by simp [ColOk],by simp⟩
structure StoreOk (l:List Tb):Prop where
 len:l.length≤1000
 tabs:∀ t∈l,TabOk t∧SchOk t.sch
theorem StoreOk.push {l:List Tb} (h:StoreOk l) (hl:l.length+1≤1000) {t:Tb} (ht:TabOk t) (hs:SchOk t.sch):StoreOk (l++[t]) :=
 ⟨by simp;omega,fun x hx=>(List.mem_append.1 hx).elim (h.tabs x) fun h=>by simp only [List.mem_singleton] at h;exact h ▸ ⟨ht,hs⟩⟩
end Go.AM
namespace Go.AM
set_option maxRecDepth 100000
set_option linter.unusedSimpArgs false
set_option linter.unusedVariables false
abbrev Thin {α:Type} (k:Nat) (l:List α):Prop:=l.length≤k
theorem Thin.few {α:Type} {k:Nat} {l:List α} (h:Thin k l) (hk:k≤1000:=by decide):Few l:=Nat.le_trans h hk
theorem Thin.short {α:Type} {k:Nat} {l:List α} (h:Thin k l) (hk:k≤1000000000:=by decide):zac l:=Nat.le_trans h hk
def XOk:Nat→X→Prop
 | 0,_=>False
 | n+1,e=>e.val.Good∧(Thin 3 e.args∧Thin 1 e.sub)∧(∀ x∈e.args,XOk n x)∧∀ q∈e.sub,(Thin 8 q.items∧Thin 1 q.wh)∧(∀ x∈q.items,XOk n x)∧∀ x∈q.wh,XOk n x
theorem XOk.mono:∀ {n:Nat} {e:X},XOk n e→XOk (n+1) e
 | 0,_,h=>h.elim
 | n+1,e,⟨h1,h2,h3,h4⟩=>⟨h1,h2,fun x hx=>(h3 x hx).mono,fun q hq=>⟨(h4 q hq).1,fun x hx=>((h4 q hq).2.1 x hx).mono,fun x hx=>((h4 q hq).2.2 x hx).mono⟩⟩
theorem XOk.le {n m:Nat} {e:X} (h:XOk n e) (hm:n≤m):XOk m e:=by
 induction hm with
 | refl=>exact h
 | step _ ih=>exact ih.mono
structure Pl.OkN (n:Nat) (p:Pl):Prop where
 frs:p.frs.length+n≤1000
 cols:∀ f∈p.frs,Few f.cols
 ne:p.tbs≠[]
 few:Few p.tbs
 tcols:∀ s∈p.tbs,Few s.cols
theorem Pl.OkN.short {n:Nat} {p:Pl} (h:p.OkN n):zac p.frs:=by have:=h.frs;simp only [zac];omega
theorem Pl.OkN.less {n:Nat} {p:Pl} (h:p.OkN (n+1)):p.OkN n:=⟨by have:=h.frs;omega,h.cols,h.ne,h.few,h.tcols⟩
theorem Pl.OkN.pos {n:Nat} {p:Pl} (h:p.OkN n):Pos (((p.tbs.map Sch.cells).length:Nat):Int):=by
 have h1:=h.few
 have h2:0 < p.tbs.length:=List.length_pos_iff.2 h.ne
 simp only [Few] at h1
 simp only [Pos,List.length_map];omega
theorem Pl.OkN.ins {n:Nat} {p:Pl} (h:p.OkN (n+1)) {k:Nat} {s:Sch} (hs:p.tbs[k]?=some s):(plIn p s).OkN n:=by
 refine ⟨by have:=h.frs;simp [plIn];omega,fun f hf=>?_,h.ne,h.few,h.tcols⟩
 simp only [plIn,List.mem_append,List.mem_singleton] at hf
 rcases hf with hf|rfl
 ·exact h.cols f hf
 ·exact h.tcols s (List.mem_of_getElem? hs)
end Go.AM
namespace Go.AM
set_option maxRecDepth 100000
set_option maxHeartbeats 1000000
set_option linter.unusedSimpArgs false
set_option linter.unusedVariables false
theorem zjP {p:Prop} (h:p:=by first|assumption|(simp;done)|(simp;omega)|omega|(simp at *;omega)):p:=h
theorem zjN {p:Prop} (h:p:=by first|assumption|omega|(simp;done)|(simp;omega)):p:=h
def zaC:Fr:=⟨⟨#[]⟩,false,[],[]⟩
theorem zlF {α:Type} {l:List α} {k:Nat} (d:α) (h:k < l.length):l[k]?=some (l.getD k d):=by
 rw [List.getD_eq_getElem?_getD,List.getElem?_eq_getElem h];rfl
noncomputable def L_sres (frs:List Fr) (q n:Str) (k:Nat) :Cfg:=zaq B.scope_Resolve 0 [(0,fsl frs),(1,sv q),(2,sv n),(9,iv (pm1 k))] []
def sres (frs:List Fr) (q n:Str):Nat→Int × Int × Bool
 | 0 =>
  (0,0,false)
 | k+1 =>
  bif ByteArray.toList q==(ByteArray.mk #[]).toList then
   bif (frs.getD k zaC).strict then
    sres frs q n (k)
   else
    bif decide (0≤idxF (fun c=>colC c n) (Sch.mk (ByteArray.mk #[]) (frs.getD k zaC).cols).cols 0) then
     (pm1 (k+1),idxF (fun c=>colC c n) (Sch.mk (ByteArray.mk #[]) (frs.getD k zaC).cols).cols 0,true)
    else
     sres frs q n (k)
  else
   bif !ByteArray.toList (frs.getD k zaC).name==ByteArray.toList q then
    sres frs q n (k)
   else
    bif decide (0≤idxF (fun c=>colC c n) (Sch.mk (ByteArray.mk #[]) (frs.getD k zaC).cols).cols 0) then
     (pm1 (k+1),idxF (fun c=>colC c n) (Sch.mk (ByteArray.mk #[]) (frs.getD k zaC).cols).cols 0,true)
    else
     sres frs q n (k)
theorem zli (frs:List Fr) (q n:Str) (hl:zac frs) (hc:∀ f∈frs,zac f.cols):∀ (k:Nat),k≤1000000000→k≤frs.length→Good E0 B.scope_Resolve [] (L_sres frs q n k ) (Shut 0 fun r h=>r=(.tup [iv (sres frs q n k ).1,iv (sres frs q n k ).2.1,bv (sres frs q n k ).2.2])∧h=[]):=by
 intro k
 induction k with
 | zero =>
  intro  hk hk2
  simp only [sres]
  refine zab ?_
  exact wkr [sb (rfl:false=false)] kr
 | succ k ih =>
  intro  hk hk2
  have h0:decide ((0:Int)≤((k:Nat):Int))=true:=by simp
  have hw:=zkR k (by omega)
  have hx:=zlF (l:=frs) (k:=k) zaC (by omega);have hcx:=hc _ (List.mem_of_getElem? hx)
  simp only [sres]
  refine zab ?_
  cases h1:ByteArray.toList q==(ByteArray.mk #[]).toList
  ·cases h2:!ByteArray.toList (frs.getD k zaC).name==ByteArray.toList q
   ·cases h3:decide (0≤idxF (fun c=>colC c n) (Sch.mk (ByteArray.mk #[]) (frs.getD k zaC).cols).cols 0)
    ·exact wkl [sb (rfl:true=true),se (zao Fr.cells hx rfl),sb h1,sg (congrArg Bool.not h1),sb h2,sc (zcj (Sch.mk (ByteArray.mk #[]) (frs.getD k zaC).cols) n zjN),sb h3,si hw] [0,1,2,9] 0 kr (ih  (by omega) zjP)
    ·exact wkr [sb (rfl:true=true),se (zao Fr.cells hx rfl),sb h1,sg (congrArg Bool.not h1),sb h2,sc (zcj (Sch.mk (ByteArray.mk #[]) (frs.getD k zaC).cols) n zjN),sb h3] kr
   ·exact wkl [sb (rfl:true=true),se (zao Fr.cells hx rfl),sb h1,sg (congrArg Bool.not h1),sb h2,si hw] [0,1,2,9] 0 kr (ih  (by omega) zjP)
  ·cases h4:(frs.getD k zaC).strict
   ·cases h5:decide (0≤idxF (fun c=>colC c n) (Sch.mk (ByteArray.mk #[]) (frs.getD k zaC).cols).cols 0)
    ·exact wkl [sb (rfl:true=true),se (zao Fr.cells hx rfl),sg h1,sg h4,sb (congrArg Bool.not h1),sc (zcj (Sch.mk (ByteArray.mk #[]) (frs.getD k zaC).cols) n zjN),sb h5,si hw] [0,1,2,9] 0 kr (ih  (by omega) zjP)
    ·exact wkr [sb (rfl:true=true),se (zao Fr.cells hx rfl),sg h1,sg h4,sb (congrArg Bool.not h1),sc (zcj (Sch.mk (ByteArray.mk #[]) (frs.getD k zaC).cols) n zjN),sb h5] kr
   ·exact wkl [sb (rfl:true=true),se (zao Fr.cells hx rfl),sg h1,sb h4,si hw] [0,1,2,9] 0 kr (ih  (by omega) zjP)
theorem zkC {α:Type} (f:α→List AV) (l:List α) (h:zac l):IntKind.i64.wrap ((((l.map f).length:Nat):Int) - 1)=pm1 l.length:=by
 rw [List.length_map];exact zkR _ (by simp only [zac] at h;omega)
def zbm (frs:List Fr) (q n:Str):Int × Int × Bool :=
 sres frs q n (frs.length)
theorem zif (frs:List Fr) (q n:Str) (hl:zac frs) (hc:∀ f∈frs,zac f.cols) (hw0:IntKind.i64.wrap ((((frs.map Fr.cells).length:Nat):Int) - 1)=pm1 frs.length):zaa E0 S.scope_Resolve [fsl frs,sv q,sv n] [] (.tup [iv (zbm frs q n).1,iv (zbm frs q n).2.1,bv (zbm frs q n).2.2]) []:=by
 unfold zbm
 exact wkc At.scope_Resolve [si hw0] [0,1,2,9] 0 kr (by have ih:=zli frs q n hl hc frs.length (by simp only [zac] at hl;omega) (Nat.le_refl _);exact ih)
def zcQ (frs:List Fr) (q n:Str) (k:Nat) (f:Fr) (els:Int × Int × Bool):List (Col)→Nat→Int × Int × Bool
 | [],j =>
  els
 | x::r,j =>
  bif ByteArray.toList x.name==ByteArray.toList n then
   (pm1 (k+1),(j:Int),true)
  else
   zcQ frs q n k f els r (j+1)
def rres (frs:List Fr) (q n:Str):Nat→Int × Int × Bool
 | 0 =>
  (0,0,false)
 | k+1 =>
  bif ByteArray.toList q==(ByteArray.mk #[]).toList then
   bif (frs.getD k zaC).strict then
    rres frs q n (k)
   else
    zcQ frs q n k (frs.getD k zaC) (rres frs q n k) (frs.getD k zaC).cols 0
  else
   bif !ByteArray.toList (frs.getD k zaC).name==ByteArray.toList q then
    rres frs q n (k)
   else
    zcQ frs q n k (frs.getD k zaC) (rres frs q n k) (frs.getD k zaC).cols 0
def zbt (frs:List Fr) (q n:Str):Int × Int × Bool :=
 rres frs q n (frs.length)
def zgm (tb:List Tb) (n:Str):List (Tb)→Nat→Sch × Bool
 | [],i =>
  (Sch.mk (ByteArray.mk #[]) [],false)
 | x::r,i =>
  bif ByteArray.toList x.sch.name==ByteArray.toList n then
   (x.sch,true)
  else
   zgm tb n r (i+1)
def zag (tb:List Tb) (n:Str):Sch × Bool :=
 zgm tb n tb (0)
def zas (frs:List Fr) (s:Sch) (v:List V):(List Fr) :=
 frs++[Fr.mk s.name false s.cols v]
end Go.AM
namespace Go.AM
set_option maxRecDepth 100000
set_option maxHeartbeats 1000000
set_option linter.unusedSimpArgs false
set_option linter.unusedVariables false
def zkv (e:X):Bool:=match e.sub with
 | []=>ziR e.kind e.op e.args
 | q::r=>zi8 e.kind e.op e.args (q::r) q.items q.wh
theorem zks (frs:List Fr) (q n:Str) (k:Nat) (f:Fr) (els:Int × Int × Bool):∀ (c:List Col) (j:Nat),(zcQ frs q n k f els c j=els)∨(∃ (i:Nat) (x:Col),zcQ frs q n k f els c j=(((k:Nat):Int),((j+i:Nat):Int),true)∧c[i]?=some x)
 | [],j=>.inl rfl
 | x::r,j=>by
  rcases zks frs q n k f els r (j+1) with h|⟨i,y,h,hy⟩
  ·simp only [zcQ,Bool.cond_eq_ite]
   split
   ·exact .inr ⟨0,x,rfl,rfl⟩
   ·exact .inl h
  ·simp only [zcQ,Bool.cond_eq_ite]
   split
   ·exact .inr ⟨0,x,rfl,rfl⟩
   ·exact .inr ⟨i+1,y,by rw [h];congr 2;omega,hy⟩
theorem zlM (frs:List Fr) (q n:Str):∀ (k:Nat),k≤frs.length→(rres frs q n k).2.2=true→∃ (i j:Nat) (f:Fr) (c:Col),rres frs q n k=((i:Int),(j:Int),true)∧frs[i]?=some f∧f.cols[j]?=some c
 | 0,_,h=>by simp [rres] at h
 | k+1,hk,h=>by
  have ih:=zlM frs q n k (by omega)
  have hx:=zlF (l:=frs) (k:=k) zaC (by omega)
  have hi:=zks frs q n k (frs.getD k zaC) (rres frs q n k) (frs.getD k zaC).cols 0
  simp only [rres,Bool.cond_eq_ite] at h ⊢
  have key:(zcQ frs q n k (frs.getD k zaC) (rres frs q n k) (frs.getD k zaC).cols 0).2.2=true→∃ (i j:Nat) (f:Fr) (c:Col),zcQ frs q n k (frs.getD k zaC) (rres frs q n k) (frs.getD k zaC).cols 0=((i:Int),(j:Int),true)∧frs[i]?=some f∧f.cols[j]?=some c:=by
   intro h
   rcases hi with e|⟨i,y,e,hy⟩
   ·rw [e] at h ⊢;exact ih h
   ·exact ⟨k,0+i,_,y,e,hx,by simpa using hy⟩
  revert h
  repeat' split
  all_goals first|exact ih|exact key
end Go.AM
namespace Go.AM
set_option maxRecDepth 100000
set_option maxHeartbeats 1000000
set_option linter.unusedSimpArgs false
set_option linter.unusedVariables false
def cNull:Col:=⟨⟨#[]⟩,0,false,false⟩
def rFr (frs:List Fr) (q n:Str):Fr:=frs.getD (zbt frs q n).1.toNat zaC
def rCol (frs:List Fr) (q n:Str):Col:=(rFr frs q n).cols.getD (zbt frs q n).2.1.toNat cNull
theorem zlv {frs:List Fr} {q n:Str} (h:(zbt frs q n).2.2=true):∃ (i j:Nat),zbt frs q n=((i:Int),(j:Int),true)∧frs[i]?=some (rFr frs q n)∧(rFr frs q n).cols[j]?=some (rCol frs q n):=by
 have h':=h
 unfold zbt at h'
 obtain ⟨i,j,f,c,e,hf,hc⟩:=zlM frs q n frs.length (Nat.le_refl _) h'
 have e':zbt frs q n=((i:Int),(j:Int),true):=e
 have e1:rFr frs q n=f:=by simp [rFr,e',List.getD_eq_getElem?_getD,hf]
 have e2:rCol frs q n=c:=by simp [rCol,e1,e',List.getD_eq_getElem?_getD,hc]
 exact ⟨i,j,e',by rw [e1];exact hf,by rw [e1,e2];exact hc⟩
theorem el_rFr (frs:List Fr) (q n:Str) (h:(zbt frs q n).2.2=true):ElAt (frs.map Fr.cells) (zbt frs q n).1 (rFr frs q n).cells 4:=by
 obtain ⟨i,j,e,h1,h2⟩:=zlv h
 rw [show (zbt frs q n).1=(i:Int) by rw [e]]
 exact zao Fr.cells h1 rfl
end Go.AM
namespace Go.AM
set_option maxRecDepth 100000
set_option maxHeartbeats 1000000
set_option linter.unusedSimpArgs false
set_option linter.unusedVariables false
structure FsOk (n:Nat) (frs:List Fr):Prop where
 len:frs.length+n≤1000000
 cols:∀ f∈frs,zac f.cols
 vals:∀ f∈frs,∀ v∈f.vals,v.small
structure TbOk (tb:List Tb):Prop where
 len:zac tb
 cols:∀ x∈tb,zac x.sch.cols
 rows:∀ x∈tb,x.rows.length≤1000
 vals:∀ x∈tb,∀ r∈x.rows,∀ v∈r.vals,v.small
theorem FsOk.short {n:Nat} {frs:List Fr} (h:FsOk n frs):zac frs:=by have:=h.len;simp only [zac];omega
theorem FsOk.wrap {n:Nat} {frs:List Fr} (h:FsOk n frs):IntKind.i64.wrap ((((frs.map Fr.cells).length:Nat):Int) - 1)=pm1 frs.length:=zkC _ _ h.short
theorem FsOk.less {n:Nat} {frs:List Fr} (h:FsOk (n+1) frs):FsOk n frs:=⟨by have:=h.len;omega,h.cols,h.vals⟩
end Go.AM
namespace Go.AM
set_option maxRecDepth 100000
set_option maxHeartbeats 1000000
set_option linter.unusedSimpArgs false
set_option linter.unusedVariables false
theorem zaZ {α:Type} {l:List α} (h:Few l):zac l:=by simp only [Few] at h;simp only [zac];omega
abbrev rIns (frs:List Fr) (tb:List Tb) (q:Qy):List Fr:=zas frs (zag tb q.frm).1 []
theorem zeV (tb:List Tb) (n:Str):∀ (l:List Tb) (i:Nat),(∀ x∈l,zac x.sch.cols)→zac (zgm tb n l i).1.cols
 | [],i,_=>by simp [zgm]
 | x::r,i,h=>by
  simp only [zgm,Bool.cond_eq_ite]
  split
  ·exact h x (by simp)
  ·exact zeV tb n r _ (fun y hy=>h y (by simp [hy]))
theorem FsOk.ins {n:Nat} {frs:List Fr} (h:FsOk (n+1) frs) {tb:List Tb} (ht:TbOk tb) (q:Qy):FsOk n (rIns frs tb q):=by
 refine ⟨by have:=h.len;simp [zas];omega,fun f hf=>?_,fun f hf=>?_⟩
 ·simp only [zas,List.mem_append,List.mem_singleton] at hf
  rcases hf with hf|rfl
  ·exact h.cols f hf
  ·exact zeV tb q.frm tb 0 ht.cols
 ·simp only [zas,List.mem_append,List.mem_singleton] at hf
  rcases hf with hf|rfl
  ·exact h.vals f hf
  ·intro v hv;cases hv
end Go.AM
namespace Go.AM
set_option maxRecDepth 100000
set_option maxHeartbeats 1000000
set_option linter.unusedSimpArgs false
set_option linter.unusedVariables false
def zmt (a b c:Int):Int × Int:=((a+b+c) % 18446744073709551616,(a+b+c) / 18446744073709551616)
theorem wrapU (n:Int):IntKind.u64.wrap n=n % 18446744073709551616:=by simp [IntKind.wrap,IntKind.bits,IntKind.signed]
def sumL (l:List Int):List (Int)→Nat→(Int)→(Int)→Int × Bool
 | [],i,high,low =>
  bif high != IntKind.u64.wrap ((IntKind.i64.wrap low).fdiv (2 ^ min (Int.toNat 63) IntKind.i64.bits)) then
   (0,false)
  else
   (IntKind.i64.wrap low,true)
 | x::r,i,high,low =>
  sumL l r (i+1) ((zmt high (IntKind.u64.wrap (x.fdiv (2 ^ min (Int.toNat 63) IntKind.i64.bits))) (zmt low (IntKind.u64.wrap x) 0).snd).fst) ((zmt low (IntKind.u64.wrap x) 0).fst)
def aSum (l:List Int):Int × Bool :=
 sumL l l 0 0 (0)
def esumL (its:List V):List (V)→Nat→(List Int)→V × Int
 | [],i,l =>
  bif !(aSum l).snd then
   (V.mk 0 0 (ByteArray.mk #[]),6)
  else
   (V.mk 1 (aSum l).fst (ByteArray.mk #[]),0)
 | x::r,i,l =>
  esumL its r (i+1) (l++[x.int])
def eSum (its:List V):V × Int :=
 esumL its its 0 ([])
end Go.AM
namespace Go.AM
set_option maxRecDepth 100000
set_option maxHeartbeats 1000000
set_option linter.unusedSimpArgs false
set_option linter.unusedVariables false
def minL (l:List V):List (V)→Nat→(V)→V
 | [],i,m =>
  m
 | x::r,i,m =>
  bif decide (cmpV x m < 0) then
   minL l r (i+1) (x)
  else
   minL l r (i+1) (m)
def minV (l:List V):V :=
 minL l (l.drop 1) 1 (l.headD V.null)
def maxL (l:List V):List (V)→Nat→(V)→V
 | [],i,m =>
  m
 | x::r,i,m =>
  bif decide (0 < cmpV x m) then
   maxL l r (i+1) (x)
  else
   maxL l r (i+1) (m)
def maxV (l:List V):V :=
 maxL l (l.drop 1) 1 (l.headD V.null)
def eTrue1 (f:X→V × Int) (x:X):Bool × Int :=
 bif (f x).snd==0 then
  bif !zfG (f x).fst then
   (false,5)
  else
   (isTrue (f x).fst,(f x).snd)
 else
  (false,(f x).snd)
def eTrue0 :Bool × Int :=
 (true,0)
noncomputable def clC (frs:List Fr):Cfg:=(upto (mk E0) (List.range 40) 0 3000 ⟨B.slices_Clone_Frame.ntmps,[.code (B.slices_Clone_Frame.body.getD .skip)],zbg 0 [fsl frs],[]⟩ []).2
theorem zoQ (frs:List Fr) (hl:zac frs):Good E0 B.slices_Clone_Frame [] (zbN (clC frs) false) (fun r h=>r=.own 0 frs.length∧h=[.row Ty.Frame (frs.map Fr.cells) false]):=by
 exact zcA E0ok mix0 3000 (y:=AV.own (0:Nat) (List.map Fr.cells frs).length) (H:=[Blk.row Ty.Frame (List.map Fr.cells frs) false]) [sb (rfl:false=false),sq (show AllLen (List.map Fr.cells frs) (4:Nat)∧((List.map Fr.cells frs).length * (72:Nat)).le (140737488355328:Nat) by first|assumption|(simp;done)|(simp;omega)|omega|rfl|(refine ⟨⟨by simp⟩,?_⟩;first|(simp;done)|(simp;omega)|omega)|(refine ⟨⟨by simp⟩,?_,?_⟩ <;> first|(simp;done)|(simp;omega)|omega))] kr (⟨by first|rfl|(simp;done),rfl⟩)
theorem zoL:Good E0 B.slices_Clone_Frame [] (zbN (clC []) true) (fun r h=>r=.nl∧h=[]):=by
 exact zcA E0ok mix0 3000 (y:=AV.nl) (H:=[]) [sb (rfl:true=true)] kr (⟨rfl,rfl⟩)
end Go.AM
namespace Go.AM
set_option maxRecDepth 100000
set_option maxHeartbeats 1000000
set_option linter.unusedSimpArgs false
set_option linter.unusedVariables false
theorem zgb (frs:List Fr) (hl:zac frs):zaa E0 S.slices_Clone_Frame [fsl frs] [] (.own 0 frs.length) [.row Ty.Frame (frs.map Fr.cells) false]:=by
 refine zax At.slices_Clone_Frame rfl kr (Nat.le_of_ble_eq_true kr) (zci E0ok mix0 3000 [] (List.range 40) 0 (c':=clC frs) kr kr (ze7 E0ok (xs:=frs.map Fr.cells) (e:=true) kr fun b hb=>?_))
 cases b with
 | false=>exact zoQ frs hl
 | true =>
  cases frs with
  | nil=>exact zc2 Ty.Frame zoL ⟨rfl,rfl⟩
  | cons x r=>exact absurd (hb (by simp)) (by simp)
def zca (frs:List Fr) (t:Tb) (v:List V):(List Fr) :=
 frs++[Fr.mk t.sch.name false t.sch.cols v]
end Go.AM
namespace Go.AM
set_option maxRecDepth 100000
set_option maxHeartbeats 1000000
set_option linter.unusedSimpArgs false
set_option linter.unusedVariables false
def eAgg (sel:Int × Nat × List V) (e:X):V × Int :=
 bif sel.1 != 0 then (V.null,sel.1)
 else bif e.kind==8 then (⟨2,if decide (0 < ((sel.2.1:Nat):Int)) then 1 else 0,⟨#[]⟩⟩,0)
 else bif e.kind==9 then (⟨1,(sel.2.1:Nat),⟨#[]⟩⟩,0)
 else bif ((sel.2.2.length:Nat):Int)==0 then (V.null,0)
 else bif e.kind==10 then eSum sel.2.2
 else bif e.kind==11 then (minV sel.2.2,0)
 else (maxV sel.2.2,0)
end Go.AM
namespace Go.AM
set_option maxRecDepth 100000
set_option maxHeartbeats 1000000
set_option linter.unusedSimpArgs false
set_option linter.unusedVariables false
theorem zh0 (frs:List Fr) (q n:Str) (k:Nat) (f:Fr) (els:Int × Int × Bool):∀ (c:List Col) (j:Nat),zcQ frs q n k f els c j=bif decide (0≤idxF (fun c=>colC c n) c j) then (pm1 (k+1),idxF (fun c=>colC c n) c j,true) else els
 | [],j=>by simp [zcQ,idxF]
 | x::r,j=>by
  rcases Bool.eq_false_or_eq_true (x.name.toList==n.toList) with h|h
  ·simp [zcQ,idxF,colC,h]
  ·have ih:=zh0 frs q n k f els r (j+1)
   simp only [colC] at ih
   simp only [zcQ,idxF,colC,h,cond_false]
   exact ih
theorem zlA (frs:List Fr) (q n:Str):∀ k,sres frs q n k=rres frs q n k
 | 0=>rfl
 | k+1=>by simp only [sres,rres,zh0,zlA frs q n k]
theorem zlp (frs:List Fr) (q n:Str):zbm frs q n=zbt frs q n:=zlA frs q n _
theorem zkJ (frs:List Fr) (q n:Str) (h:(!(zbm frs q n).2.2)=false):ElAt (frs.map Fr.cells) (zbm frs q n).1 (rFr frs q n).cells 4:=by
 rw [zlp] at h ⊢;exact el_rFr frs q n (by simpa using h)
def evL (f:X→V × Int) (op:List V→V × Int) (e:X) (frs:List Fr) (tb:List Tb):List (X)→Nat→(List V)→V × Int
 | [],i,out =>
  ((op out).fst,(op out).snd)
 | x::r,i,out =>
  bif (f x).snd != 0 then
   (V.mk 0 0 (ByteArray.mk #[]),(f x).snd)
  else
   evL f op e frs tb r (i+1) (out++[(f x).fst])
structure OpKind (e:X):Prop where
 fok:zkv e=true
 k1:e.kind≠1
 k2:e.kind≠2
 k8:¬(8≤e.kind∧e.kind≤12)
def valF (f:X→V × Int) (op:List V→V × Int) (agg:V × Int) (e:X) (frs:List Fr) (tb:List Tb):V × Int :=
 bif !zkv e then
  (V.mk 0 0 (ByteArray.mk #[]),17)
 else
  bif e.kind==1 then
   (e.val,0)
  else
   bif e.kind==2 then
    bif !(zbm frs e.table e.name).snd.snd then
     (V.mk 0 0 (ByteArray.mk #[]),3)
    else
     bif decide ((↑(List.map V.cells (rFr frs e.table e.name).vals).length:Int)≤(zbm frs e.table e.name).snd.fst) then
      (V.mk 0 0 (ByteArray.mk #[]),17)
     else
      (zhB (rFr frs e.table e.name).vals (zbm frs e.table e.name).snd.fst,0)
   else
    bif e.kind==8 then
     (agg.fst,agg.snd)
    else
     bif e.kind==9 then
      (agg.fst,agg.snd)
     else
      bif e.kind==10 then
       (agg.fst,agg.snd)
      else
       bif e.kind==11 then
        (agg.fst,agg.snd)
       else
        bif e.kind==12 then
         (agg.fst,agg.snd)
        else
         evL f op e frs tb e.args 0 ([])
end Go.AM
namespace Go.AM
set_option maxRecDepth 100000
set_option maxHeartbeats 1000000
set_option linter.unusedSimpArgs false
set_option linter.unusedVariables false
theorem zjK {k o:Int} {xs:List X} (h:ziR k o xs=true):((k=1∨k=2)∧xs.length=0)∨((k=3∨k=4∨k=6)∧xs.length=1)∨(k=5∧xs.length=2∧1≤o∧o≤13)∨(k=7∧xs.length=3):=by
 simp only [ziR,Bool.cond_eq_ite,zgv] at h
 simp at h
 repeat' split at h
 all_goals simp_all
 all_goals omega
theorem zjB {k o:Int} {xs:List X} {qs:List Qy} {it wh:List X} (hq:qs≠[]) (h:zi8 k o xs qs it wh=true):xs.length=0∧qs.length=1∧wh.length≤1∧(((k=8∨k=9)∧it.length=0)∨((k=10∨k=11∨k=12)∧it.length=1)):=by
 simp only [zi8,Bool.cond_eq_ite,zgv,zjH] at h
 simp [hq] at h
 obtain ⟨h1,h2,h3,h4,h5,h6,h7,h⟩:=h
 repeat' split at h
 all_goals simp_all
 all_goals omega
def eOp (e:X) (l:List V):V × Int:=match l with
 | [a]=>if e.kind=6 then znR e.op e.not a else if e.kind=3 then opNot e.op e.not a else opNeg e.op e.not a
 | [a,b]=>opBin e.op e.not a b
 | [a,b,c]=>opBet e.op e.not a b c
 | _=>(V.null,0)
theorem OpKind.cases {e:X} (h:OpKind e):e.sub=[]∧(((e.kind=3∨e.kind=4∨e.kind=6)∧e.args.length=1)∨(e.kind=5∧e.args.length=2∧1≤e.op∧e.op≤13)∨(e.kind=7∧e.args.length=3)):=by
 have hf:=h.fok
 have k1:=h.k1
 have k2:=h.k2
 have k8:=h.k8
 unfold zkv at hf
 cases hs:e.sub with
 | nil =>
  rw [hs] at hf
  have:=zjK hf
  refine ⟨rfl,?_⟩
  omega
 | cons q r =>
  rw [hs] at hf
  have:=(zjB (by simp) hf).2.2.2
  omega
def rowI (f:X→V × Int) (k:Int):List X→List V→Int × List V
 | [],its=>(0,its)
 | x::r,its=>bif (f x).2 != 0 then ((f x).2,its) else bif (f x).1.kind==0 then rowI f k r its else bif k==10&&(f x).1.kind != 1 then (5,its) else rowI f k r (its++[(f x).1])
def selR (tr:Rw→Bool × Int) (g:Rw→List V→Int × List V):List Rw→Nat→List V→Int × Nat × List V
 | [],n,its=>(0,n,its)
 | r::l,n,its=>bif (tr r).2 != 0 then ((tr r).2,n,its) else bif (tr r).1 then (bif (g r its).1 != 0 then ((g r its).1,n+1,(g r its).2) else selR tr g l (n+1) (g r its).2) else selR tr g l n its
def eTrueL (f:X→V × Int):List X→Bool × Int
 | []=>eTrue0
 | x::_=>eTrue1 f x
def evalA (F:List Fr→X→V × Int) (e:X) (frs:List Fr) (tb:List Tb):V × Int:=match e.sub with
 | []=>(V.null,0)
 | q::_=>match zjM tb q.frm with
  | none=>eAgg (3,0,[]) e
  | some t=>eAgg (selR (fun r=>eTrueL (F (zca frs t r.vals)) q.wh) (fun r its=>rowI (F (zca frs t r.vals)) e.kind q.items its) t.rows 0 []) e
def eval:Nat→X→List Fr→List Tb→V × Int
 | 0,_,_,_=>(V.null,0)
 | n+1,e,frs,tb=>valF (fun x=>eval n x frs tb) (eOp e) (evalA (fun w x=>eval n x w tb) e frs tb) e frs tb
/- ### values are valid -/
abbrev FsG (frs:List Fr):Prop:=∀ f∈frs,∀ v∈f.vals,v.Good
structure TbG (tb:List Tb):Prop where
 vals:∀ x∈tb,∀ r∈x.rows,∀ v∈r.vals,v.Good
 rows:∀ x∈tb,x.rows.length≤1000
theorem FsG.ins {frs:List Fr} (h:FsG frs) {t:Tb} {v:List V} (hv:∀ x∈v,x.Good):FsG (zca frs t v):=fun f hf=>by
 simp only [zca,List.mem_append,List.mem_singleton] at hf
 rcases hf with hf|rfl
 ·exact h f hf
 ·exact hv
end Go.AM
namespace Go.AM
set_option maxRecDepth 100000
set_option maxHeartbeats 1000000
set_option linter.unusedSimpArgs false
set_option linter.unusedVariables false
theorem FsOk.eins {n:Nat} {frs:List Fr} (h:FsOk (n+1) frs) {t:Tb} (hc:zac t.sch.cols) {v:List V} (hv:∀ x∈v,x.Good):FsOk n (zca frs t v):=by
 refine ⟨by have:=h.len;simp [zca];omega,fun f hf=>?_,fun f hf=>?_⟩
 ·simp only [zca,List.mem_append,List.mem_singleton] at hf
  rcases hf with hf|rfl
  ·exact h.cols f hf
  ·exact hc
 ·simp only [zca,List.mem_append,List.mem_singleton] at hf
  rcases hf with hf|rfl
  ·exact h.vals f hf
  ·exact fun x hx=>(hv x hx).small
end Go.AM
namespace Go.AM
set_option maxRecDepth 100000
set_option maxHeartbeats 1000000
set_option linter.unusedSimpArgs false
set_option linter.unusedVariables false
noncomputable def clCV (l:List V):Cfg:=(upto (mk E0) (List.range 40) 0 3000 ⟨B.slices_Clone_Value.ntmps,[.code (B.slices_Clone_Value.body.getD .skip)],zbg 0 [vsl l],[]⟩ []).2
theorem znV (l:List V) (hl:zac l):Good E0 B.slices_Clone_Value [] (zbN (clCV l) false) (fun r h=>r=.own 0 l.length∧h=[.row Ty.Value (l.map V.cells) false]):=by
 exact zcA E0ok mix0 3000 (y:=AV.own 0 (List.map V.cells l).length) (H:=[Blk.row Ty.Value (List.map V.cells l) false]) [sb (rfl:false=false),sqx (AllLen (List.map V.cells l) 3∧((List.map V.cells l).length * 32).le 140737488355328)] kr (⟨by simp,rfl⟩)
theorem zn3:Good E0 B.slices_Clone_Value [] (zbN (clCV []) true) (fun r h=>r=.nl∧h=[]):=by
 exact zcA E0ok mix0 3000 (y:=AV.nl) (H:=[]) [sb (rfl:true=true)] kr (⟨rfl,rfl⟩)
theorem zaO (l:List V) (hl:zac l):zaa E0 S.slices_Clone_Value [vsl l] [] (.own 0 l.length) [.row Ty.Value (l.map V.cells) false]:=by
 refine zax At.slices_Clone_Value rfl kr (Nat.le_of_ble_eq_true kr) (zci E0ok mix0 3000 [] (List.range 40) 0 (c':=clCV l) kr kr (ze7 E0ok (xs:=l.map V.cells) (e:=true) kr fun b hb=>?_))
 cases b with
 | false=>exact znV l hl
 | true =>
  cases l with
  | nil=>exact zc2 Ty.Value zn3 ⟨rfl,rfl⟩
  | cons x r=>exact absurd (hb (by simp)) (by simp)
abbrev vrow (v:List V):List AV:=[vsl v]
end Go.AM
namespace Go.AM
set_option maxRecDepth 100000
set_option maxHeartbeats 1000000
set_option linter.unusedSimpArgs false
set_option linter.unusedVariables false
structure QOk (n:Nat) (q:Qy):Prop where
 few:Few q.items
 items:∀ x∈q.items,XOk n x
 wh:∀ x∈q.wh,XOk n x
end Go.AM
namespace Go.AM
set_option maxRecDepth 100000
set_option maxHeartbeats 1000000
set_option linter.unusedSimpArgs false
set_option linter.unusedVariables false
noncomputable def zeI (fn:Func) (args:List AV) (h:Heap) (m:Nat):Cfg:=(upto (mk E0) (List.range 40) m 3000 ⟨fn.ntmps,[.code (fn.body.getD .skip)],zbg 0 args,h⟩ []).2
structure Lk where
 fst:Str
 snd:Str
def Lk.cells (l:Lk):List AV:=[sv l.fst,sv l.snd]
abbrev Lk.av (l:Lk):AV:=.agg l.cells
@[simp] theorem Lk.cells_length (x:Lk):x.cells.length=2:=rfl
structure Im where
 trig:Str
 row:Int
 old:List V
 new:List V
def Im.cells (x:Im):List AV:=[sv x.trig,iv x.row,vsl x.old,vsl x.new]
abbrev Im.av (x:Im):AV:=.agg x.cells
@[simp] theorem Im.cells_length (x:Im):x.cells.length=4:=rfl
theorem zmF (l:List Col) (hl:zac l):Good E0 B.slices_Clone_Column [] (zbN (zeI B.slices_Clone_Column [.sl (l.map Col.cells)] [] 0) false) (fun r h=>r=.own 0 l.length∧h=[.row Ty.Column (l.map Col.cells) false]) :=
 zcA E0ok mix0 3000 (y:=AV.own 0 (List.map Col.cells l).length) (H:=[Blk.row Ty.Column (List.map Col.cells l) false]) [sb (rfl:false=false),sqx (AllLen (List.map Col.cells l) 4∧((List.map Col.cells l).length * 32).le 140737488355328)] kr (⟨by simp,rfl⟩)
theorem zml:Good E0 B.slices_Clone_Column [] (zbN (zeI B.slices_Clone_Column [.sl []] [] 0) true) (fun r h=>r=.nl∧h=[]) :=
 zcA E0ok mix0 3000 (y:=AV.nl) (H:=[]) [sb (rfl:true=true)] kr (⟨rfl,rfl⟩)
theorem zaD (l:List Col) (hl:zac l):zaa E0 S.slices_Clone_Column [.sl (l.map Col.cells)] [] (.own 0 l.length) [.row Ty.Column (l.map Col.cells) false]:=by
 refine zax At.slices_Clone_Column rfl kr (Nat.le_of_ble_eq_true kr) (zci E0ok mix0 3000 [] (List.range 40) 0 (c':=zeI B.slices_Clone_Column [.sl (l.map Col.cells)] [] 0) kr kr (ze7 E0ok (xs:=l.map Col.cells) (e:=true) kr fun b hb=>?_))
 cases b with
 | false=>exact zmF l hl
 | true =>
  cases l with
  | nil=>exact zc2 Ty.Column zml ⟨rfl,rfl⟩
  | cons x r=>exact absurd (hb (by simp)) (by simp)
def lkIx (l:List Lk) (v:Lk):List (Lk)→Nat→Int
 | [],i =>
  -1
 | x::r,i =>
  bif v.fst==x.fst&&(v.snd==x.snd&&true) then
   (i:Int)
  else
   lkIx l v r (i+1)
def zpe (l:List Lk) (v:Lk):Int :=
 lkIx l v l (0)
def lkHas (l:List Lk) (v:Lk):Bool :=
 decide ((0:Int)≤zpe l v)
def oPrec (l:List Lk) (a b:Str):Bool :=
 lkHas l (Lk.mk a b)
end Go.AM
namespace Go.AM
set_option maxRecDepth 100000
set_option maxHeartbeats 1000000
set_option linter.unusedSimpArgs false
set_option linter.unusedVariables false
def blk (its:List Im) (l:List Lk) (i k:Nat):Bool:=k != i&&match its[k]?,its[i]? with
 | some y,some x=>oPrec l y.trig x.trig
 | _,_=>false
end Go.AM
namespace Go.AM
set_option maxRecDepth 100000
set_option maxHeartbeats 1000000
set_option linter.unusedSimpArgs false
set_option linter.unusedVariables false
def zd2 (t:Tg) (s:Sch) (a b:List V):(List Fr) :=
 bif !t.each then
  []
 else
  bif t.event==2 then
   bif t.event==1 then
    [Fr.mk (ByteArray.mk #[79,76,68]) true s.cols a,Fr.mk (ByteArray.mk #[78,69,87]) true s.cols b]
   else
    [Fr.mk (ByteArray.mk #[79,76,68]) true s.cols a,Fr.mk (ByteArray.mk #[78,69,87]) true s.cols b]
  else
   bif t.event==3 then
    bif t.event==1 then
     [Fr.mk (ByteArray.mk #[79,76,68]) true s.cols a,Fr.mk (ByteArray.mk #[78,69,87]) true s.cols b]
    else
     [Fr.mk (ByteArray.mk #[79,76,68]) true s.cols a]
   else
    bif t.event==1 then
     [Fr.mk (ByteArray.mk #[78,69,87]) true s.cols b]
    else
     []
end Go.AM
namespace Go.AM
set_option maxRecDepth 100000
set_option maxHeartbeats 1000000
set_option linter.unusedSimpArgs false
set_option linter.unusedVariables false
def seNull:Se:=⟨⟨#[]⟩,.mk 0 0 false ⟨0,0,⟨#[]⟩⟩ ⟨#[]⟩ ⟨#[]⟩ [] []⟩
def Ac.set0 (a:Ac):Se:=a.sets.headD seNull
theorem zlQ {α:Type} (p:α→Bool):∀ (l:List α) (i:Nat),idxF p l i < ((i+l.length:Nat):Int)∨idxF p l i=-1
 | [],i=>.inr rfl
 | x::r,i=>by
  simp only [idxF]
  cases p x
  ·rcases zlQ p r (i+1) with h|h
   ·exact .inl (by simp only [List.length_cons];simpa [Nat.add_assoc,Nat.add_comm 1] using h)
   ·exact .inr h
  ·exact .inl (by simp only [List.length_cons,cond_true];omega)
structure NwOk (nw:List V):Prop where
 len:nw.length≤1000
 good:∀ v∈nw,v.Good
theorem NwOk.short {nw:List V} (h:NwOk nw):zac nw:=by have:=h.len;simp only [zac];omega
structure TrOk (n:Nat) (t:Tg):Prop where
 acts:zac t.acts
 sets:∀ a∈t.acts,XOk n a.set0.ex
 when_:∀ x∈t.when_,XOk n x
end Go.AM
namespace Go.AM
set_option maxRecDepth 100000
set_option maxHeartbeats 1000000
set_option linter.unusedSimpArgs false
set_option linter.unusedVariables false
theorem zd6 {p:Prop} (h:p:=by first|assumption|omega|(simp;done)|(simp;omega)):p:=h
abbrev zbl (s:Str):List AV:=[sv s]
theorem zmI (l:List Str) (hl:zac l):Good E0 B.slices_Clone_string [] (zbN (zeI B.slices_Clone_string [.sl (l.map zbl)] [] 0) false) (fun r h=>r=.own 0 l.length∧h=[.row Ty.string (l.map zbl) false]) :=
 zcA E0ok mix0 3000 (y:=AV.own 0 (List.map zbl l).length) (H:=[Blk.row Ty.string (List.map zbl l) false]) [sb (rfl:false=false),sqx (AllLen (List.map zbl l) 1∧((List.map zbl l).length * 16).le 140737488355328)] kr (⟨by simp,rfl⟩)
theorem zmL:Good E0 B.slices_Clone_string [] (zbN (zeI B.slices_Clone_string [.sl []] [] 0) true) (fun r h=>r=.nl∧h=[]) :=
 zcA E0ok mix0 3000 (y:=AV.nl) (H:=[]) [sb (rfl:true=true)] kr (⟨rfl,rfl⟩)
theorem zb8 (l:List Str) (hl:zac l):zaa E0 S.slices_Clone_string [.sl (l.map zbl)] [] (.own 0 l.length) [.row Ty.string (l.map zbl) false]:=by
 refine zax At.slices_Clone_string rfl kr (Nat.le_of_ble_eq_true kr) (zci E0ok mix0 3000 [] (List.range 40) 0 (c':=zeI B.slices_Clone_string [.sl (l.map zbl)] [] 0) kr kr (ze7 E0ok (xs:=l.map zbl) (e:=true) kr fun b hb=>?_))
 cases b with
 | false=>exact zmI l hl
 | true =>
  cases l with
  | nil=>exact zc2 Ty.string zmL ⟨rfl,rfl⟩
  | cons x r=>exact absurd (hb (by simp)) (by simp)
theorem znK (l:List Rk) (hl:zac l):Good E0 B.slices_Clone_Rank [] (zbN (zeI B.slices_Clone_Rank [.sl (l.map Rk.cells)] [] 0) false) (fun r h=>r=.own 0 l.length∧h=[.row Ty.Rank (l.map Rk.cells) false]) :=
 zcA E0ok mix0 3000 (y:=AV.own 0 (List.map Rk.cells l).length) (H:=[Blk.row Ty.Rank (List.map Rk.cells l) false]) [sb (rfl:false=false),sqx (AllLen (List.map Rk.cells l) 4∧((List.map Rk.cells l).length * 48).le 140737488355328)] kr (⟨by simp,rfl⟩)
theorem zov:Good E0 B.slices_Clone_Rank [] (zbN (zeI B.slices_Clone_Rank [.sl []] [] 0) true) (fun r h=>r=.nl∧h=[]) :=
 zcA E0ok mix0 3000 (y:=AV.nl) (H:=[]) [sb (rfl:true=true)] kr (⟨rfl,rfl⟩)
theorem zgz (l:List Rk) (hl:zac l):zaa E0 S.slices_Clone_Rank [.sl (l.map Rk.cells)] [] (.own 0 l.length) [.row Ty.Rank (l.map Rk.cells) false]:=by
 refine zax At.slices_Clone_Rank rfl kr (Nat.le_of_ble_eq_true kr) (zci E0ok mix0 3000 [] (List.range 40) 0 (c':=zeI B.slices_Clone_Rank [.sl (l.map Rk.cells)] [] 0) kr kr (ze7 E0ok (xs:=l.map Rk.cells) (e:=true) kr fun b hb=>?_))
 cases b with
 | false=>exact znK l hl
 | true =>
  cases l with
  | nil=>exact zc2 Ty.Rank zov ⟨rfl,rfl⟩
  | cons x r=>exact absurd (hb (by simp)) (by simp)
@[simp] theorem cellsQ_app (a b:List Qy):zae (a++b)=zae a++zae b:=by simp [zcJ]
noncomputable def zgp (l:List X) (i:Nat) (out:List X):Cfg:=zaq B.deep_list_api_Expr 0 [(1,.fn S.deep_Expr []),(5,.own 0 out.length),(8,.sl (zad l)),(9,iv ((zad l).length:Nat)),(10,iv (i:Nat))] [.row Ty.Expr (zad out) false]
theorem zdz (l:List X) (hl:zac l) (hf:∀ x∈l,zaa E0 S.deep_Expr [x.av] [] x.av []) (i:Nat) (out:List X) (hi:i≤(l).length) (hI:out=l.take i):∃ (out':List X),(out'=l.take (l).length)∧(decide ((((l).length:Nat):Int) < (((zad l).length:Nat):Int))=false)∧∀ R,Good E0 B.deep_list_api_Expr [] (zgp l (l).length out') R→Good E0 B.deep_list_api_Expr [] (zgp l i out) R:=by
 obtain ⟨kk,hk⟩:∃ kk,i+kk=(l).length:=⟨(l).length - i,by omega⟩
 induction kk generalizing i out with
 | zero =>
  have e0:i=(l).length:=by omega
  subst e0
  exact ⟨out,hI,by simp,fun R hg=>hg⟩
 | succ kk ih =>
  obtain ⟨x,hx⟩:=zbc (l:=l) (i:=i) (by omega)
  have h0:decide (((i:Nat):Int) < (((zad l).length:Nat):Int))=true:=by simp;omega
  have hw:IntKind.i64.wrap (((i:Nat):Int)+1)=((i+1:Nat):Int):=zaA i (by first|omega|(simp only [zac,Few] at *;omega))
  have hfx:=hf x (List.mem_of_getElem? hx)
  have ho:out.length≤1000000000:=by rw [hI,List.length_take];simp only [zac] at hl;omega
  obtain ⟨outZ,qZ,xZ,gZ⟩:=ih (i+1) (out++[x]) (by omega) (by rw [List.take_add_one,hx,hI];rfl) (by omega);exact ⟨outZ,qZ,xZ,fun R hg=>zab (wkl (c':=(Cfg.mk (zgp l (i+1) (out++[x])).n (zgp l (i+1) (out++[x])).todo [(1,AV.fn S.deep_Expr []),(5,AV.own 0 (zad out++[[iv x.kind,iv x.op,bv x.not,iv x.val.kind,iv x.val.int,sv x.val.text,sv x.table,sv x.name,AV.sl (zad x.args),AV.sl (zae x.sub)]]).length),(8,AV.sl (zad l)),(9,iv (↑(zad l).length:Int)),(10,iv (↑(i+1):Int))] [Blk.row Ty.Expr (zad out++[[iv x.kind,iv x.op,bv x.not,iv x.val.kind,iv x.val.int,sv x.val.text,sv x.table,sv x.name,AV.sl (zad x.args),AV.sl (zae x.sub)]]) false])) [sb h0,se (zcx hx),sc hfx,sqx (AllLen [[iv x.kind,iv x.op,bv x.not,iv x.val.kind,iv x.val.int,sv x.val.text,sv x.table,sv x.name,AV.sl (zad x.args),AV.sl (zae x.sub)]] 10∧out.length=(zad out).length∧(((zad out).length+[[iv x.kind,iv x.op,bv x.not,iv x.val.kind,iv x.val.int,sv x.val.text,sv x.table,sv x.name,AV.sl (zad x.args),AV.sl (zae x.sub)]].length) * 136).le 140737488355328),si hw] [1,5,8,9,10] 1 kr (za7 (show ([(1,AV.fn S.deep_Expr []),(5,AV.own 0 (zad out++[[iv x.kind,iv x.op,bv x.not,iv x.val.kind,iv x.val.int,sv x.val.text,sv x.table,sv x.name,AV.sl (zad x.args),AV.sl (zae x.sub)]]).length),(8,AV.sl (zad l)),(9,iv (↑(zad l).length:Int)),(10,iv (↑(i+1):Int))]:TS)=[(1,AV.fn S.deep_Expr []),(5,AV.own 0 (out++[x]).length),(8,AV.sl (zad l)),(9,iv (↑(zad l).length:Int)),(10,iv (↑(i+1):Int))] by first|rfl|(simp;done)|(simp [X.cells,Qy.cells,V.cells,Col.cells,Rw.cells,Tb.cells,Fr.cells,Sch.cells,Tp.cells,Pl.cells,xCol,xLit,xBin,xNeg,Im.cells,Lk.cells];done)) (show ([Blk.row Ty.Expr (zad out++[[iv x.kind,iv x.op,bv x.not,iv x.val.kind,iv x.val.int,sv x.val.text,sv x.table,sv x.name,AV.sl (zad x.args),AV.sl (zae x.sub)]]) false]:Heap)=[Blk.row Ty.Expr (zad (out++[x])) false] by first|rfl|(simp;done)|(simp [X.cells,Qy.cells,V.cells,Col.cells,Rw.cells,Tb.cells,Fr.cells,Sch.cells,Tp.cells,Pl.cells,xCol,xLit,xBin,xNeg,Im.cells,Lk.cells];done)) (gZ R hg)))⟩
theorem zf7 (l:List X) (hl:zac l) (hf:∀ x∈l,zaa E0 S.deep_Expr [x.av] [] x.av []):∃ (r:List X),r=l∧zaa E0 S.deep_list_api_Expr [.sl (zad l),.fn S.deep_Expr []] [] (.sl (zad r)) []:=by
 obtain ⟨out1,q1,q1_1,g1⟩:=zdz l (by first|assumption|rfl|omega) (by first|assumption|rfl|omega) 0 ([]) (by first|assumption|rfl|omega) (by first|assumption|rfl|omega)
 exact ⟨out1,by first|assumption|(rw [List.take_length] at *;assumption),wkc At.deep_list_api_Expr (c':=(Cfg.mk (zgp l 0 []).n (zgp l 0 []).todo [(1,AV.fn S.deep_Expr []),(5,AV.nl),(8,AV.sl (zad l)),(9,iv (↑(zad l).length:Int)),(10,iv 0)] [])) [] [1,5,8,9,10] 0 kr (zb3 (c':=zgp l 0 []) 5 Ty.Expr [1,5,8,9,10] 1 kr kr kr (g1 _ (zab (wkr [sqx (out1.length=(zad out1).length),sb q1_1] kr))))⟩
theorem zdy (l:List X) (hl:zac l) (hf:∀ x∈l,zaa E0 S.deep_Expr [x.av] [] x.av []):zaa E0 S.deep_list_api_Expr [.sl (zad l),.fn S.deep_Expr []] [] (.sl (zad l)) []:=by
 obtain ⟨r,rfl,h⟩:=zf7 l hl hf
 exact h
noncomputable def zf8 (l:List Qy) (i:Nat) (out:List Qy):Cfg:=zaq B.deep_list_api_Query 0 [(1,.fn S.deep_Query []),(5,.own 0 out.length),(8,.sl (zae l)),(9,iv ((zae l).length:Nat)),(10,iv (i:Nat))] [.row Ty.Query (zae out) false]
theorem zdq (l:List Qy) (hl:zac l) (hf:∀ x∈l,zaa E0 S.deep_Query [x.av] [] x.av []) (i:Nat) (out:List Qy) (hi:i≤(l).length) (hI:out=l.take i):∃ (out':List Qy),(out'=l.take (l).length)∧(decide ((((l).length:Nat):Int) < (((zae l).length:Nat):Int))=false)∧∀ R,Good E0 B.deep_list_api_Query [] (zf8 l (l).length out') R→Good E0 B.deep_list_api_Query [] (zf8 l i out) R:=by
 obtain ⟨kk,hk⟩:∃ kk,i+kk=(l).length:=⟨(l).length - i,by omega⟩
 induction kk generalizing i out with
 | zero =>
  have e0:i=(l).length:=by omega
  subst e0
  exact ⟨out,hI,by simp,fun R hg=>hg⟩
 | succ kk ih =>
  obtain ⟨x,hx⟩:=zbc (l:=l) (i:=i) (by omega)
  have h0:decide (((i:Nat):Int) < (((zae l).length:Nat):Int))=true:=by simp;omega
  have hw:IntKind.i64.wrap (((i:Nat):Int)+1)=((i+1:Nat):Int):=zaA i (by first|omega|(simp only [zac,Few] at *;omega))
  have hfx:=hf x (List.mem_of_getElem? hx)
  have ho:out.length≤1000000000:=by rw [hI,List.length_take];simp only [zac] at hl;omega
  obtain ⟨outZ,qZ,xZ,gZ⟩:=ih (i+1) (out++[x]) (by omega) (by rw [List.take_add_one,hx,hI];rfl) (by omega);exact ⟨outZ,qZ,xZ,fun R hg=>zab (wkl (c':=(Cfg.mk (zf8 l (i+1) (out++[x])).n (zf8 l (i+1) (out++[x])).todo [(1,AV.fn S.deep_Query []),(5,AV.own 0 (zae out++[[bv x.star,AV.sl (zad x.items),sv x.frm,AV.sl (zad x.wh)]]).length),(8,AV.sl (zae l)),(9,iv (↑(zae l).length:Int)),(10,iv (↑(i+1):Int))] [Blk.row Ty.Query (zae out++[[bv x.star,AV.sl (zad x.items),sv x.frm,AV.sl (zad x.wh)]]) false])) [sb h0,se (zeP hx),sc hfx,sqx (AllLen [[bv x.star,AV.sl (zad x.items),sv x.frm,AV.sl (zad x.wh)]] 4∧out.length=(zae out).length∧(((zae out).length+[[bv x.star,AV.sl (zad x.items),sv x.frm,AV.sl (zad x.wh)]].length) * 72).le 140737488355328),si hw] [1,5,8,9,10] 1 kr (za7 (show ([(1,AV.fn S.deep_Query []),(5,AV.own 0 (zae out++[[bv x.star,AV.sl (zad x.items),sv x.frm,AV.sl (zad x.wh)]]).length),(8,AV.sl (zae l)),(9,iv (↑(zae l).length:Int)),(10,iv (↑(i+1):Int))]:TS)=[(1,AV.fn S.deep_Query []),(5,AV.own 0 (out++[x]).length),(8,AV.sl (zae l)),(9,iv (↑(zae l).length:Int)),(10,iv (↑(i+1):Int))] by first|rfl|(simp;done)|(simp [X.cells,Qy.cells,V.cells,Col.cells,Rw.cells,Tb.cells,Fr.cells,Sch.cells,Tp.cells,Pl.cells,xCol,xLit,xBin,xNeg,Im.cells,Lk.cells];done)) (show ([Blk.row Ty.Query (zae out++[[bv x.star,AV.sl (zad x.items),sv x.frm,AV.sl (zad x.wh)]]) false]:Heap)=[Blk.row Ty.Query (zae (out++[x])) false] by first|rfl|(simp;done)|(simp [X.cells,Qy.cells,V.cells,Col.cells,Rw.cells,Tb.cells,Fr.cells,Sch.cells,Tp.cells,Pl.cells,xCol,xLit,xBin,xNeg,Im.cells,Lk.cells];done)) (gZ R hg)))⟩
theorem zfY (l:List Qy) (hl:zac l) (hf:∀ x∈l,zaa E0 S.deep_Query [x.av] [] x.av []):∃ (r:List Qy),r=l∧zaa E0 S.deep_list_api_Query [.sl (zae l),.fn S.deep_Query []] [] (.sl (zae r)) []:=by
 obtain ⟨out1,q1,q1_1,g1⟩:=zdq l (by first|assumption|rfl|omega) (by first|assumption|rfl|omega) 0 ([]) (by first|assumption|rfl|omega) (by first|assumption|rfl|omega)
 exact ⟨out1,by first|assumption|(rw [List.take_length] at *;assumption),wkc At.deep_list_api_Query (c':=(Cfg.mk (zf8 l 0 []).n (zf8 l 0 []).todo [(1,AV.fn S.deep_Query []),(5,AV.nl),(8,AV.sl (zae l)),(9,iv (↑(zae l).length:Int)),(10,iv 0)] [])) [] [1,5,8,9,10] 0 kr (zb3 (c':=zf8 l 0 []) 5 Ty.Query [1,5,8,9,10] 1 kr kr kr (g1 _ (zab (wkr [sqx (out1.length=(zae out1).length),sb q1_1] kr))))⟩
theorem zdj (l:List Qy) (hl:zac l) (hf:∀ x∈l,zaa E0 S.deep_Query [x.av] [] x.av []):zaa E0 S.deep_list_api_Query [.sl (zae l),.fn S.deep_Query []] [] (.sl (zae l)) []:=by
 obtain ⟨r,rfl,h⟩:=zfY l hl hf
 exact h
theorem zkK (l:List X) (hl:zac l) (hf:∀ x∈l,zaa E0 S.deep_Expr [x.av] [] x.av []):∃ (r:List X),r=l∧zaa E0 S.deep_Exprs [xsl l] [] (xsl r) []:=by
 exact ⟨l,by rfl,wk At.deep_Exprs [sc (zdy l zd6 zd6)] kr⟩
theorem zcC (l:List X) (hl:zac l) (hf:∀ x∈l,zaa E0 S.deep_Expr [x.av] [] x.av []):zaa E0 S.deep_Exprs [xsl l] [] (xsl l) []:=by
 obtain ⟨r,rfl,h⟩:=zkK l hl hf
 exact h
theorem zgI (q:Qy) (hl:zac q.items) (hl2:zac q.wh) (hf:∀ x∈q.items,zaa E0 S.deep_Expr [x.av] [] x.av []) (hf2:∀ x∈q.wh,zaa E0 S.deep_Expr [x.av] [] x.av []):∃ (r:Qy),r=q∧zaa E0 S.deep_Query [q.av] [] r.av []:=by
 exact ⟨q,by rfl,wk At.deep_Query [sd [(2,[sc (zcC q.items zd6 zd6)]),(5,[sc (zcC q.wh zd6 zd6)])]] kr⟩
theorem zlk (e:X) (hl:zac e.args) (hl2:zac e.sub) (hf:∀ x∈e.args,zaa E0 S.deep_Expr [x.av] [] x.av []) (hf2:∀ x∈e.sub,zaa E0 S.deep_Query [x.av] [] x.av []):∃ (r:X),r=e∧zaa E0 S.deep_Expr [e.av] [] r.av []:=by
 exact ⟨e,by rfl,wk At.deep_Expr [sd [(2,[sc (zdy e.args zd6 zd6)]),(5,[sc (zdj e.sub zd6 zd6)])]] kr⟩
def XSh:Nat→X→Prop
 | 0,_=>False
 | n+1,e=>(zac e.args∧zac e.sub)∧(∀ x∈e.args,XSh n x)∧∀ q∈e.sub,(zac q.items∧zac q.wh)∧(∀ x∈q.items,XSh n x)∧∀ x∈q.wh,XSh n x
theorem XOk.sh:∀ {n:Nat} {e:X},XOk n e→XSh n e
 | 0,_,h=>h.elim
 | _+1,_,⟨_,h2,h3,h4⟩=>⟨⟨h2.1.short,h2.2.short⟩,fun x hx=>(h3 x hx).sh,fun q hq=>⟨⟨(h4 q hq).1.1.short,(h4 q hq).1.2.short⟩,fun x hx=>((h4 q hq).2.1 x hx).sh,fun x hx=>((h4 q hq).2.2 x hx).sh⟩⟩
theorem zaW:∀ (n:Nat) (e:X),XSh n e→zaa E0 S.deep_Expr [e.av] [] e.av []
 | 0,_,h=>h.elim
 | n+1,e,h=>by
  obtain ⟨h2,h3,h4⟩:=h
  obtain ⟨r,rfl,hr⟩:=zlk e h2.1 h2.2 (fun x hx=>zaW n x (h3 x hx)) (fun q hq=>by
   obtain ⟨r,rfl,hr⟩:=zgI q (h4 q hq).1.1 (h4 q hq).1.2 (fun x hx=>zaW n x ((h4 q hq).2.1 x hx)) (fun x hx=>zaW n x ((h4 q hq).2.2 x hx))
   exact hr)
  exact hr
structure QW (n:Nat) (q:Qy):Prop where
 items:Few q.items
 wh:Few q.wh
 hi:∀ x∈q.items,XOk n x
 hw:∀ x∈q.wh,XOk n x
structure QSh (n:Nat) (q:Qy):Prop where
 items:zac q.items
 wh:zac q.wh
 hi:∀ x∈q.items,XSh n x
 hw:∀ x∈q.wh,XSh n x
theorem QW.sh {n:Nat} {q:Qy} (h:QW n q):QSh n q:=⟨zaZ h.items,zaZ h.wh,fun x hx=>(h.hi x hx).sh,fun x hx=>(h.hw x hx).sh⟩
theorem zio (n:Nat) (q:Qy) (h:QSh n q):zaa E0 S.deep_Query [q.av] [] q.av []:=by
 obtain ⟨r,rfl,hr⟩:=zgI q h.items h.wh (fun x hx=>zaW n x (h.hi x hx)) (fun x hx=>zaW n x (h.hw x hx))
 exact hr
end Go.AM
namespace Go.AM
set_option maxRecDepth 100000
set_option maxHeartbeats 1000000
set_option linter.unusedSimpArgs false
set_option linter.unusedVariables false
theorem zfx {p:Prop} (h:p:=by first|assumption|omega|(simp;done)|(simp;omega)):p:=h
abbrev zaY (r:List X):List AV:=[.sl (zad r)]
theorem zmN (s:Se) (hf:zaa E0 S.deep_Expr [s.ex.av] [] s.ex.av []):∃ (r:Se),r=s∧zaa E0 S.deep_set [.agg s.cells] [] (.agg r.cells) []:=by
 exact ⟨s,by rfl,wk At.deep_set [sd [(4,[sc hf])]] kr⟩
theorem zlY (n:Nat) (s:Se) (h:XSh n s.ex):zaa E0 S.deep_set [.agg s.cells] [] (.agg s.cells) []:=by
 obtain ⟨r,rfl,hr⟩:=zmN s (zaW n s.ex h)
 exact hr
noncomputable def zgr (l:List (List X)) (i:Nat) (out:List (List X)):Cfg:=zaq B.deep_list_Lapi_Expr 0 [(1,.fn S.deep_Exprs []),(5,.own 0 out.length),(8,.sl ((l).map zaY)),(9,iv (((l).map zaY).length:Nat)),(10,iv (i:Nat))] [.row Ty.LExpr ((out).map zaY) false]
theorem zdv (l:List (List X)) (hl:zac l) (hf:∀ x∈l,zaa E0 S.deep_Exprs [xsl x] [] (xsl x) []) (i:Nat) (out:List (List X)) (hi:i≤(l).length) (hI:out=l.take i):∃ (out':List (List X)),(out'=l.take (l).length)∧(decide ((((l).length:Nat):Int) < ((((l).map zaY).length:Nat):Int))=false)∧∀ R,Good E0 B.deep_list_Lapi_Expr [] (zgr l (l).length out') R→Good E0 B.deep_list_Lapi_Expr [] (zgr l i out) R:=by
 obtain ⟨kk,hk⟩:∃ kk,i+kk=(l).length:=⟨(l).length - i,by omega⟩
 induction kk generalizing i out with
 | zero =>
  have e0:i=(l).length:=by omega
  subst e0
  exact ⟨out,hI,by simp,fun R hg=>hg⟩
 | succ kk ih =>
  obtain ⟨x,hx⟩:=zbc (l:=l) (i:=i) (by omega)
  have h0:decide (((i:Nat):Int) < ((((l).map zaY).length:Nat):Int))=true:=by simp;omega
  have hw:IntKind.i64.wrap (((i:Nat):Int)+1)=((i+1:Nat):Int):=zaA i (by first|omega|(simp only [zac,Few] at *;omega))
  have hfx:=hf x (List.mem_of_getElem? hx)
  have ho:out.length≤1000000000:=by rw [hI,List.length_take];simp only [zac] at hl;omega
  obtain ⟨outZ,qZ,xZ,gZ⟩:=ih (i+1) (out++[x]) (by omega) (by rw [List.take_add_one,hx,hI];rfl) (by omega);exact ⟨outZ,qZ,xZ,fun R hg=>zab (wkl (c':=(Cfg.mk (zgr l (i+1) (out++[x])).n (zgr l (i+1) (out++[x])).todo [(1,AV.fn S.deep_Exprs []),(5,AV.own 0 (List.map zaY out++[[AV.sl (zad x)]]).length),(8,AV.sl (List.map zaY l)),(9,iv (↑(List.map zaY l).length:Int)),(10,iv (↑(i+1):Int))] [Blk.row Ty.LExpr (List.map zaY out++[[AV.sl (zad x)]]) false])) [sb h0,se (zao zaY hx rfl),sc hfx,sqx (AllLen [[AV.sl (zad x)]] 1∧out.length=(List.map zaY out).length∧(((List.map zaY out).length+[[AV.sl (zad x)]].length) * 24).le 140737488355328),si hw] [1,5,8,9,10] 1 kr (za7 (show ([(1,AV.fn S.deep_Exprs []),(5,AV.own 0 (List.map zaY out++[[AV.sl (zad x)]]).length),(8,AV.sl (List.map zaY l)),(9,iv (↑(List.map zaY l).length:Int)),(10,iv (↑(i+1):Int))]:TS)=[(1,AV.fn S.deep_Exprs []),(5,AV.own 0 (out++[x]).length),(8,AV.sl (List.map zaY l)),(9,iv (↑(List.map zaY l).length:Int)),(10,iv (↑(i+1):Int))] by first|rfl|(simp;done)|(simp [X.cells,Qy.cells,V.cells,Col.cells,Rw.cells,Tb.cells,Fr.cells,Sch.cells,Tp.cells,Pl.cells,xCol,xLit,xBin,xNeg,Im.cells,Lk.cells,Ac.cells,Se.cells,Tg.cells];done)) (show ([Blk.row Ty.LExpr (List.map zaY out++[[AV.sl (zad x)]]) false]:Heap)=[Blk.row Ty.LExpr (List.map zaY (out++[x])) false] by first|rfl|(simp;done)|(simp [X.cells,Qy.cells,V.cells,Col.cells,Rw.cells,Tb.cells,Fr.cells,Sch.cells,Tp.cells,Pl.cells,xCol,xLit,xBin,xNeg,Im.cells,Lk.cells,Ac.cells,Se.cells,Tg.cells];done)) (gZ R hg)))⟩
theorem zfP (l:List (List X)) (hl:zac l) (hf:∀ x∈l,zaa E0 S.deep_Exprs [xsl x] [] (xsl x) []):∃ (r:List (List X)),r=l∧zaa E0 S.deep_list_Lapi_Expr [.sl ((l).map zaY),.fn S.deep_Exprs []] [] (.sl ((r).map zaY)) []:=by
 obtain ⟨out1,q1,q1_1,g1⟩:=zdv l (by first|assumption|rfl|omega) (by first|assumption|rfl|omega) 0 ([]) (by first|assumption|rfl|omega) (by first|assumption|rfl|omega)
 exact ⟨out1,by first|assumption|(rw [List.take_length] at *;assumption),wkc At.deep_list_Lapi_Expr (c':=(Cfg.mk (zgr l 0 []).n (zgr l 0 []).todo [(1,AV.fn S.deep_Exprs []),(5,AV.nl),(8,AV.sl (List.map zaY l)),(9,iv (↑(List.map zaY l).length:Int)),(10,iv 0)] [])) [] [1,5,8,9,10] 0 kr (zb3 (c':=zgr l 0 []) 5 Ty.LExpr [1,5,8,9,10] 1 kr kr kr (g1 _ (zab (wkr [sqx (out1.length=(List.map zaY out1).length),sb q1_1] kr))))⟩
theorem zfV (l:List (List X)) (hl:zac l) (hf:∀ x∈l,zaa E0 S.deep_Exprs [xsl x] [] (xsl x) []):zaa E0 S.deep_list_Lapi_Expr [.sl ((l).map zaY),.fn S.deep_Exprs []] [] (.sl ((l).map zaY)) []:=by
 obtain ⟨r,rfl,h⟩:=zfP l hl hf
 exact h
noncomputable def zgo (l:List Se) (i:Nat) (out:List Se):Cfg:=zaq B.deep_list_api_Set 0 [(1,.fn S.deep_set []),(5,.own 0 out.length),(8,.sl ((l).map Se.cells)),(9,iv (((l).map Se.cells).length:Nat)),(10,iv (i:Nat))] [.row Ty.Set ((out).map Se.cells) false]
theorem zdR (l:List Se) (hl:zac l) (hf:∀ x∈l,zaa E0 S.deep_set [.agg x.cells] [] (.agg x.cells) []) (i:Nat) (out:List Se) (hi:i≤(l).length) (hI:out=l.take i):∃ (out':List Se),(out'=l.take (l).length)∧(decide ((((l).length:Nat):Int) < ((((l).map Se.cells).length:Nat):Int))=false)∧∀ R,Good E0 B.deep_list_api_Set [] (zgo l (l).length out') R→Good E0 B.deep_list_api_Set [] (zgo l i out) R:=by
 obtain ⟨kk,hk⟩:∃ kk,i+kk=(l).length:=⟨(l).length - i,by omega⟩
 induction kk generalizing i out with
 | zero =>
  have e0:i=(l).length:=by omega
  subst e0
  exact ⟨out,hI,by simp,fun R hg=>hg⟩
 | succ kk ih =>
  obtain ⟨x,hx⟩:=zbc (l:=l) (i:=i) (by omega)
  have h0:decide (((i:Nat):Int) < ((((l).map Se.cells).length:Nat):Int))=true:=by simp;omega
  have hw:IntKind.i64.wrap (((i:Nat):Int)+1)=((i+1:Nat):Int):=zaA i (by first|omega|(simp only [zac,Few] at *;omega))
  have hfx:=hf x (List.mem_of_getElem? hx)
  have ho:out.length≤1000000000:=by rw [hI,List.length_take];simp only [zac] at hl;omega
  obtain ⟨outZ,qZ,xZ,gZ⟩:=ih (i+1) (out++[x]) (by omega) (by rw [List.take_add_one,hx,hI];rfl) (by omega);exact ⟨outZ,qZ,xZ,fun R hg=>zab (wkl (c':=(Cfg.mk (zgo l (i+1) (out++[x])).n (zgo l (i+1) (out++[x])).todo [(1,AV.fn S.deep_set []),(5,AV.own 0 (List.map Se.cells out++[[sv x.col,iv x.ex.kind,iv x.ex.op,bv x.ex.not,iv x.ex.val.kind,iv x.ex.val.int,sv x.ex.val.text,sv x.ex.table,sv x.ex.name,AV.sl (zad x.ex.args),AV.sl (zae x.ex.sub)]]).length),(8,AV.sl (List.map Se.cells l)),(9,iv (↑(List.map Se.cells l).length:Int)),(10,iv (↑(i+1):Int))] [Blk.row Ty.Set (List.map Se.cells out++[[sv x.col,iv x.ex.kind,iv x.ex.op,bv x.ex.not,iv x.ex.val.kind,iv x.ex.val.int,sv x.ex.val.text,sv x.ex.table,sv x.ex.name,AV.sl (zad x.ex.args),AV.sl (zae x.ex.sub)]]) false])) [sb h0,se (zao Se.cells hx rfl),sc hfx,sqx (AllLen [[sv x.col,iv x.ex.kind,iv x.ex.op,bv x.ex.not,iv x.ex.val.kind,iv x.ex.val.int,sv x.ex.val.text,sv x.ex.table,sv x.ex.name,AV.sl (zad x.ex.args),AV.sl (zae x.ex.sub)]] 11∧out.length=(List.map Se.cells out).length∧(((List.map Se.cells out).length+[[sv x.col,iv x.ex.kind,iv x.ex.op,bv x.ex.not,iv x.ex.val.kind,iv x.ex.val.int,sv x.ex.val.text,sv x.ex.table,sv x.ex.name,AV.sl (zad x.ex.args),AV.sl (zae x.ex.sub)]].length) * 152).le 140737488355328),si hw] [1,5,8,9,10] 1 kr (za7 (show ([(1,AV.fn S.deep_set []),(5,AV.own 0 (List.map Se.cells out++[[sv x.col,iv x.ex.kind,iv x.ex.op,bv x.ex.not,iv x.ex.val.kind,iv x.ex.val.int,sv x.ex.val.text,sv x.ex.table,sv x.ex.name,AV.sl (zad x.ex.args),AV.sl (zae x.ex.sub)]]).length),(8,AV.sl (List.map Se.cells l)),(9,iv (↑(List.map Se.cells l).length:Int)),(10,iv (↑(i+1):Int))]:TS)=[(1,AV.fn S.deep_set []),(5,AV.own 0 (out++[x]).length),(8,AV.sl (List.map Se.cells l)),(9,iv (↑(List.map Se.cells l).length:Int)),(10,iv (↑(i+1):Int))] by first|rfl|(simp;done)|(simp [X.cells,Qy.cells,V.cells,Col.cells,Rw.cells,Tb.cells,Fr.cells,Sch.cells,Tp.cells,Pl.cells,xCol,xLit,xBin,xNeg,Im.cells,Lk.cells,Ac.cells,Se.cells,Tg.cells];done)) (show ([Blk.row Ty.Set (List.map Se.cells out++[[sv x.col,iv x.ex.kind,iv x.ex.op,bv x.ex.not,iv x.ex.val.kind,iv x.ex.val.int,sv x.ex.val.text,sv x.ex.table,sv x.ex.name,AV.sl (zad x.ex.args),AV.sl (zae x.ex.sub)]]) false]:Heap)=[Blk.row Ty.Set (List.map Se.cells (out++[x])) false] by first|rfl|(simp;done)|(simp [X.cells,Qy.cells,V.cells,Col.cells,Rw.cells,Tb.cells,Fr.cells,Sch.cells,Tp.cells,Pl.cells,xCol,xLit,xBin,xNeg,Im.cells,Lk.cells,Ac.cells,Se.cells,Tg.cells];done)) (gZ R hg)))⟩
theorem zgE (l:List Se) (hl:zac l) (hf:∀ x∈l,zaa E0 S.deep_set [.agg x.cells] [] (.agg x.cells) []):∃ (r:List Se),r=l∧zaa E0 S.deep_list_api_Set [.sl ((l).map Se.cells),.fn S.deep_set []] [] (.sl ((r).map Se.cells)) []:=by
 obtain ⟨out1,q1,q1_1,g1⟩:=zdR l (by first|assumption|rfl|omega) (by first|assumption|rfl|omega) 0 ([]) (by first|assumption|rfl|omega) (by first|assumption|rfl|omega)
 exact ⟨out1,by first|assumption|(rw [List.take_length] at *;assumption),wkc At.deep_list_api_Set (c':=(Cfg.mk (zgo l 0 []).n (zgo l 0 []).todo [(1,AV.fn S.deep_set []),(5,AV.nl),(8,AV.sl (List.map Se.cells l)),(9,iv (↑(List.map Se.cells l).length:Int)),(10,iv 0)] [])) [] [1,5,8,9,10] 0 kr (zb3 (c':=zgo l 0 []) 5 Ty.Set [1,5,8,9,10] 1 kr kr kr (g1 _ (zab (wkr [sqx (out1.length=(List.map Se.cells out1).length),sb q1_1] kr))))⟩
theorem zgG (l:List Se) (hl:zac l) (hf:∀ x∈l,zaa E0 S.deep_set [.agg x.cells] [] (.agg x.cells) []):zaa E0 S.deep_list_api_Set [.sl ((l).map Se.cells),.fn S.deep_set []] [] (.sl ((l).map Se.cells)) []:=by
 obtain ⟨r,rfl,h⟩:=zgE l hl hf
 exact h
structure AcOk (n:Nat) (a:Ac):Prop where
 rows:Few a.rows
 row:∀ r∈a.rows,Few r∧∀ x∈r,XOk n x
 query:Few a.query
 qs:∀ q∈a.query,QW n q
 sets:Few a.sets
 set:∀ s∈a.sets,XOk n s.ex
 wh:Few a.wh
 w:∀ x∈a.wh,XOk n x
structure AcSh (n:Nat) (a:Ac):Prop where
 rows:zac a.rows
 row:∀ r∈a.rows,zac r∧∀ x∈r,XSh n x
 query:zac a.query
 qs:∀ q∈a.query,QSh n q
 sets:zac a.sets
 set:∀ s∈a.sets,XSh n s.ex
 wh:zac a.wh
 w:∀ x∈a.wh,XSh n x
theorem AcOk.sh {n:Nat} {a:Ac} (h:AcOk n a):AcSh n a :=
 ⟨zaZ h.rows,fun r hr=>⟨zaZ (h.row r hr).1,fun x hx=>((h.row r hr).2 x hx).sh⟩,zaZ h.query,fun q hq=>(h.qs q hq).sh,zaZ h.sets,fun s hs=>(h.set s hs).sh,zaZ h.wh,fun x hx=>(h.w x hx).sh⟩
def RowsCp (l:List (List X)):Prop:=∀ x∈l,zaa E0 S.deep_Exprs [xsl x] [] (xsl x) []
theorem zjE (n:Nat) (a:Ac) (h:AcSh n a) (h1:zac a.rows) (h2:zac a.query) (h3:zac a.sets) (h4:zac a.wh) (hr:RowsCp a.rows) (hq:∀ x∈a.query,zaa E0 S.deep_Query [x.av] [] x.av []) (hs:∀ x∈a.sets,zaa E0 S.deep_set [.agg x.cells] [] (.agg x.cells) []) (hw:∀ x∈a.wh,zaa E0 S.deep_Expr [x.av] [] x.av []):∃ (r:Ac),r=a∧zaa E0 S.deep_Action [a.av] [] r.av []:=by
 exact ⟨a,by rfl,wk At.deep_Action [sd [(2,[sc (zfV a.rows (by first|assumption|exact hr) (by first|assumption|exact hr))]),(5,[sc (zdj a.query (by first|assumption|exact hr) (by first|assumption|exact hr))]),(8,[sc (zgG a.sets (by first|assumption|exact hr) (by first|assumption|exact hr))]),(11,[sc (zcC a.wh (by first|assumption|exact hr) (by first|assumption|exact hr))])]] kr⟩
theorem zjz (n:Nat) (a:Ac) (h:AcSh n a):zaa E0 S.deep_Action [a.av] [] a.av []:=by
 obtain ⟨r,rfl,hr⟩:=zjE n a h h.rows h.query h.sets h.wh
  (fun x hx=>zcC x (h.row x hx).1 fun y hy=>zaW n y ((h.row x hx).2 y hy))
  (fun q hq=>zio n q (h.qs q hq)) (fun s hs=>zlY n s (h.set s hs)) (fun x hx=>zaW n x (h.w x hx))
 exact hr
noncomputable def zgq (l:List Ac) (i:Nat) (out:List Ac):Cfg:=zaq B.deep_list_api_Action 0 [(1,.fn S.deep_Action []),(5,.own 0 out.length),(8,.sl ((l).map Ac.cells)),(9,iv (((l).map Ac.cells).length:Nat)),(10,iv (i:Nat))] [.row Ty.Action ((out).map Ac.cells) false]
theorem zda (l:List Ac) (hl:zac l) (hf:∀ x∈l,zaa E0 S.deep_Action [.agg x.cells] [] (.agg x.cells) []) (i:Nat) (out:List Ac) (hi:i≤(l).length) (hI:out=l.take i):∃ (out':List Ac),(out'=l.take (l).length)∧(decide ((((l).length:Nat):Int) < ((((l).map Ac.cells).length:Nat):Int))=false)∧∀ R,Good E0 B.deep_list_api_Action [] (zgq l (l).length out') R→Good E0 B.deep_list_api_Action [] (zgq l i out) R:=by
 obtain ⟨kk,hk⟩:∃ kk,i+kk=(l).length:=⟨(l).length - i,by omega⟩
 induction kk generalizing i out with
 | zero =>
  have e0:i=(l).length:=by omega
  subst e0
  exact ⟨out,hI,by simp,fun R hg=>hg⟩
 | succ kk ih =>
  obtain ⟨x,hx⟩:=zbc (l:=l) (i:=i) (by omega)
  have h0:decide (((i:Nat):Int) < ((((l).map Ac.cells).length:Nat):Int))=true:=by simp;omega
  have hw:IntKind.i64.wrap (((i:Nat):Int)+1)=((i+1:Nat):Int):=zaA i (by first|omega|(simp only [zac,Few] at *;omega))
  have hfx:=hf x (List.mem_of_getElem? hx)
  have ho:out.length≤1000000000:=by rw [hI,List.length_take];simp only [zac] at hl;omega
  obtain ⟨outZ,qZ,xZ,gZ⟩:=ih (i+1) (out++[x]) (by omega) (by rw [List.take_add_one,hx,hI];rfl) (by omega);exact ⟨outZ,qZ,xZ,fun R hg=>zab (wkl (c':=(Cfg.mk (zgq l (i+1) (out++[x])).n (zgq l (i+1) (out++[x])).todo [(1,AV.fn S.deep_Action []),(5,AV.own 0 (List.map Ac.cells out++[[iv x.kind,sv x.table,AV.sl (List.map (fun r=>[AV.sl (zad r)]) x.rows),AV.sl (zae x.query),AV.sl (List.map Se.cells x.sets),AV.sl (zad x.wh),sv x.text]]).length),(8,AV.sl (List.map Ac.cells l)),(9,iv (↑(List.map Ac.cells l).length:Int)),(10,iv (↑(i+1):Int))] [Blk.row Ty.Action (List.map Ac.cells out++[[iv x.kind,sv x.table,AV.sl (List.map (fun r=>[AV.sl (zad r)]) x.rows),AV.sl (zae x.query),AV.sl (List.map Se.cells x.sets),AV.sl (zad x.wh),sv x.text]]) false])) [sb h0,se (zao Ac.cells hx rfl),sc hfx,sqx (AllLen [[iv x.kind,sv x.table,AV.sl (List.map (fun r=>[AV.sl (zad r)]) x.rows),AV.sl (zae x.query),AV.sl (List.map Se.cells x.sets),AV.sl (zad x.wh),sv x.text]] 7∧out.length=(List.map Ac.cells out).length∧(((List.map Ac.cells out).length+[[iv x.kind,sv x.table,AV.sl (List.map (fun r=>[AV.sl (zad r)]) x.rows),AV.sl (zae x.query),AV.sl (List.map Se.cells x.sets),AV.sl (zad x.wh),sv x.text]].length) * 136).le 140737488355328),si hw] [1,5,8,9,10] 1 kr (za7 (show ([(1,AV.fn S.deep_Action []),(5,AV.own 0 (List.map Ac.cells out++[[iv x.kind,sv x.table,AV.sl (List.map (fun r=>[AV.sl (zad r)]) x.rows),AV.sl (zae x.query),AV.sl (List.map Se.cells x.sets),AV.sl (zad x.wh),sv x.text]]).length),(8,AV.sl (List.map Ac.cells l)),(9,iv (↑(List.map Ac.cells l).length:Int)),(10,iv (↑(i+1):Int))]:TS)=[(1,AV.fn S.deep_Action []),(5,AV.own 0 (out++[x]).length),(8,AV.sl (List.map Ac.cells l)),(9,iv (↑(List.map Ac.cells l).length:Int)),(10,iv (↑(i+1):Int))] by first|rfl|(simp;done)|(simp [X.cells,Qy.cells,V.cells,Col.cells,Rw.cells,Tb.cells,Fr.cells,Sch.cells,Tp.cells,Pl.cells,xCol,xLit,xBin,xNeg,Im.cells,Lk.cells,Ac.cells,Se.cells,Tg.cells];done)) (show ([Blk.row Ty.Action (List.map Ac.cells out++[[iv x.kind,sv x.table,AV.sl (List.map (fun r=>[AV.sl (zad r)]) x.rows),AV.sl (zae x.query),AV.sl (List.map Se.cells x.sets),AV.sl (zad x.wh),sv x.text]]) false]:Heap)=[Blk.row Ty.Action (List.map Ac.cells (out++[x])) false] by first|rfl|(simp;done)|(simp [X.cells,Qy.cells,V.cells,Col.cells,Rw.cells,Tb.cells,Fr.cells,Sch.cells,Tp.cells,Pl.cells,xCol,xLit,xBin,xNeg,Im.cells,Lk.cells,Ac.cells,Se.cells,Tg.cells];done)) (gZ R hg)))⟩
theorem zfC (l:List Ac) (hl:zac l) (hf:∀ x∈l,zaa E0 S.deep_Action [.agg x.cells] [] (.agg x.cells) []):∃ (r:List Ac),r=l∧zaa E0 S.deep_list_api_Action [.sl ((l).map Ac.cells),.fn S.deep_Action []] [] (.sl ((r).map Ac.cells)) []:=by
 obtain ⟨out1,q1,q1_1,g1⟩:=zda l (by first|assumption|rfl|omega) (by first|assumption|rfl|omega) 0 ([]) (by first|assumption|rfl|omega) (by first|assumption|rfl|omega)
 exact ⟨out1,by first|assumption|(rw [List.take_length] at *;assumption),wkc At.deep_list_api_Action (c':=(Cfg.mk (zgq l 0 []).n (zgq l 0 []).todo [(1,AV.fn S.deep_Action []),(5,AV.nl),(8,AV.sl (List.map Ac.cells l)),(9,iv (↑(List.map Ac.cells l).length:Int)),(10,iv 0)] [])) [] [1,5,8,9,10] 0 kr (zb3 (c':=zgq l 0 []) 5 Ty.Action [1,5,8,9,10] 1 kr kr kr (g1 _ (zab (wkr [sqx (out1.length=(List.map Ac.cells out1).length),sb q1_1] kr))))⟩
theorem zfz (l:List Ac) (hl:zac l) (hf:∀ x∈l,zaa E0 S.deep_Action [.agg x.cells] [] (.agg x.cells) []):zaa E0 S.deep_list_api_Action [.sl ((l).map Ac.cells),.fn S.deep_Action []] [] (.sl ((l).map Ac.cells)) []:=by
 obtain ⟨r,rfl,h⟩:=zfC l hl hf
 exact h
structure TgOk (n:Nat) (t:Tg):Prop where
 of:Few t.of
 prec:Few t.prec
 foll:Few t.foll
 rank:Few t.rank
 whens:Few t.when_
 when_:∀ x∈t.when_,XOk n x
 acts:Few t.acts
 act:∀ a∈t.acts,AcOk n a
structure TgSh (n:Nat) (t:Tg):Prop where
 of:zac t.of
 prec:zac t.prec
 foll:zac t.foll
 rank:zac t.rank
 whens:zac t.when_
 when_:∀ x∈t.when_,XSh n x
 acts:zac t.acts
 act:∀ a∈t.acts,AcSh n a
theorem TgOk.sh {n:Nat} {t:Tg} (h:TgOk n t):TgSh n t :=
 ⟨zaZ h.of,zaZ h.prec,zaZ h.foll,zaZ h.rank,zaZ h.whens,fun x hx=>(h.when_ x hx).sh,zaZ h.acts,fun a ha=>(h.act a ha).sh⟩
theorem zi4 (n:Nat) (t:Tg) (h1:zac t.of) (h2:zac t.prec) (h3:zac t.foll) (h4:zac t.rank) (h5:zac t.when_) (h6:zac t.acts) (hw:∀ x∈t.when_,zaa E0 S.deep_Expr [x.av] [] x.av []) (ha:∀ x∈t.acts,zaa E0 S.deep_Action [.agg x.cells] [] (.agg x.cells) []):∃ (r:Tg),r=t∧zaa E0 S.deep_Trigger [t.av] [] r.av []:=by
 exact ⟨t,by rfl,wk At.deep_Trigger [sqx (True∧True∧True∧True∧t.of.length=(List.map zbl t.of).length∧True∧t.prec.length=(List.map zbl t.prec).length∧t.foll.length=(List.map zbl t.foll).length∧t.rank.length=(List.map Rk.cells t.rank).length∧True∧True∧True),sd [(2,[sc (zb8 t.of zfx)]),(5,[sc (zb8 t.prec zfx)]),(8,[sc (zb8 t.foll zfx)]),(11,[sc (zgz t.rank zfx)])],sd [(2,[sc (zcC t.when_ zfx zfx)]),(5,[sc (zfz t.acts zfx zfx)])]] kr⟩
theorem zd1 (n:Nat) (t:Tg) (h:TgSh n t):zaa E0 S.deep_Trigger [t.av] [] t.av []:=by
 obtain ⟨r,rfl,hr⟩:=zi4 n t h.of h.prec h.foll h.rank h.whens h.acts
  (fun x hx=>zaW n x (h.when_ x hx)) (fun a ha=>zjz n a (h.act a ha))
 exact hr
end Go.AM
namespace Go.AM
set_option maxRecDepth 100000
set_option maxHeartbeats 1000000
set_option linter.unusedSimpArgs false
set_option linter.unusedVariables false
theorem zfw {p:Prop} (h:p:=by rw [List.take_add_one,hx,List.filter_append,← hI];clear hI;simp only [Option.toList_some,List.filter_cons,List.filter_nil,appl,cond_true,cond_false,if_true, *] <;> try simp):p:=h
theorem zd5 {p:Prop} (h:p:=by first|assumption|omega|(simp;done)|(simp;omega)):p:=h
theorem zft {p:Prop} (h:p:=by first|assumption|exact hTx|omega):p:=h
noncomputable def L_stIx (l:List Str) (v:Str) (i:Nat) :Cfg:=zaq B.slices_Index_string 0 [(0,.sl (l.map zbl)),(1,sv v),(7,iv ((l.map zbl).length:Nat)),(8,iv (i:Nat))] []
def stIx (l:List Str) (v:Str):List (Str)→Nat→Int
 | [],i =>
  -1
 | x::r,i =>
  bif ByteArray.toList v==ByteArray.toList x then
   (i:Int)
  else
   stIx l v r (i+1)
theorem zlh (l:List Str) (v:Str) (hl:zac l):∀ (kk i:Nat),i+kk=(l).length→Good E0 B.slices_Index_string [] (L_stIx l v i ) (Shut 0 fun r h=>r=(iv (stIx l v ((l).drop i) i ))∧h=[]):=by
 intro kk
 induction kk with
 | zero =>
  intro i  hi
  have h0:decide (((i:Nat):Int) < (((l.map zbl).length:Nat):Int))=false:=by simp;omega
  have e0:(l).drop i=[]:=List.drop_of_length_le (by omega)
  rw [e0]
  simp only [stIx]
  refine zab ?_
  exact wkr [sb h0] kr
 | succ kk ih =>
  intro i  hi
  obtain ⟨x,hx⟩:=zbc (l:=l) (i:=i) (by omega)
  have h0:decide (((i:Nat):Int) < (((l.map zbl).length:Nat):Int))=true:=by simp;omega
  have hw:=zaA i (by first|omega|(simp only [zac,Few] at *;omega))
  rw [zde hx]
  simp only [stIx]
  refine zab ?_
  cases h1:ByteArray.toList v==ByteArray.toList x
  ·exact wkl [sb h0,se (zao zbl hx rfl),sb h1,si hw] [0,1,7,8] 0 kr (ih (i+1) (by omega) )
  ·exact wkr [sb h0,se (zao zbl hx rfl),sb h1] kr
def ziV (l:List Str) (v:Str):Int :=
 stIx l v l (0)
theorem zf1 (l:List Str) (v:Str) (hl:zac l):zaa E0 S.slices_Index_string [ssl l,sv v] [] (iv (ziV l v)) []:=by
 unfold ziV
 exact wkc At.slices_Index_string [] [0,1,7,8] 0 kr (zlh l v hl l.length 0 (by simp))
def hasS (l:List Str) (v:Str):Bool :=
 decide ((0:Int)≤ziV l v)
theorem zbO (l:List Str) (v:Str) (hl:zac l):zaa E0 S.slices_Contains_string [ssl l,sv v] [] (bv (hasS l v)) []:=by
 exact wk At.slices_Contains_string [sc (zf1 l v zd5)] kr
def hasC (v:Str) (l:List Str):Bool :=
 hasS l v
theorem zcY (v:Str) (l:List Str) (hl:zac l):zaa E0 S.before_Applicable_c1 [sv v,.p 0 0] [.box [ssl l]] (bv (hasC v l)) [.box [ssl l]]:=by
 exact wk At.before_Applicable_c1 [sc (zbO l v zd5)] kr
noncomputable def L_ofIx (l s:List Str) (i:Nat) :Cfg:=zaq B.slices_IndexFunc_string 0 [(0,ssl l),(1,.fn S.before_Applicable_c1 [.p 0 0]),(7,iv ((l.map zbl).length:Nat)),(8,iv (i:Nat))] [.box [ssl s]]
def ofIx (l s:List Str):List (Str)→Nat→Int
 | [],i =>
  -1
 | x::r,i =>
  bif hasC x s then
   (i:Int)
  else
   ofIx l s r (i+1)
theorem zlb (l s:List Str) (hl:zac l) (hs:zac s):∀ (kk i:Nat),i+kk=(l).length→Good E0 B.slices_IndexFunc_string [.box [ssl s]] (L_ofIx l s i ) (Shut 1 fun r h=>r=(iv (ofIx l s ((l).drop i) i ))∧h=[.box [ssl s]]):=by
 intro kk
 induction kk with
 | zero =>
  intro i  hi
  have h0:decide (((i:Nat):Int) < (((l.map zbl).length:Nat):Int))=false:=by simp;omega
  have e0:(l).drop i=[]:=List.drop_of_length_le (by omega)
  rw [e0]
  simp only [ofIx]
  refine zab ?_
  exact wkr [sb h0] kr
 | succ kk ih =>
  intro i  hi
  obtain ⟨x,hx⟩:=zbc (l:=l) (i:=i) (by omega)
  have h0:decide (((i:Nat):Int) < (((l.map zbl).length:Nat):Int))=true:=by simp;omega
  have hw:=zaA i (by first|omega|(simp only [zac,Few] at *;omega))
  rw [zde hx]
  simp only [ofIx]
  refine zab ?_
  cases h1:hasC x s
  ·exact wkl [sb h0,se (zao (fun s=>[sv s]) hx rfl),sl [0] (zcY x s zd5),sb h1,si hw] [0,1,7,8] 1 kr (ih (i+1) (by omega) )
  ·exact wkr [sb h0,se (zao (fun s=>[sv s]) hx rfl),sl [0] (zcY x s zd5),sb h1] kr
def zi7 (l s:List Str):Int :=
 ofIx l s l (0)
theorem zez (l s:List Str) (hl:zac l) (hs:zac s):zaa E0 S.slices_IndexFunc_string [ssl l,.fn S.before_Applicable_c1 [.p 0 0]] [.box [ssl s]] (iv (zi7 l s)) [.box [ssl s]]:=by
 unfold zi7
 exact wkc At.slices_IndexFunc_string [] [0,1,7,8] 1 kr (zlb l s hl hs l.length 0 (by simp))
def zmz (l s:List Str):Bool :=
 decide ((0:Int)≤zi7 l s)
theorem zaU (l s:List Str) (hl:zac l) (hs:zac s):zaa E0 S.slices_ContainsFunc_string [ssl l,.fn S.before_Applicable_c1 [.p 0 0]] [.box [ssl s]] (bv (zmz l s)) [.box [ssl s]]:=by
 exact wk At.slices_ContainsFunc_string [sl [0] (zez l s zd5 zd5)] kr
def appl (table:Str) (ev:Int) (asg:List Str) (each:Bool) (t:Tg):Bool :=
 bif !t.before then false else bif !t.table.toList==table.toList then false else bif t.event != ev then false else bif !t.each==each then false else bif ev != 2 then true else bif (((t.of.map zbl).length:Nat):Int)==0 then true else zmz t.of asg
noncomputable def zdD (N:Nat) (ts:List Tg) (table:Str) (ev:Int) (asg:List Str) (each:Bool) (i:Nat) (out:List Tg):Cfg:=zaq B.before_Applicable 0 [(1,sv table),(2,iv ev),(4,bv each),(8,.p 0 0),(11,.own 1 out.length),(15,.sl (ts.map Tg.cells)),(16,iv ((ts.map Tg.cells).length:Nat)),(17,iv (i:Nat))] [.box [ssl asg],.row Ty.Trigger (out.map Tg.cells) false]
theorem zb5 (N:Nat) (ts:List Tg) (table:Str) (ev:Int) (asg:List Str) (each:Bool) (hl:zac ts) (hs:zac asg) (hT:∀ t∈ts,TgSh N t) (i:Nat) (out:List Tg) (hi:i≤(ts).length) (hI:out=(ts.take i).filter (appl table ev asg each)):∃ (out':List Tg),(out'=(ts.take (ts).length).filter (appl table ev asg each))∧(decide ((((ts).length:Nat):Int) < (((ts.map Tg.cells).length:Nat):Int))=false)∧∀ R,Good E0 B.before_Applicable [] (zdD N ts table ev asg each (ts).length out') R→Good E0 B.before_Applicable [] (zdD N ts table ev asg each i out) R:=by
 obtain ⟨kk,hk⟩:∃ kk,i+kk=(ts).length:=⟨(ts).length - i,by omega⟩
 induction kk generalizing i out with
 | zero =>
  have e0:i=(ts).length:=by omega
  subst e0
  exact ⟨out,hI,by simp,fun R hg=>hg⟩
 | succ kk ih =>
  obtain ⟨x,hx⟩:=zbc (l:=ts) (i:=i) (by omega)
  have h0:decide (((i:Nat):Int) < (((ts.map Tg.cells).length:Nat):Int))=true:=by simp;omega
  have hw:IntKind.i64.wrap (((i:Nat):Int)+1)=((i+1:Nat):Int):=zaA i (by first|omega|(simp only [zac,Few] at *;omega))
  have hTx:=hT x (List.mem_of_getElem? hx)
  have hof:=hTx.of
  have ho:out.length≤1000000000:=by
   rw [hI];refine Nat.le_trans (List.length_filter_le _ _) ?_;rw [List.length_take];simp only [zac] at hl;omega
  cases h1:!x.before
  ·cases h2:!ByteArray.toList x.table==ByteArray.toList table
   ·cases h3:x.event != ev
    ·cases h4:!x.each==each
     ·cases h5:ev != 2
      ·cases h6:(↑(List.map (fun s=>[sv s]) x.of).length:Int)==0
       ·cases h7:zmz x.of asg
        ·obtain ⟨outZ,qZ,xZ,gZ⟩:=ih (i+1) out (by omega) zfw (by omega);exact ⟨outZ,qZ,xZ,fun R hg=>zab (wkl [sb h0,se (zao Tg.cells hx rfl),sg h1,sg h2,sg h3,sb h4,sl [0] (zaU x.of asg zft zft),sg h5,sg h6,sb h7,si hw] [1,2,4,8,11,15,16,17] 2 kr (gZ R hg))⟩
        ·obtain ⟨outZ,qZ,xZ,gZ⟩:=ih (i+1) (out++[x]) (by omega) zfw (by omega);exact ⟨outZ,qZ,xZ,fun R hg=>zab (wkl (c':=(Cfg.mk (zdD N ts table ev asg each (i+1) (out++[x])).n (zdD N ts table ev asg each (i+1) (out++[x])).todo [(1,sv table),(2,iv ev),(4,bv each),(8,AV.p 0 0),(11,AV.own 1 (List.map Tg.cells out++[[sv x.name,sv x.table,bv x.before,iv x.event,AV.sl (List.map (fun s=>[sv s]) x.of),bv x.each,AV.sl (List.map (fun s=>[sv s]) x.prec),AV.sl (List.map (fun s=>[sv s]) x.foll),AV.sl (List.map Rk.cells x.rank),AV.sl (zad x.when_),AV.sl (List.map Ac.cells x.acts)]]).length),(15,AV.sl (List.map Tg.cells ts)),(16,iv (↑(List.map Tg.cells ts).length:Int)),(17,iv (↑(i+1):Int))] [Blk.box [AV.sl (List.map (fun s=>[sv s]) asg)],Blk.row Ty.Trigger (List.map Tg.cells out++[[sv x.name,sv x.table,bv x.before,iv x.event,AV.sl (List.map (fun s=>[sv s]) x.of),bv x.each,AV.sl (List.map (fun s=>[sv s]) x.prec),AV.sl (List.map (fun s=>[sv s]) x.foll),AV.sl (List.map Rk.cells x.rank),AV.sl (zad x.when_),AV.sl (List.map Ac.cells x.acts)]]) false])) [sb h0,se (zao Tg.cells hx rfl),sg h1,sg h2,sg h3,sb h4,sl [0] (zaU x.of asg zft zft),sg h5,sg h6,sb h7,sc (zd1 N x hTx),sqx (AllLen [[sv x.name,sv x.table,bv x.before,iv x.event,AV.sl (List.map (fun s=>[sv s]) x.of),bv x.each,AV.sl (List.map (fun s=>[sv s]) x.prec),AV.sl (List.map (fun s=>[sv s]) x.foll),AV.sl (List.map Rk.cells x.rank),AV.sl (zad x.when_),AV.sl (List.map Ac.cells x.acts)]] 11∧out.length=(List.map Tg.cells out).length∧(((List.map Tg.cells out).length+[[sv x.name,sv x.table,bv x.before,iv x.event,AV.sl (List.map (fun s=>[sv s]) x.of),bv x.each,AV.sl (List.map (fun s=>[sv s]) x.prec),AV.sl (List.map (fun s=>[sv s]) x.foll),AV.sl (List.map Rk.cells x.rank),AV.sl (zad x.when_),AV.sl (List.map Ac.cells x.acts)]].length) * 200).le 140737488355328),si hw] [1,2,4,8,11,15,16,17] 2 kr (za7 (show ([(1,sv table),(2,iv ev),(4,bv each),(8,AV.p 0 0),(11,AV.own 1 (List.map Tg.cells out++[[sv x.name,sv x.table,bv x.before,iv x.event,AV.sl (List.map (fun s=>[sv s]) x.of),bv x.each,AV.sl (List.map (fun s=>[sv s]) x.prec),AV.sl (List.map (fun s=>[sv s]) x.foll),AV.sl (List.map Rk.cells x.rank),AV.sl (zad x.when_),AV.sl (List.map Ac.cells x.acts)]]).length),(15,AV.sl (List.map Tg.cells ts)),(16,iv (↑(List.map Tg.cells ts).length:Int)),(17,iv (↑(i+1):Int))]:TS)=[(1,sv table),(2,iv ev),(4,bv each),(8,AV.p 0 0),(11,AV.own 1 (out++[x]).length),(15,AV.sl (List.map Tg.cells ts)),(16,iv (↑(List.map Tg.cells ts).length:Int)),(17,iv (↑(i+1):Int))] by first|rfl|(simp;done)|(simp [X.cells,Qy.cells,V.cells,Col.cells,Rw.cells,Tb.cells,Fr.cells,Sch.cells,Tp.cells,Pl.cells,xCol,xLit,xBin,xNeg,Tg.cells];done)) (show ([Blk.box [AV.sl (List.map (fun s=>[sv s]) asg)],Blk.row Ty.Trigger (List.map Tg.cells out++[[sv x.name,sv x.table,bv x.before,iv x.event,AV.sl (List.map (fun s=>[sv s]) x.of),bv x.each,AV.sl (List.map (fun s=>[sv s]) x.prec),AV.sl (List.map (fun s=>[sv s]) x.foll),AV.sl (List.map Rk.cells x.rank),AV.sl (zad x.when_),AV.sl (List.map Ac.cells x.acts)]]) false]:Heap)=[Blk.box [AV.sl (List.map (fun s=>[sv s]) asg)],Blk.row Ty.Trigger (List.map Tg.cells (out++[x])) false] by first|rfl|(simp;done)|(simp [X.cells,Qy.cells,V.cells,Col.cells,Rw.cells,Tb.cells,Fr.cells,Sch.cells,Tp.cells,Pl.cells,xCol,xLit,xBin,xNeg,Tg.cells];done)) (gZ R hg)))⟩
       ·obtain ⟨outZ,qZ,xZ,gZ⟩:=ih (i+1) (out++[x]) (by omega) zfw (by omega);exact ⟨outZ,qZ,xZ,fun R hg=>zab (wkl (c':=(Cfg.mk (zdD N ts table ev asg each (i+1) (out++[x])).n (zdD N ts table ev asg each (i+1) (out++[x])).todo [(1,sv table),(2,iv ev),(4,bv each),(8,AV.p 0 0),(11,AV.own 1 (List.map Tg.cells out++[[sv x.name,sv x.table,bv x.before,iv x.event,AV.sl (List.map (fun s=>[sv s]) x.of),bv x.each,AV.sl (List.map (fun s=>[sv s]) x.prec),AV.sl (List.map (fun s=>[sv s]) x.foll),AV.sl (List.map Rk.cells x.rank),AV.sl (zad x.when_),AV.sl (List.map Ac.cells x.acts)]]).length),(15,AV.sl (List.map Tg.cells ts)),(16,iv (↑(List.map Tg.cells ts).length:Int)),(17,iv (↑(i+1):Int))] [Blk.box [AV.sl (List.map (fun s=>[sv s]) asg)],Blk.row Ty.Trigger (List.map Tg.cells out++[[sv x.name,sv x.table,bv x.before,iv x.event,AV.sl (List.map (fun s=>[sv s]) x.of),bv x.each,AV.sl (List.map (fun s=>[sv s]) x.prec),AV.sl (List.map (fun s=>[sv s]) x.foll),AV.sl (List.map Rk.cells x.rank),AV.sl (zad x.when_),AV.sl (List.map Ac.cells x.acts)]]) false])) [sb h0,se (zao Tg.cells hx rfl),sg h1,sg h2,sg h3,sb h4,sl [0] (zaU x.of asg zft zft),sg h5,sb h6,sc (zd1 N x hTx),sqx (AllLen [[sv x.name,sv x.table,bv x.before,iv x.event,AV.sl (List.map (fun s=>[sv s]) x.of),bv x.each,AV.sl (List.map (fun s=>[sv s]) x.prec),AV.sl (List.map (fun s=>[sv s]) x.foll),AV.sl (List.map Rk.cells x.rank),AV.sl (zad x.when_),AV.sl (List.map Ac.cells x.acts)]] 11∧out.length=(List.map Tg.cells out).length∧(((List.map Tg.cells out).length+[[sv x.name,sv x.table,bv x.before,iv x.event,AV.sl (List.map (fun s=>[sv s]) x.of),bv x.each,AV.sl (List.map (fun s=>[sv s]) x.prec),AV.sl (List.map (fun s=>[sv s]) x.foll),AV.sl (List.map Rk.cells x.rank),AV.sl (zad x.when_),AV.sl (List.map Ac.cells x.acts)]].length) * 200).le 140737488355328),si hw] [1,2,4,8,11,15,16,17] 2 kr (za7 (show ([(1,sv table),(2,iv ev),(4,bv each),(8,AV.p 0 0),(11,AV.own 1 (List.map Tg.cells out++[[sv x.name,sv x.table,bv x.before,iv x.event,AV.sl (List.map (fun s=>[sv s]) x.of),bv x.each,AV.sl (List.map (fun s=>[sv s]) x.prec),AV.sl (List.map (fun s=>[sv s]) x.foll),AV.sl (List.map Rk.cells x.rank),AV.sl (zad x.when_),AV.sl (List.map Ac.cells x.acts)]]).length),(15,AV.sl (List.map Tg.cells ts)),(16,iv (↑(List.map Tg.cells ts).length:Int)),(17,iv (↑(i+1):Int))]:TS)=[(1,sv table),(2,iv ev),(4,bv each),(8,AV.p 0 0),(11,AV.own 1 (out++[x]).length),(15,AV.sl (List.map Tg.cells ts)),(16,iv (↑(List.map Tg.cells ts).length:Int)),(17,iv (↑(i+1):Int))] by first|rfl|(simp;done)|(simp [X.cells,Qy.cells,V.cells,Col.cells,Rw.cells,Tb.cells,Fr.cells,Sch.cells,Tp.cells,Pl.cells,xCol,xLit,xBin,xNeg,Tg.cells];done)) (show ([Blk.box [AV.sl (List.map (fun s=>[sv s]) asg)],Blk.row Ty.Trigger (List.map Tg.cells out++[[sv x.name,sv x.table,bv x.before,iv x.event,AV.sl (List.map (fun s=>[sv s]) x.of),bv x.each,AV.sl (List.map (fun s=>[sv s]) x.prec),AV.sl (List.map (fun s=>[sv s]) x.foll),AV.sl (List.map Rk.cells x.rank),AV.sl (zad x.when_),AV.sl (List.map Ac.cells x.acts)]]) false]:Heap)=[Blk.box [AV.sl (List.map (fun s=>[sv s]) asg)],Blk.row Ty.Trigger (List.map Tg.cells (out++[x])) false] by first|rfl|(simp;done)|(simp [X.cells,Qy.cells,V.cells,Col.cells,Rw.cells,Tb.cells,Fr.cells,Sch.cells,Tp.cells,Pl.cells,xCol,xLit,xBin,xNeg,Tg.cells];done)) (gZ R hg)))⟩
      ·obtain ⟨outZ,qZ,xZ,gZ⟩:=ih (i+1) (out++[x]) (by omega) zfw (by omega);exact ⟨outZ,qZ,xZ,fun R hg=>zab (wkl (c':=(Cfg.mk (zdD N ts table ev asg each (i+1) (out++[x])).n (zdD N ts table ev asg each (i+1) (out++[x])).todo [(1,sv table),(2,iv ev),(4,bv each),(8,AV.p 0 0),(11,AV.own 1 (List.map Tg.cells out++[[sv x.name,sv x.table,bv x.before,iv x.event,AV.sl (List.map (fun s=>[sv s]) x.of),bv x.each,AV.sl (List.map (fun s=>[sv s]) x.prec),AV.sl (List.map (fun s=>[sv s]) x.foll),AV.sl (List.map Rk.cells x.rank),AV.sl (zad x.when_),AV.sl (List.map Ac.cells x.acts)]]).length),(15,AV.sl (List.map Tg.cells ts)),(16,iv (↑(List.map Tg.cells ts).length:Int)),(17,iv (↑(i+1):Int))] [Blk.box [AV.sl (List.map (fun s=>[sv s]) asg)],Blk.row Ty.Trigger (List.map Tg.cells out++[[sv x.name,sv x.table,bv x.before,iv x.event,AV.sl (List.map (fun s=>[sv s]) x.of),bv x.each,AV.sl (List.map (fun s=>[sv s]) x.prec),AV.sl (List.map (fun s=>[sv s]) x.foll),AV.sl (List.map Rk.cells x.rank),AV.sl (zad x.when_),AV.sl (List.map Ac.cells x.acts)]]) false])) [sb h0,se (zao Tg.cells hx rfl),sg h1,sg h2,sg h3,sb h4,sl [0] (zaU x.of asg zft zft),sb h5,sc (zd1 N x hTx),sqx (AllLen [[sv x.name,sv x.table,bv x.before,iv x.event,AV.sl (List.map (fun s=>[sv s]) x.of),bv x.each,AV.sl (List.map (fun s=>[sv s]) x.prec),AV.sl (List.map (fun s=>[sv s]) x.foll),AV.sl (List.map Rk.cells x.rank),AV.sl (zad x.when_),AV.sl (List.map Ac.cells x.acts)]] 11∧out.length=(List.map Tg.cells out).length∧(((List.map Tg.cells out).length+[[sv x.name,sv x.table,bv x.before,iv x.event,AV.sl (List.map (fun s=>[sv s]) x.of),bv x.each,AV.sl (List.map (fun s=>[sv s]) x.prec),AV.sl (List.map (fun s=>[sv s]) x.foll),AV.sl (List.map Rk.cells x.rank),AV.sl (zad x.when_),AV.sl (List.map Ac.cells x.acts)]].length) * 200).le 140737488355328),si hw] [1,2,4,8,11,15,16,17] 2 kr (za7 (show ([(1,sv table),(2,iv ev),(4,bv each),(8,AV.p 0 0),(11,AV.own 1 (List.map Tg.cells out++[[sv x.name,sv x.table,bv x.before,iv x.event,AV.sl (List.map (fun s=>[sv s]) x.of),bv x.each,AV.sl (List.map (fun s=>[sv s]) x.prec),AV.sl (List.map (fun s=>[sv s]) x.foll),AV.sl (List.map Rk.cells x.rank),AV.sl (zad x.when_),AV.sl (List.map Ac.cells x.acts)]]).length),(15,AV.sl (List.map Tg.cells ts)),(16,iv (↑(List.map Tg.cells ts).length:Int)),(17,iv (↑(i+1):Int))]:TS)=[(1,sv table),(2,iv ev),(4,bv each),(8,AV.p 0 0),(11,AV.own 1 (out++[x]).length),(15,AV.sl (List.map Tg.cells ts)),(16,iv (↑(List.map Tg.cells ts).length:Int)),(17,iv (↑(i+1):Int))] by first|rfl|(simp;done)|(simp [X.cells,Qy.cells,V.cells,Col.cells,Rw.cells,Tb.cells,Fr.cells,Sch.cells,Tp.cells,Pl.cells,xCol,xLit,xBin,xNeg,Tg.cells];done)) (show ([Blk.box [AV.sl (List.map (fun s=>[sv s]) asg)],Blk.row Ty.Trigger (List.map Tg.cells out++[[sv x.name,sv x.table,bv x.before,iv x.event,AV.sl (List.map (fun s=>[sv s]) x.of),bv x.each,AV.sl (List.map (fun s=>[sv s]) x.prec),AV.sl (List.map (fun s=>[sv s]) x.foll),AV.sl (List.map Rk.cells x.rank),AV.sl (zad x.when_),AV.sl (List.map Ac.cells x.acts)]]) false]:Heap)=[Blk.box [AV.sl (List.map (fun s=>[sv s]) asg)],Blk.row Ty.Trigger (List.map Tg.cells (out++[x])) false] by first|rfl|(simp;done)|(simp [X.cells,Qy.cells,V.cells,Col.cells,Rw.cells,Tb.cells,Fr.cells,Sch.cells,Tp.cells,Pl.cells,xCol,xLit,xBin,xNeg,Tg.cells];done)) (gZ R hg)))⟩
     ·obtain ⟨outZ,qZ,xZ,gZ⟩:=ih (i+1) out (by omega) zfw (by omega);exact ⟨outZ,qZ,xZ,fun R hg=>zab (wkl [sb h0,se (zao Tg.cells hx rfl),sg h1,sg h2,sg h3,sb h4,si hw] [1,2,4,8,11,15,16,17] 2 kr (gZ R hg))⟩
    ·obtain ⟨outZ,qZ,xZ,gZ⟩:=ih (i+1) out (by omega) zfw (by omega);exact ⟨outZ,qZ,xZ,fun R hg=>zab (wkl [sb h0,se (zao Tg.cells hx rfl),sg h1,sg h2,sb h3,si hw] [1,2,4,8,11,15,16,17] 2 kr (gZ R hg))⟩
   ·obtain ⟨outZ,qZ,xZ,gZ⟩:=ih (i+1) out (by omega) zfw (by omega);exact ⟨outZ,qZ,xZ,fun R hg=>zab (wkl [sb h0,se (zao Tg.cells hx rfl),sg h1,sb h2,si hw] [1,2,4,8,11,15,16,17] 2 kr (gZ R hg))⟩
  ·obtain ⟨outZ,qZ,xZ,gZ⟩:=ih (i+1) out (by omega) zfw (by omega);exact ⟨outZ,qZ,xZ,fun R hg=>zab (wkl [sb h0,se (zao Tg.cells hx rfl),sb h1,si hw] [1,2,4,8,11,15,16,17] 2 kr (gZ R hg))⟩
theorem zgB (N:Nat) (ts:List Tg) (table:Str) (ev:Int) (asg:List Str) (each:Bool) (hl:zac ts) (hs:zac asg) (hT:∀ t∈ts,TgSh N t):∃ (out:List Tg),out=ts.filter (appl table ev asg each)∧zaa E0 S.before_Applicable [.sl (ts.map Tg.cells),sv table,iv ev,ssl asg,bv each] [] (.sl (out.map Tg.cells)) []:=by
 obtain ⟨out1,q1,q1_1,g1⟩:=zb5 N ts table ev asg each zd5 zd5 hT 0 ([]) zd5 zd5
 exact ⟨out1,by rw [List.take_length] at *;assumption,wkc At.before_Applicable (c':=(Cfg.mk (zdD N ts table ev asg each 0 []).n (zdD N ts table ev asg each 0 []).todo [(1,sv table),(2,iv ev),(4,bv each),(8,AV.p 0 0),(11,AV.nl),(15,AV.sl (List.map Tg.cells ts)),(16,iv (↑(List.map Tg.cells ts).length:Int)),(17,iv 0)] [Blk.box [AV.sl (List.map (fun s=>[sv s]) asg)]])) [] [1,2,4,8,11,15,16,17] 1 kr (zb3 (c':=zdD N ts table ev asg each 0 []) 11 Ty.Trigger [1,2,4,8,11,15,16,17] 2 kr kr kr (g1 _ (zab (wkr [sqx (out1.length=(List.map Tg.cells out1).length),sb q1_1] kr))))⟩
theorem zgy (N:Nat) (ts:List Tg) (table:Str) (ev:Int) (asg:List Str) (each:Bool) (hl:zac ts) (hs:zac asg) (hT:∀ t∈ts,TgSh N t):zaa E0 S.before_Applicable [.sl (ts.map Tg.cells),sv table,iv ev,ssl asg,bv each] [] (.sl ((ts.filter (appl table ev asg each)).map Tg.cells)) []:=by
 obtain ⟨out,rfl,h⟩:=zgB N ts table ev asg each hl hs hT
 exact h
end Go.AM
namespace Go.AM
set_option maxRecDepth 100000
set_option maxHeartbeats 1000000
set_option linter.unusedSimpArgs false
set_option linter.unusedVariables false
theorem zpb (l:List Int) (h:(l.take 500).length≤500):Tp.cells ⟨l.take 500,0,h⟩=[.sl (((l.map fun n=>[iv n]).take 500).drop 0),iv 0]:=by simp [Tp.cells,List.map_take]
theorem zlc (l:List Int):∃ (t:Tp),zaa E0 S.world_New [isl l] [] (.p 0 0) [.box t.cells]:=by
 cases h1:decide ((500:Int) < (((l.map fun n=>[iv n]).length:Nat):Int))
 ·exact ⟨⟨l,0,by simp at h1;omega⟩,wkK At.world_New [sb h1] kr⟩
 ·refine ⟨⟨l.take 500,0,by simp;omega⟩,?_⟩
  rw [zpb]
  exact wkK At.world_New [sb h1,sq (show SubAt (l.map fun n=>[iv n]) 0 500 1 from ⟨by decide,by decide,by simpa using Int.le_of_lt (by simpa using h1),by simp⟩)] kr
structure FsT (frs:List Fr):Prop where
 len:frs.length≤900
 rows:∀ f∈frs,zd9 f.cols f.vals
 few:∀ f∈frs,Few f.cols
def schLog:Sch:=⟨⟨#[108,111,103]⟩,[⟨⟨#[110]⟩,1,false,false⟩,⟨⟨#[115]⟩,3,false,false⟩]⟩
end Go.AM
namespace Go.AM
set_option maxRecDepth 100000
set_option maxHeartbeats 1000000
set_option linter.unusedSimpArgs false
set_option linter.unusedVariables false
/- known -/
@[simp] theorem ba_self (s:Str):(s==s)=true:=by
 cases s with
 | mk d =>
  have h:(d==d)=true:=by simp
  exact h
end Go.AM
namespace Go.AM
set_option maxRecDepth 100000
set_option maxHeartbeats 1000000
set_option linter.unusedSimpArgs false
set_option linter.unusedVariables false
theorem byteAt {s:Str} {i:Int} (h:0≤i∧i < ((s.size:Nat):Int)):∃ c:UInt8,ByteAt s i ((c.toNat:Nat):Int):=by
 obtain ⟨n,rfl⟩:=Int.eq_ofNat_of_zero_le h.1
 have hlt:n < s.size:=by omega
 exact ⟨s[n],⟨by omega,by simp [hlt]⟩⟩
end Go.AM
namespace Go.AM
set_option maxRecDepth 100000
set_option maxHeartbeats 1000000
set_option linter.unusedSimpArgs false
set_option linter.unusedVariables false
def AtI {α:Type} (l:List α) (i:Int) (x:α):Prop:=0≤i∧l[i.toNat]?=some x
theorem ex_atI {α:Type} {l:List α} {i:Int} (h:0≤i∧i < ((l.length:Nat):Int)):∃ x,AtI l i x :=
 ⟨l[i.toNat]'(by omega),h.1,List.getElem?_eq_getElem (by omega)⟩
theorem znl {α:Type} (f:α→List AV) {l:List α} {i:Int} {x:α} (h:AtI l i x) {n:Nat} (hn:(f x).length=n):ElAt (l.map f) i (f x) n :=
 ⟨h.1,by simp [h.2],hn⟩
end Go.AM
namespace Go.AM
set_option maxRecDepth 100000
set_option linter.unusedSimpArgs false
set_option linter.unusedVariables false
def AcSet (a:Ac):Prop:=a.kind=5→∃ s,a.sets=[s]
end Go.AM
namespace Go.AM
open Go.RowKit
set_option linter.unusedSimpArgs false
set_option linter.unusedVariables false
theorem zhI {E:Env0} (ht:zan E) (em:Bool) (d:Nat) (w:World):∀ (fs:List Field) (px xs:List Value),flat E.T px.length fs (xs.map shp)=true →
  (forIn (m:=Sem) fs () fun f _=>do
   if f.name ≠ "_" then Instr.checkKey em (d + 1) f.type (← part f.type (px ++ xs).toArray f.offset)
   pure (ForInStep.yield ())).run E.P w=.ok () w
 | [],px,xs,hf=>by simp
 | f::fs,px,[],hf=>by simp [flat] at hf
 | f::fs,px,x::xs,hf=>by
  simp only [List.map_cons,flat,Bool.and_eq_true,bne_iff_ne] at hf
  obtain ⟨⟨⟨hn,ho⟩,hs⟩,hrest⟩:=hf
  have ho:=Nat.eq_of_beq_eq_true ho
  obtain ⟨hsz,hagg,hne⟩:=zih hs
  obtain ⟨i,dd,z,tok⟩:=ht.at_ hne
  have p1:=ze8 tok w (px++x::xs) f.offset (by rw [hsz,ho];simp)
  rw [hsz,ho] at p1
  simp only [List.drop_left,List.take_succ_cons,List.take_zero,zdG,hagg,List.headD_cons] at p1
  have p2:(Instr.checkKey em (d+1) f.type x).run E.P w=.ok () w:=by
   cases x <;> simp [shp,zhn] at hs
   all_goals
    split at hs
    ·rename_i hk
     first
     | (have:=tok.bool_ hk;subst this;exact MapKept.run_checkKey tok.und (by simp [MapKept.IsKey]) em d)
     | (have:=tok.int_ hk;subst this;unfold Instr.checkKey;simp [run_underlying tok.und])
     | (have:=tok.str_ hk;subst this;exact MapKept.run_checkKey tok.und (by simp [MapKept.IsKey]) em d)
    ·cases hs
  have ih:=zhI ht em d w fs (px++[x]) xs (by simpa using hrest)
  simp only [List.append_assoc,List.singleton_append] at ih
  simp only [List.forIn_cons,Sem.run_bind,hn,ne_eq,not_false_eq_true,if_true,ho,p1,p2,Result.andThen_ok,Sem.run_pure]
  exact ih
theorem zg8 {P:Program} {kt:TypeId} {ss:List Shp} (hq:StructEq P kt ss) (w:World) {xs:List Value} (hx:xs.map shp=ss):∀ (l:List MapEntry) (rs:List Bool) (n:Nat),rs.length=l.length →
  (∀ (i:Nat) (e:MapEntry) (r:Bool),l[i]?=some e→rs[i]?=some r→∃ ys,e.key=keyV true ys∧zaQ xs ys=some r)→(Instr.findAsking kt (.agg xs.toArray) l n).run P w=.ok (zdM l rs n) w
 | [],[],_,_,_=>by simp [Instr.findAsking,zdM]
 | [],_::_,_,h,_=>by simp at h
 | _::_,[],_,h,_=>by simp at h
 | e::l,r::rs,n,hl,hall=>by
  obtain ⟨ys,h1,h2⟩:=hall 0 e r rfl rfl
  have ih:=zg8 hq w hx l rs (n+1) (by simpa using hl) (fun i e r hi hr=>hall (i+1) e r (by simpa using hi) (by simpa using hr))
  have h3:=hq.eq w xs ys r hx h2
  simp only [Instr.findAsking,Sem.run_bind,h1,keyV,h3,Result.andThen_ok]
  cases r
  ·simpa [zdM] using ih
  ·simp [zdM]
theorem zkp {E:Env0} (ht:zan E) {t kt et:TypeId} {fs:Array Field} {ss:List Shp} (hu:E.P.underlying t=some (.map kt et)) (hk:E.P.underlying kt=some (.struct fs)) (hf:flat E.T 0 fs.toList ss=true) (hq:StructEq E.P kt ss) {cs:List AV} {xs:List Value}
  (hc:zc4 cs=some xs) (hs:xs.map shp=ss):KeyOK E.P t (.agg cs):=by
 refine ⟨⟨true,xs,by simp [zbv,hc],⟨⟨kt,et,hu,fun e w us hx=>?_,fun w us l rs hx hl hall=>?_⟩⟩⟩⟩
 ·have h1:=zhI ht e 9998 w fs.toList [] us (by rw [hx,hs];exact hf)
  simp only [List.nil_append] at h1
  show (Instr.checkKey e 10000 kt (.agg us.toArray)).run E.P w=.ok () w
  unfold Instr.checkKey
  simp only [Sem.run_bind,run_underlying hk,Result.andThen_ok]
  rw [← Array.forIn_toList]
  have h2:∀ r:Result Unit,r=.ok () w→(r.andThen fun a w'=>(pure ():Sem Unit).run E.P w')=.ok () w:=by
   rintro _ rfl
   rfl
  exact h2 _ h1
 ·show (Instr.findKey kt (.agg us.toArray) l).run E.P w=_
  rw [run_findKey_eq w (by rw [hk]) _ l]
  exact zg8 hq w (by rw [hx,hs]) l rs 0 hl hall
end Go.AM
namespace Go.AM
open Go.RowKit
set_option linter.unusedSimpArgs false
set_option linter.unusedVariables false
def zjO (E:Env0) (h0:Heap) (β0:List Con) (S0:Addr→Prop) (w0:World) (fn:Func) (RR:Ending→World→Prop) (c:Cfg):Prop :=
 ∀ (β:List Con) (S:Addr→Prop) (w:World) (tmps:Array Value),tmps.size=c.n→Ext h0 β0 S0 w0 c.h β S w→Rel E c.h β S w→zam E.T c.h β w S c.ts tmps→kont E.P c.todo (bodyPost E.P fn RR) .normal ⟨tmps,[]⟩ w
theorem zku {E:Env0} (ht:zan E) (hm:E.P.follows .mixedOrders=true) {h0:Heap} {β0:List Con} {S0:Addr→Prop} {w0:World} {fn:Func} {RR:Ending→World→Prop} {c c':Cfg} {os os':List Orc} {q:Option Prop} (hs:step (mk E) c os=some (q,c',os')) (hq:zah q) (hg:zjO E h0 β0 S0 w0 fn RR c'):zjO E h0 β0 S0 w0 fn RR c:=by
 intro β S w tmps hn x0 r rt
 obtain ⟨n,todo,ts,h⟩:=c
 simp only at hn x0 r rt ⊢
 unfold step at hs
 simp only at hs
 cases todo with
 | nil=>cases hs
 | cons it k =>
  cases it with
  | blk id =>
   simp only [Option.some.injEq,Prod.mk.injEq] at hs
   obtain ⟨_,rfl,_⟩:=hs
   exact hg β S w tmps hn x0 r rt
  | lp cc=>cases hs
  | ops all rest =>
   cases rest with
   | nil =>
    simp only [Option.some.injEq,Prod.mk.injEq] at hs
    obtain ⟨_,rfl,_⟩:=hs
    exact hg β S w tmps hn x0 r rt
   | cons o rest =>
    simp only at hs
    split at hs
    ·rename_i x hdst hx
     simp only [Option.some.injEq,Prod.mk.injEq] at hs
     obtain ⟨rfl,rfl,_⟩:=hs
     have hd:zat tmps.size o.dst=true:=by rw [hn];exact hdst
     simp only [kont,Exit.then]
     refine wpList_step fun K hK=>?_
     have:=zkl (Q:=kont E.P k (bodyPost E.P fn RR)) (K:=K) ht r rt hd hx hq ⟨fun β' S' w' tmps' hsz r' e' rt'=>hK _ _ ?_⟩
     ·exact this
     ·have:=hg β' S' w' tmps' (by rw [hsz];exact hn) (x0.trans e') r' rt'
      simp only [kont,Exit.then] at this
      exact this
    ·cases hs
  | code cc =>
   simp only [kont,Exit.then]
   cases cc with
   | skip =>
    simp only [Option.some.injEq,Prod.mk.injEq] at hs
    obtain ⟨_,rfl,_⟩:=hs
    exact wp_skip (hg β S w tmps hn x0 r rt)
   | label l =>
    simp only [Option.some.injEq,Prod.mk.injEq] at hs
    obtain ⟨_,rfl,_⟩:=hs
    exact wp_label (hg β S w tmps hn x0 r rt)
   | scope a =>
    simp only [Option.some.injEq,Prod.mk.injEq] at hs
    obtain ⟨_,rfl,_⟩:=hs
    refine wp_scope_straight (wp_mono (hg β S w tmps hn x0 r rt) fun e a w he=>?_)
    cases e with
    | goto l=>exact zdd k l a w he
    | _=>exact he
   | loop a =>
    simp only [Option.some.injEq,Prod.mk.injEq] at hs
    obtain ⟨_,rfl,_⟩:=hs
    exact ziu (hg β S w tmps hn x0 r rt)
   | seq a b =>
    simp only [Option.some.injEq,Prod.mk.injEq] at hs
    obtain ⟨_,rfl,_⟩:=hs
    refine wp_seq (wp_mono (hg β S w tmps hn x0 r rt) fun e a w he=>?_)
    cases e <;> exact he
   | block id a =>
    simp only [Option.some.injEq,Prod.mk.injEq] at hs
    obtain ⟨_,rfl,_⟩:=hs
    refine wp_block (wp_mono (hg β S w tmps hn x0 r rt) fun e a w he=>?_)
    cases e <;> exact he
   | region id ops draw =>
    cases draw with
    | true =>
     simp only at hs
     split at hs
     ·rename_i l os1
      split at hs
      ·rename_i qs ts1 h1 hlv hsz
       simp only [Option.some.injEq,Prod.mk.injEq] at hs
       obtain ⟨rfl,rfl,_⟩:=hs
       simp only [zah] at hq
       exact zlC ht hm (Nat.eq_of_beq_eq_true hsz) hlv hq hn x0 r rt (fun β' S' w' tmps' hn' x' r' rt'=>hg β' S' w' tmps' hn' x' r' rt')
      ·cases hs
     ·cases hs
    | false =>
     simp only [Option.some.injEq,Prod.mk.injEq] at hs
     obtain ⟨_,rfl,_⟩:=hs
     have:=hg β S w tmps hn x0 r rt
     simp only [kont,Exit.then] at this
     exact wp_region_list this
   | exit id =>
    simp only at hs
    split at hs
    ·rename_i k' hk
     simp only [Option.some.injEq,Prod.mk.injEq] at hs
     obtain ⟨_,rfl,_⟩:=hs
     exact wp_exit (zdk k k' _ _ hk (hg β S w tmps hn x0 r rt))
    ·cases hs
   | cond x a b =>
    have hx:=zau (ds:=[]) r rt x
    have lit:∀ bb,Act.eval ⟨tmps,[]⟩ x=.bool bb→zam E.T h β w S (zjY ts bb x) tmps:=by
     intro bb he
     cases x with
     | tmp d=>exact rt.lit he
     | _=>exact rt
    simp only at hs
    split at hs
    ·rename_i he
     simp only [mk_G] at he
     rw [he] at hx
     simp only [Option.some.injEq,Prod.mk.injEq] at hs
     obtain ⟨_,rfl,_⟩:=hs
     exact wp_cond_true hx.bl_inv (hg β S w tmps hn x0 r rt)
    ·rename_i he
     simp only [mk_G] at he
     rw [he] at hx
     simp only [Option.some.injEq,Prod.mk.injEq] at hs
     obtain ⟨_,rfl,_⟩:=hs
     exact wp_cond_false hx.bl_inv (hg β S w tmps hn x0 r rt)
    ·rename_i t he
     simp only [mk_G] at he
     rw [he] at hx
     split at hs
     ·simp only [Option.some.injEq,Prod.mk.injEq] at hs
      obtain ⟨rfl,rfl,_⟩:=hs
      simp only [zah] at hq
      subst hq
      exact wp_cond_true hx.v_inv (hg β S w tmps hn x0 r (lit _ hx.v_inv))
     ·simp only [Option.some.injEq,Prod.mk.injEq] at hs
      obtain ⟨rfl,rfl,_⟩:=hs
      simp only [zah] at hq
      subst hq
      exact wp_cond_false hx.v_inv (hg β S w tmps hn x0 r (lit _ hx.v_inv))
     ·cases hs
    ·cases hs
   | _=>cases hs
theorem ziZ {E:Env0} (ht:zan E) (hm:E.P.follows .mixedOrders=true) {h0:Heap} {β0:List Con} {S0:Addr→Prop} {w0:World} {fn:Func} {RR:Ending→World→Prop}:∀ (n:Nat) (c:Cfg) (os:List Orc),allP (run (mk E) n c os).1→zjO E h0 β0 S0 w0 fn RR (run (mk E) n c os).2.1→zjO E h0 β0 S0 w0 fn RR c
 | 0,c,os,_,hg=>hg
 | n+1,c,os,hq,hg=>by
  unfold run at hq hg
  cases hs:step (mk E) c os with
  | none=>simp only [hs] at hg;exact hg
  | some x =>
   obtain ⟨q,c',os'⟩:=x
   cases q with
   | none =>
    simp only [hs] at hq hg
    exact zku ht hm hs trivial (ziZ ht hm n c' os' hq hg)
   | some q =>
    simp only [hs] at hq hg
    obtain ⟨h1,h2⟩:=zfr hq
    exact zku ht hm hs h1 (ziZ ht hm n c' os' h2 hg)
structure Foreign (gs:List Nat) (β:List Con) (S:Addr→Prop) (w0 w:World):Prop where
 new:∀ g∈gs.tail,w0.heap.size≤g
 lt:∀ g∈gs,g < w.heap.size
 apart:∀ g∈gs,∀ (b:Nat) (k:Con),β[b]?=some k→k.blk≠some g
 sep:∀ g∈gs,∀ a,S a→a.block≠g
theorem Foreign.ext {gs:List Nat} {h h':Heap} {β β':List Con} {S S':Addr→Prop} {w0 w w':World} (f:Foreign gs β S w0 w) (x:Ext h β S w h' β' S' w'):Foreign gs β' S' w0 w'∧∀ g∈gs,w'.heap[g]?=w.heap[g]? :=
 ⟨⟨f.new,fun g hg=>Nat.lt_of_lt_of_le (f.lt g hg) x.size,fun g hg b k hb hk=>by
  rcases x.new b k g hb hk with ⟨b',k',h1,h2,_⟩|h1
  ·exact f.apart g hg b' k' h1 h2
  ·have:=f.lt g hg;omega,fun g hg a ha he=>by
  rcases x.S_new a ha with h1|h1|⟨b,k,h1,h2⟩
  ·exact f.sep g hg a h1 he
  ·have:=f.lt g hg;omega
  ·exact f.apart g hg b k h1 (by rw [h2,he])⟩,fun g hg=>x.keep g (f.lt g hg) (f.apart g hg)⟩
def zaR (E:Env0) (fn:Func) (h0:Heap) (gs:List Nat) (F:(Addr→Prop)→World→Prop) (c:Cfg) (R:AV→Heap→Prop):Prop :=
 ∀ (β0:List Con) (S0:Addr→Prop) (w0:World) (β:List Con) (S:Addr→Prop) (w:World) (tmps:Array Value),β0.length=h0.length→tmps.size=c.n→Ext h0 β0 S0 w0 c.h β S w→Rel E c.h β S w→zam E.T c.h β w S c.ts tmps→Foreign gs β S w0 w→F S w →
  kont E.P c.todo (bodyPost E.P fn (Post E h0 β0 S0 w0 R)) .normal ⟨tmps,[]⟩ w
def Only (gs:List Nat) (F:(Addr→Prop)→World→Prop):Prop:=∀ (S S':Addr→Prop) (w w':World),(∀ a,S a→S' a)→(∀ a,S a→w'.cell? a=w.cell? a)→(∀ g∈gs,w'.heap[g]?=w.heap[g]?)→F S w→F S' w'
theorem znQ {E:Env0} {fn:Func} {h0:Heap} {gs:List Nat} {F:(Addr→Prop)→World→Prop} {c:Cfg} {R:AV→Heap→Prop} (hg:Good E fn h0 c R):zaR E fn h0 gs F c R :=
 fun β0 S0 w0 β S w tmps hb hn x r rt _ _=>hg β0 S0 w0 β S w tmps hb hn x r rt
theorem zg7 {E:Env0} (ht:zan E) (hm:E.P.follows .mixedOrders=true) {fn:Func} {h0:Heap} {gs:List Nat} {F:(Addr→Prop)→World→Prop} (hF:Only gs F) {R:AV→Heap→Prop} (n:Nat) {c:Cfg} (os:List Orc) (hq:allP (run (mk E) n c os).1) (hg:zaR E fn h0 gs F (run (mk E) n c os).2.1 R):zaR E fn h0 gs F c R :=
 fun β0 S0 w0 β S w tmps hb hn x r rt hf hw=>ziZ ht hm (h0:=c.h) (β0:=β) (S0:=S) (w0:=w) n c os hq (fun β' S' w' tmps' hn' x' r' rt' =>
  hg β0 S0 w0 β' S' w' tmps' hb hn' (x.trans x') r' rt' (hf.ext x').1 (hF S S' w w' x'.S_le x'.S_cell (hf.ext x').2 hw)) β S w tmps hn (Ext.refl _ _ _ _) r rt
theorem zjx {E:Env0} {fn:Func} {R:AV→Heap→Prop} {h0:Heap} {gs:List Nat} {F:(Addr→Prop)→World→Prop} {c:Cfg} (live:List Nat) (m:Nat) (hm:h0.length≤m) (hg:zaR E fn h0 gs F (cut live m c) R):zaR E fn h0 gs F c R:=by
 intro β0 S0 w0 β S w tmps hb0 hn x0 r rt hf hw
 obtain ⟨r1,hv⟩:=r.first m
 refine hg β0 S0 w0 (β.take m) S w tmps hb0 hn (x0.first r hm hb0) r1 (fun t=>?_) ⟨hf.new,hf.lt,fun g hg b k hb=>?_,hf.sep⟩ hw
 ·rcases zfp m c.ts live t with h1|h1
  ·simp only [cut];rw [h1];exact .d _ _ (.un _)
  ·simp only [cut];rw [h1];exact hv _ _ (rt t)
 ·rw [List.getElem?_take] at hb
  split at hb
  ·exact hf.apart g hg b k hb
  ·cases hb
theorem zoa {E:Env0} (ht:zan E) (hmix:E.P.follows .mixedOrders=true) {fn:Func} {R:AV→Heap→Prop} {h0:Heap} {gs:List Nat} {F:(Addr→Prop)→World→Prop} (hF:Only gs F) {c c':Cfg} (n:Nat) (os:List Orc) (live:List Nat) (m:Nat) {q:List Prop}
  (hm:Nat.ble h0.length m=true) (hq0:(run (mk E) n c os).1=q) (hc:cut live m (run (mk E) n c os).2.1=c') (hq:allP q) (hg:zaR E fn h0 gs F c' R):zaR E fn h0 gs F c R:=by
 subst hq0
 subst hc
 exact zg7 ht hmix hF n os hq (zjx live m (Nat.le_of_ble_eq_true hm) hg)
structure Touch (g:Nat) (w w':World):Prop where
 os:w'.os=w.os
 tape:w'.tape=w.tape
 drawn:w.drawn≤w'.drawn
 output:w'.output=w.output
 size:w'.heap.size=w.heap.size
 other:∀ b,b≠g→w'.heap[b]?=w.heap[b]?
theorem Touch.cell {g:Nat} {w w':World} (t:Touch g w w') {a:Addr} (ha:a.block≠g):w'.cell? a=w.cell? a:=World.cell?_of_block (t.other a.block ha)
theorem Ext.touch {h0 h:Heap} {β0 β:List Con} {S0 S:Addr→Prop} {w0 w w':World} {gs:List Nat} {g:Nat} (x:Ext h0 β0 S0 w0 h β S w) (t:Touch g w w') (f:Foreign gs β S w0 w) (hg:g∈gs) (hgt:g∈gs.tail):Ext h0 β0 S0 w0 h β S w' where
 box:=x.box
 con:=x.con
 row:=x.row
 mp:=x.mp
 conm:=x.conm
 S_le:=x.S_le
 S_cell:=fun a ha=>(t.cell (f.sep g hg a (x.S_le a ha))).trans (x.S_cell a ha)
 S_new:=x.S_new
 os:=t.os.trans x.os
 tape:=t.tape.trans x.tape
 drawn:=Nat.le_trans x.drawn t.drawn
 output:=t.output.trans x.output
 size:=by rw [t.size];exact x.size
 keep:=fun b hb hne=>(t.other b (by have:=f.new g hgt;omega)).trans (x.keep b hb hne)
 new:=x.new
theorem RelV.cells {T:TypeId→TI} {h:Heap} {β:List Con} {S:Addr→Prop} {w w':World} (hc:∀ a,S a→w'.cell? a=w.cell? a) {x:AV} {y:Value} (hr:RelV T h β w S x y):RelV T h β w' S x y:=by
 induction hr with
 | d x y hd=>exact .d x y (hd.mono (fun _ h=>h) hc)
 | agg cs vs hl ho _ ih=>exact .agg cs vs hl ho ih
 | tup cs vs hl _ ih=>exact .tup cs vs hl ih
 | nl a=>exact .nl a
 | p b off g hb=>exact .p b off g hb
 | own b n y e xs sh hb hn hy ho=>exact .own b n y e xs sh hb hn hy ho
 | ep b n i off g e xs sh hb hn hy=>exact .ep b n i off g e xs sh hb hn hy
 | os b n lo hi y e xs sh hb hn hl hh ho hy=>exact .os b n lo hi y e xs sh hb hn hl hh ho hy
 | fn f caps vs hl _ ih=>exact .fn f caps vs hl ih
 | mp b g hb=>exact .mp b g hb
theorem Rel.touch {E:Env0} {h:Heap} {β:List Con} {S:Addr→Prop} {w0 w w':World} {gs:List Nat} {g:Nat} (r:Rel E h β S w) (t:Touch g w w') (f:Foreign gs β S w0 w) (hg:g∈gs):Rel E h β S w' where
 len:=r.len
 box:=fun b cs hb=>by
  obtain ⟨q,vs,ty,h1,h2,h3,h4⟩:=r.box b cs hb
  exact ⟨q,vs,ty,h1,(t.other q fun e=>f.apart g hg b _ h1 (by rw [← e];rfl)).trans h2,h3,fun i x y hx hy=>⟨(h4 i x y hx hy).1.cells fun a ha=>t.cell (f.sep g hg a ha),(h4 i x y hx hy).2⟩⟩
 row:=fun b e xs sh hb=>by
  obtain ⟨k,h1,h2⟩:=r.row b e xs sh hb
  exact ⟨k,h1,h2.ext (fun _ h=>h) (fun a ha=>t.cell (f.sep g hg a ha)) fun q hq=>t.other q fun e=>f.apart g hg b k h1 (by rw [hq,e])⟩
 mp:=fun b es hb=>by
  obtain ⟨k,h1,h2⟩:=r.mp b es hb
  exact ⟨k,h1,h2.ext (fun _ h=>h) (fun a ha=>t.cell (f.sep g hg a ha)) (t.other k fun e=>f.apart g hg b _ h1 (by rw [← e];rfl))⟩
 apart:=r.apart
 lt:=fun b k q h1 h2=>by rw [t.size];exact r.lt b k q h1 h2
 stable:=fun a ha=>by rw [t.size];exact r.stable a ha
 free:=r.free
 glob:=fun q cs hq=>(r.glob q cs hq).mono (fun _ h=>h) fun a ha=>t.cell (f.sep g hg a ha)
theorem zam.touch {E:Env0} {h:Heap} {β:List Con} {S:Addr→Prop} {w0 w w':World} {gs:List Nat} {g:Nat} {ts:TS} {tmps:Array Value} (rt:zam E.T h β w S ts tmps) (t:Touch g w w') (f:Foreign gs β S w0 w) (hg:g∈gs):zam E.T h β w' S ts tmps :=
 fun q=>(rt q).cells fun a ha=>t.cell (f.sep g hg a ha)
theorem Foreign.touch {gs:List Nat} {β:List Con} {S:Addr→Prop} {w0 w w':World} {g:Nat} (f:Foreign gs β S w0 w) (t:Touch g w w'):Foreign gs β S w0 w':=⟨f.new,fun q hq=>by rw [t.size];exact f.lt q hq,f.apart,f.sep⟩
/-! ### 'for k, v := range m' -/
def zfn (L:List (AV × AV)) (seen:Array Nat):List (AV × AV):=((List.range L.length).filter fun i=>!seen.contains i).filterMap fun i=>L[i]?
def ItF (gm gi:Nat) (l:List (AV × AV)) (cur:Option (AV × AV)) (S:Addr→Prop) (w:World):Prop:=∃ (L:List (AV × AV)) (ents:Array MapEntry) (seen:Array Nat) (c0:Nat),
 w.heap[gm]?=some (.map ents L.length)∧ents.size=L.length∧(∀ (i:Nat) (k x:AV),L[i]?=some (k,x)→∃ (kv xv:Value),ents[i]?=some ⟨kv,xv,i⟩∧RelD w S k kv∧RelD w S x xv) ∧
 w.heap[gi]?=some (.mapIter (some gm) L.length seen c0)∧L.length≤c0∧l.Perm (zfn L seen) ∧
 ∀ p,cur=some p→∃ (s':Array Nat) (i:Nat),seen=s'.push i∧L[i]?=some p∧c0=L.length
theorem zhT (gm gi:Nat) (l:List (AV × AV)) (cur:Option (AV × AV)):Only [gm,gi] (ItF gm gi l cur):=by
 intro S S' w w' hS hc hg ⟨L,ents,seen,c0,h1,h2,h3,h4,h5,h6,h7⟩
 exact ⟨L,ents,seen,c0,(hg gm (by simp)).trans h1,h2,fun i k x hi=>by
  obtain ⟨kv,xv,a1,a2,a3⟩:=h3 i k x hi
  exact ⟨kv,xv,a1,a2.mono hS hc,a3.mono hS hc⟩,(hg gi (by simp)).trans h4,h5,h6,h7⟩
theorem zh4 {α:Type} (L:List α):∀ n:Nat,(List.range n).filterMap (fun i=>L[i]?)=L.take n
 | 0=>by simp
 | n+1=>by
  rw [List.range_succ,List.filterMap_append,zh4 L n,List.take_add_one]
  congr 1
theorem zmm (L:List (AV × AV)):zfn L #[]=L:=by
 unfold zfn
 have:(List.range L.length).filter (fun i=>!(#[]:Array Nat).contains i)=List.range L.length:=by simp
 rw [this,zh4,List.take_length]
theorem znz {L:List (AV × AV)} {seen:Array Nat} {i:Nat} {p:AV × AV} (hi:L[i]?=some p) (hs:seen.contains i=false):(zfn L seen).Perm (p::zfn L (seen.push i)):=by
 have hil:=(List.getElem?_eq_some_iff.1 hi).1
 have hF:((List.range L.length).filter fun j=>!seen.contains j).Perm (i::(List.range L.length).filter fun j=>!(seen.push i).contains j):=by
  have hm:i∈(List.range L.length).filter fun j=>!seen.contains j:=by
   rw [List.mem_filter]
   exact ⟨List.mem_range.2 hil,by rw [hs];rfl⟩
  have h1:=List.perm_cons_erase hm
  have hn:((List.range L.length).filter fun j=>!seen.contains j).Nodup:=List.nodup_range.filter _
  rw [hn.erase_eq_filter,List.filter_filter] at h1
  refine h1.trans (.of_eq (congrArg _ ?_))
  apply List.filter_congr
  intro j _
  rw [contains_push]
  cases seen.contains j <;> cases hji:(j==i) <;> simp [bne,hji]
 have:=hF.filterMap fun j=>L[j]?
 rw [List.filterMap_cons_some hi] at this
 exact this
theorem zgl {α:Type}:∀ (l:List α) (j:Nat) (p:α),l[j]?=some p→l.Perm (p::l.eraseIdx j)
 | [],j,p,h=>by simp at h
 | a::l,0,p,h=>by simp at h;subst h;exact .refl _
 | a::l,j+1,p,h=>by
  have:=zgl l j p (by simpa using h)
  exact (this.cons a).trans (.swap _ _ _)
theorem zgK {L:List (AV × AV)} {ents:Array MapEntry} {w:World} {S:Addr→Prop} (hl:ents.size=L.length) (h3:∀ (i:Nat) (k x:AV),L[i]?=some (k,x)→∃ (kv xv:Value),ents[i]?=some ⟨kv,xv,i⟩∧RelD w S k kv∧RelD w S x xv) :
  (∀ e∈ents.toList,ents[e.born]?=some e∧e.born < L.length)∧(ents.toList.map (·.born)).Nodup:=by
 have at_:∀ (i:Nat) (e:MapEntry),ents[i]?=some e→e.born=i∧i < L.length:=by
  intro i e he
  have hi:i < L.length:=by rw [← hl];exact (Array.getElem?_eq_some_iff.1 he).1
  obtain ⟨kv,xv,e1,_⟩:=h3 i L[i].1 L[i].2 (List.getElem?_eq_getElem hi)
  rw [he] at e1
  cases e1
  exact ⟨rfl,hi⟩
 refine ⟨fun e he=>?_,?_⟩
 ·obtain ⟨i,hi⟩:=List.getElem?_of_mem he
  rw [Array.getElem?_toList] at hi
  obtain ⟨h1,h2⟩:=at_ i e hi
  rw [h1]
  exact ⟨hi,h2⟩
 ·have:ents.toList.map (·.born)=List.range L.length:=by
   apply List.ext_getElem?
   intro i
   rw [List.getElem?_map,Array.getElem?_toList]
   by_cases hi:i < L.length
   ·have h5:ents[i]?=some (ents[i]'(by omega)):=Array.getElem?_eq_getElem (by omega)
    rw [h5,Option.map_some,(at_ i _ h5).1,List.getElem?_range hi]
   ·rw [Array.getElem?_eq_none (by omega),List.getElem?_eq_none (by simp;omega)]
    rfl
  rw [this]
  exact List.nodup_range
theorem zmU {w w1:World} {g:Nat} {o:Obj} (h:w1=w∨w1=w.drew):Touch g w (ChangeMaps.setBlock w1 g o):=by
 rcases h with rfl|rfl
 ·exact ⟨rfl,rfl,Nat.le_refl _,rfl,by simp [ChangeMaps.setBlock],fun b hb=>by simp [ChangeMaps.setBlock,Ne.symm hb]⟩
 ·have hd:∀ v:World,v.drew.heap=v.heap:=fun _=>rfl
  exact ⟨rfl,rfl,Nat.le_succ _,rfl,by simp [ChangeMaps.setBlock,hd],fun b hb=>by simp [ChangeMaps.setBlock,hd,Ne.symm hb]⟩
theorem zmJ {E:Env0} {fn:Func} {h0 h:Heap} {all r:List Oper} {o:Oper} {k:List It} {n:Nat} {ts:TS} {R:AV→Heap→Prop} {gm gi ti d:Nat} {l:List (AV × AV)} {cur:Option (AV × AV)} (hop:o.op=.next (.tmp ti) false) (hgd:o.guard=none) (hd:o.dst=some d) (hdn:d < n)
  (hm:look ts ti=.v (.pointer (some ⟨gi,0,none⟩)))
  (H0:l=[]→zaR E fn h0 [gm,gi] (ItF gm gi [] none) ⟨n,.ops all r::k,(d,.tup [.bl false])::ts,h⟩ R)
  (H1:∀ (j:Nat) (kx x:AV),l[j]?=some (kx,x)→zaR E fn h0 [gm,gi] (ItF gm gi (l.eraseIdx j) (some (kx,x))) ⟨n,.ops all r::k,(d,.tup [.bl true,kx,x])::ts,h⟩ R) :
  zaR E fn h0 [gm,gi] (ItF gm gi l cur) ⟨n,.ops all (o::r)::k,ts,h⟩ R:=by
 intro β0 S0 w0 β S w tmps hβ hn x0 r0 rt hf ⟨L,ents,seen,c0,h1,h2,h3,h4,h5,h6,h7⟩
 simp only at hn x0 r0 rt
 have hmv:=rt ti
 rw [hm] at hmv
 have hev:=hmv.v_inv
 obtain ⟨hb1,hb2⟩:=zgK h2 h3
 have hne:gm≠gi:=by
  rintro rfl
  rw [h1] at h4
  cases h4
 simp only [kont,Exit.then]
 refine wpList_step fun K hK=>?_
 show wpG E.P all.toArray o ⟨tmps,[]⟩ w K _
 unfold wpG
 rw [if_pos (by simp [Region.wanted,hgd])]
 unfold Oper.wp
 have hdd:zat tmps.size (some d)=true:=by simp only [zat];exact Nat.ble_eq_true_of_le (by rw [hn];exact hdn)
 rcases run_next_at (P:=E.P) w o.type gi gm L.length c0 seen ents L.length h4 h1 (fun x hx=>(hb1 x hx).2) h5 with ⟨hz,hrun⟩|⟨e,he,w1,hw1,hrun⟩
 ·have hrun':(execOp (Act.eval ⟨tmps,[]⟩) o).run E.P w=.ok (.value (.tuple #[.bool false])) w:=by
   simp only [execOp,hop,Act.eval,hev,hrun,Sem.run_bind,Result.andThen_ok,Sem.run_pure]
  rw [hrun',Oper.upon_value,za4]
  refine hK _ _ ?_
  have hall:=all_seen ents seen hz
  have hnil:zfn L seen=[]:=by
   unfold zfn
   have:((List.range L.length).filter fun i=>!seen.contains i)=[]:=by
    rw [List.filter_eq_nil_iff]
    intro i hi
    have hi:=List.mem_range.1 hi
    obtain ⟨kv,xv,e1,_⟩:=h3 i L[i].1 L[i].2 (List.getElem?_eq_getElem hi)
    have:=hall _ (Array.mem_toList_iff.2 (Array.mem_of_getElem? e1))
    simp only at this
    rw [this]
    decide
   rw [this]
   rfl
  rw [hnil] at h6
  have hl:=h6.eq_nil
  have:=H0 hl β0 S0 w0 β S w _ hβ (by rw [zbu];exact hn) x0 r0 (rt.put (d:=some d) (x:=.tup [.bl false]) (y:=.tuple #[.bool false]) hdd (.d _ _ (.tup [.bl false] [.bool false] rfl (fun i p q hp hq=>by
   cases i with
   | zero=>simp at hp hq;subst hp;subst hq;exact .bl _
   | succ i=>simp at hp)))) hf ⟨L,ents,seen,c0,h1,h2,h3,h4,h5,by rw [hnil],by simp⟩
  simp only [kont,Exit.then] at this
  rw [hd]
  exact this
 ·have hrun':(execOp (Act.eval ⟨tmps,[]⟩) o).run E.P w=.ok (.value (.tuple #[.bool true,e.key,e.val])) (ChangeMaps.setBlock w1 gi (.mapIter (some gm) L.length (seen.push e.born) L.length)):=by
   simp only [execOp,hop,Act.eval,hev,hrun,Sem.run_bind,Result.andThen_ok,Sem.run_pure]
  rw [hrun',Oper.upon_value,za4]
  refine hK _ _ ?_
  obtain ⟨hem,hes⟩:=mem_left he
  obtain ⟨hei,hel⟩:=hb1 e hem
  have hLi:L[e.born]?=some L[e.born]:=List.getElem?_eq_getElem hel
  obtain ⟨kv,xv,e1,e2,e3⟩:=h3 e.born L[e.born].1 L[e.born].2 hLi
  rw [hei] at e1
  have hstep:=znz hLi hes
  have hmem:L[e.born]∈l:=h6.mem_iff.2 (hstep.mem_iff.2 (by simp))
  obtain ⟨j,hj⟩:=List.getElem?_of_mem hmem
  have hperm:(l.eraseIdx j).Perm (zfn L (seen.push e.born)):=by
   have:=(zgl l j _ hj).symm.trans (h6.trans hstep)
   exact this.cons_inv
  have t:Touch gi w (ChangeMaps.setBlock w1 gi (.mapIter (some gm) L.length (seen.push e.born) L.length)):=zmU hw1
  have hg:gi∈[gm,gi]:=by simp
  have hcell:∀ a,S a→(ChangeMaps.setBlock w1 gi (.mapIter (some gm) L.length (seen.push e.born) L.length)).cell? a=w.cell? a:=fun a ha=>t.cell (hf.sep gi hg a ha)
  have hkk:e.key=kv∧e.val=xv:=by
   have h9:e=⟨kv,xv,e.born⟩:=by injection e1
   exact ⟨congrArg MapEntry.key h9,congrArg MapEntry.val h9⟩
  have rt2:=(rt.touch (E:=E) t hf hg).put (d:=some d) (x:=.tup [.bl true,L[e.born].1,L[e.born].2]) (y:=.tuple #[.bool true,e.key,e.val]) hdd (.d _ _ (.tup [.bl true,L[e.born].1,L[e.born].2] [.bool true,e.key,e.val] rfl (fun i p q hp hq=>by
   match i,hp,hq with
   | 0,hp,hq=>simp at hp hq;subst hp;subst hq;exact .bl _
   | 1,hp,hq=>simp at hp hq;subst hp;subst hq;rw [hkk.1];exact e2.mono (fun _ h=>h) hcell
   | 2,hp,hq=>simp at hp hq;subst hp;subst hq;rw [hkk.2];exact e3.mono (fun _ h=>h) hcell
   | i+3,hp,hq=>simp at hp)))
  have hit:ItF gm gi (l.eraseIdx j) (some (L[e.born].1,L[e.born].2)) S (ChangeMaps.setBlock w1 gi (.mapIter (some gm) L.length (seen.push e.born) L.length)):=by
   refine ⟨L,ents,seen.push e.born,L.length,(t.other gm hne).trans h1,h2,fun i k x hi=>?_,?_,Nat.le_refl _,hperm,fun p hp=>⟨seen,e.born,rfl,by rw [hLi];exact hp,rfl⟩⟩
   ·obtain ⟨kv,xv,a1,a2,a3⟩:=h3 i k x hi
    exact ⟨kv,xv,a1,a2.mono (fun _ h=>h) hcell,a3.mono (fun _ h=>h) hcell⟩
   ·have hlt:gi < w1.heap.size:=by
     have:=(Array.getElem?_eq_some_iff.1 h4).1
     rcases hw1 with rfl|rfl <;> exact this
    simp [ChangeMaps.setBlock,hlt]
  have:=H1 j L[e.born].1 L[e.born].2 hj β0 S0 w0 β S _ _ hβ (by rw [zbu];exact hn) (x0.touch t hf hg (by simp)) (r0.touch t hf hg) rt2 (hf.touch t) hit
  simp only [kont,Exit.then] at this
  rw [hd]
  exact this
theorem zle {E:Env0} {fn:Func} {h0 h:Heap} {all r:List Oper} {o:Oper} {k:List It} {n:Nat} {ts:TS} {R:AV→Heap→Prop} {gm gi ti d:Nat} {l:List (AV × AV)} {kx x:AV} (hop:o.op=.entry (.tmp ti)) (hgd:o.guard=none) (hd:o.dst=some d) (hdn:d < n)
  (hm:look ts ti=.v (.pointer (some ⟨gi,0,none⟩)))
  (H:zaR E fn h0 [gm,gi] (ItF gm gi l (some (kx,x))) ⟨n,.ops all r::k,(d,.tup [kx,x])::ts,h⟩ R) :
  zaR E fn h0 [gm,gi] (ItF gm gi l (some (kx,x))) ⟨n,.ops all (o::r)::k,ts,h⟩ R:=by
 intro β0 S0 w0 β S w tmps hβ hn x0 r0 rt hf hw
 have hw0:=hw
 obtain ⟨L,ents,seen,c0,h1,h2,h3,h4,h5,h6,h7⟩:=hw
 simp only at hn x0 r0 rt
 have hmv:=rt ti
 rw [hm] at hmv
 have hev:=hmv.v_inv
 obtain ⟨hb1,hb2⟩:=zgK h2 h3
 obtain ⟨s',i,rfl,hi,rfl⟩:=h7 _ rfl
 obtain ⟨kv,xv,e1,e2,e3⟩:=h3 i kx x hi
 simp only [kont,Exit.then]
 refine wpList_step fun K hK=>?_
 show wpG E.P all.toArray o ⟨tmps,[]⟩ w K _
 unfold wpG
 rw [if_pos (by simp [Region.wanted,hgd])]
 unfold Oper.wp
 have hrun:=run_entry_at (P:=E.P) w gi gm L.length s' ents L.length ⟨kv,xv,i⟩ h4 h1 (Array.mem_toList_iff.2 (Array.mem_of_getElem? e1)) hb2
 have hrun':(execOp (Act.eval ⟨tmps,[]⟩) o).run E.P w=.ok (.value (.tuple #[kv,xv])) w:=by
  simp only [execOp,hop,Act.eval,hev,hrun,Sem.run_bind,Result.andThen_ok,Sem.run_pure]
 rw [hrun',Oper.upon_value,za4]
 refine hK _ _ ?_
 have:=H β0 S0 w0 β S w _ hβ (by rw [zbu];exact hn) x0 r0 (rt.put (d:=some d) (x:=.tup [kx,x]) (y:=.tuple #[kv,xv]) (by simp only [zat];exact Nat.ble_eq_true_of_le (by rw [hn];exact hdn)) (.d _ _ (.tup [kx,x] [kv,xv] rfl (fun i p q hp hq=>by
  match i,hp,hq with
  | 0,hp,hq=>simp at hp hq;subst hp;subst hq;exact e2
  | 1,hp,hq=>simp at hp hq;subst hp;subst hq;exact e3
  | i+2,hp,hq=>simp at hp)))) hf hw0
 simp only [kont,Exit.then] at this
 rw [hd]
 exact this
end Go.AM
