/-
  Contracts of the program's functions, part 2.
-/
import Derived.Test.YtgcogmkidchfjaaGreatClB
import Derived.Test.YtgcogmkidchfjaaGreatProg
import Derived.KernelRfl
import Derived.Laws.StructEq
import Derived.Laws.Externs
import Derived.Lib.Bytealg
import Derived.WideKeyRuns
import Derived.Laws.IdiomRangeMap
import Derived.Maps.RangeRun
set_option maxRecDepth 100000
set_option maxHeartbeats 40000000
set_option linter.unusedSimpArgs false
set_option linter.unusedVariables false
namespace Go.AM
theorem kr {p : Prop} (h : p := by kernel_rfl) : p := h
theorem Zo {p:Prop} (h:p:=by omega):p:=h
theorem Zf:false=false:=rfl
theorem Zt:true=true:=rfl
abbrev Zs0:ByteArray:=ByteArray.mk #[]
abbrev ZsO:ByteArray:=ByteArray.mk #[79,76,68]
abbrev ZsN:ByteArray:=ByteArray.mk #[78,69,87]
abbrev ZsI:ByteArray:=ByteArray.mk #[73,78,83,69,82,84,69,68]
abbrev ZsD:ByteArray:=ByteArray.mk #[68,69,76,69,84,69,68]
abbrev Zsi:ByteArray:=ByteArray.mk #[105,100]
abbrev Zsn:ByteArray:=ByteArray.mk #[110]
abbrev Zsu:ByteArray:=ByteArray.mk #[117]
abbrev Zsl:ByteArray:=ByteArray.mk #[108,111,103]
theorem Zs {p:Prop} (h:p:=by simp):p:=h
theorem Za {p:Prop} (h:p:=by first|assumption|rfl|omega):p:=h
theorem Zp {p:Prop} (h:p:=by simp;omega):p:=h
theorem Zr {p:Prop} (h:p:=by rfl):p:=h
theorem Zb {p:Prop} (h:p:=by first|assumption|omega):p:=h
theorem Zj {p:Prop} (h:p:=by exact ⟨rfl,rfl⟩):p:=h
theorem Zd {p:Prop} (h:p:=by decide):p:=h
theorem Zg {p:Prop} (h:p:=by first|rfl|assumption):p:=h
namespace S
abbrev AF:FuncId:=3
abbrev BA:FuncId:=4
abbrev Ab:FuncId:=5
abbrev AI:FuncId:=6
abbrev B4:FuncId:=7
abbrev B3:FuncId:=8
abbrev Cd:FuncId:=9
abbrev Al:FuncId:=10
abbrev AW:FuncId:=11
abbrev Bn:FuncId:=12
abbrev B8:FuncId:=13
abbrev A5:FuncId:=14
abbrev B9:FuncId:=15
abbrev Av:FuncId:=16
abbrev Aj:FuncId:=17
abbrev BQ:FuncId:=18
abbrev BG:FuncId:=19
abbrev Az:FuncId:=20
abbrev A0:FuncId:=21
abbrev Ah:FuncId:=22
abbrev Bt:FuncId:=23
abbrev BU:FuncId:=24
abbrev Bq:FuncId:=25
abbrev Ap:FuncId:=26
abbrev Cg:FuncId:=27
abbrev Ae:FuncId:=28
abbrev Br:FuncId:=29
abbrev AG:FuncId:=30
abbrev BF:FuncId:=31
abbrev Ad:FuncId:=32
abbrev AP:FuncId:=33
abbrev Aw:FuncId:=34
abbrev Bi:FuncId:=35
abbrev Aa:FuncId:=36
abbrev Ak:FuncId:=37
abbrev AQ:FuncId:=38
abbrev A3:FuncId:=39
abbrev Ac:FuncId:=40
abbrev Bk:FuncId:=44
abbrev A2:FuncId:=46
abbrev Bj:FuncId:=47
abbrev BB:FuncId:=48
abbrev Be:FuncId:=49
abbrev AC:FuncId:=50
abbrev BJ:FuncId:=51
abbrev Ba:FuncId:=52
abbrev Ca:FuncId:=53
abbrev AA:FuncId:=54
abbrev As:FuncId:=55
abbrev Af:FuncId:=56
abbrev BN:FuncId:=57
abbrev AT:FuncId:=58
abbrev Bf:FuncId:=59
abbrev AH:FuncId:=60
abbrev AS:FuncId:=61
abbrev Bg:FuncId:=62
abbrev AO:FuncId:=63
abbrev A6:FuncId:=64
abbrev AX:FuncId:=65
abbrev AB:FuncId:=74
abbrev Bb:FuncId:=75
abbrev Aq:FuncId:=76
abbrev Bo:FuncId:=77
abbrev BD:FuncId:=78
abbrev A8:FuncId:=81
abbrev AD:FuncId:=82
abbrev BK:FuncId:=83
abbrev Ax:FuncId:=84
abbrev BY:FuncId:=85
abbrev At:FuncId:=86
abbrev BH:FuncId:=87
abbrev BV:FuncId:=88
abbrev BI:FuncId:=89
abbrev BZ:FuncId:=92
abbrev An:FuncId:=93
abbrev B6:FuncId:=94
abbrev Ag:FuncId:=95
abbrev B0:FuncId:=96
abbrev B7:FuncId:=97
abbrev B1:FuncId:=98
abbrev Cb:FuncId:=99
abbrev AJ:FuncId:=100
abbrev Bl:FuncId:=101
abbrev AY:FuncId:=102
abbrev AM:FuncId:=103
abbrev AU:FuncId:=104
abbrev AV:FuncId:=105
abbrev A9:FuncId:=106
abbrev A1:FuncId:=107
abbrev Bu:FuncId:=108
abbrev AR:FuncId:=113
abbrev BR:FuncId:=114
abbrev BS:FuncId:=115
abbrev Ay:FuncId:=116
abbrev BL:FuncId:=117
abbrev B2:FuncId:=118
abbrev B5:FuncId:=119
abbrev Bv:FuncId:=120
abbrev Ar:FuncId:=121
abbrev Ce:FuncId:=122
abbrev Bh:FuncId:=124
abbrev BT:FuncId:=125
abbrev Bs:FuncId:=126
abbrev BO:FuncId:=127
abbrev Cf:FuncId:=128
abbrev AZ:FuncId:=130
abbrev Bw:FuncId:=138
abbrev Bx:FuncId:=139
abbrev AK:FuncId:=140
abbrev BE:FuncId:=141
abbrev AN:FuncId:=143
abbrev BW:FuncId:=145
abbrev By:FuncId:=152
abbrev Bz:FuncId:=157
abbrev Cc:FuncId:=161
abbrev BM:FuncId:=162
abbrev BC:FuncId:=163
abbrev Ai:FuncId:=164
abbrev BX:FuncId:=173
abbrev A7:FuncId:=175
abbrev A4:FuncId:=176
abbrev AL:FuncId:=192
abbrev Bm:FuncId:=197
abbrev Bc:FuncId:=211
abbrev Bd:FuncId:=215
abbrev AE:FuncId:=216
abbrev Bp:FuncId:=217
abbrev Au:FuncId:=221
abbrev BP:FuncId:=227
abbrev Ao:FuncId:=254
abbrev Am:FuncId:=260
end S
namespace Ty
abbrev int:TypeId:=3
abbrev bool:TypeId:=4
abbrev string:TypeId:=9
abbrev Table:TypeId:=46
abbrev LExpr:TypeId:=55
abbrev Trigger:TypeId:=58
abbrev Action:TypeId:=70
abbrev Column:TypeId:=72
abbrev Link:TypeId:=76
abbrev Rank:TypeId:=96
abbrev M_Link_bool:TypeId:=105
abbrev Row:TypeId:=121
abbrev Value:TypeId:=124
abbrev Query:TypeId:=128
abbrev Expr:TypeId:=131
abbrev Set:TypeId:=176
abbrev M_Value_bool:TypeId:=190
abbrev Edge:TypeId:=210
end Ty
noncomputable abbrev ZT1:TI:=⟨.scalar,1,8,[.v .nilFunc]⟩
noncomputable abbrev ZT0:TI:=⟨.scalar,0,0,[]⟩
noncomputable def tabA:List TI:=[
ZT0,ZT1, ⟨.int .i64,1,8,[(.v (.int .i64 0))]⟩,
 ⟨.int .i64,1,8,[(.v (.int .i64 0))]⟩,
 ⟨.bool,1,1,[.bl false]⟩,
 ⟨.int .u8,1,1,[(.v (.int .u8 0))]⟩,
 ⟨.int .u8,1,1,[(.v (.int .u8 0))]⟩,
 ⟨.struct [0,1,2,3],4,24,[(.v (.int .i64 0)),(.v (.int .i64 0)),.bl false,(.v (.int .u8 0))]⟩,
 ⟨.struct [0,1,2,3],4,24,[(.v (.int .i64 0)),(.v (.int .i64 0)),.bl false,(.v (.int .u8 0))]⟩,
 ⟨.str,1,16,[.v (.string ⟨#[]⟩)]⟩,
 ⟨.str,1,16,[.v (.string ⟨#[]⟩)]⟩,
 ⟨.str,1,16,[.v (.string ⟨#[]⟩)]⟩,
 ⟨.int .u64,1,8,[(.v (.int .u64 0))]⟩,
 ⟨.struct [0,1],2,24,[.v (.string ⟨#[]⟩),(.v (.int .u64 0))]⟩,
 ⟨.struct [0,1],2,24,[.v (.string ⟨#[]⟩),(.v (.int .u64 0))]⟩,
 ⟨.scalar,1,8,[.v (.pointer none)]⟩,
 ⟨.scalar,1,8,[.v (.pointer none)]⟩,
 ⟨.scalar,1,8,[.v (.pointer none)]⟩,
 ⟨.struct [0],1,8,[.v (.pointer none)]⟩,
 ⟨.struct [0],1,8,[.v (.pointer none)]⟩,
 ⟨.scalar,1,16,[.v .nilIface]⟩,
 ⟨.int .i32,1,4,[(.v (.int .i32 0))]⟩,
 ⟨.slice 46,1,24,[.nl]⟩,
 ⟨.slice 58,1,24,[.nl]⟩,
 ⟨.slice 76,1,24,[.nl]⟩,
 ⟨.struct [0,1,2],3,72,[.nl,.nl,.nl]⟩,
 ⟨.struct [0,1,2],3,72,[.nl,.nl,.nl]⟩,
 ⟨.slice 72,1,24,[.nl]⟩,
 ⟨.struct [0,1],2,40,[.v (.string ⟨#[]⟩),.nl]⟩,
 ⟨.struct [0,1],2,40,[.v (.string ⟨#[]⟩),.nl]⟩,
ZT1, ⟨.slice 5,1,24,[.nl]⟩,
 ⟨.int .i64,1,8,[(.v (.int .i64 0))]⟩,
ZT0,ZT1,ZT1,ZT1,ZT1,ZT1, ⟨.slice 29,1,24,[.nl]⟩,
ZT1,ZT1,ZT1,ZT1, ⟨.slice 121,1,24,[.nl]⟩,
 ⟨.struct [0,2,3],4,72,[.v (.string ⟨#[]⟩),.nl,(.v (.int .i64 0)),.nl]⟩,
 ⟨.struct [0,2,3],4,72,[.v (.string ⟨#[]⟩),.nl,(.v (.int .i64 0)),.nl]⟩,
ZT0,ZT1,ZT1,ZT0,ZT1,ZT1, ⟨.slice 9,1,24,[.nl]⟩,
 ⟨.slice 96,1,24,[.nl]⟩,
 ⟨.slice 131,1,24,[.nl]⟩,
 ⟨.slice 70,1,24,[.nl]⟩,
 ⟨.struct [0,1,2,3,4,5,6,7,8,9,10],11,200,[.v (.string ⟨#[]⟩),.v (.string ⟨#[]⟩),.bl false,(.v (.int .i64 0)),.nl,.bl false,.nl,.nl,.nl,.nl,.nl]⟩,
 ⟨.struct [0,1,2,3,4,5,6,7,8,9,10],11,200,[.v (.string ⟨#[]⟩),.v (.string ⟨#[]⟩),.bl false,(.v (.int .i64 0)),.nl,.bl false,.nl,.nl,.nl,.nl,.nl]⟩,
ZT1,ZT1,ZT1, ⟨.struct [0,1],2,32,[(.v (.int .i64 0)),.nl]⟩,
 ⟨.struct [0,1],2,32,[(.v (.int .i64 0)),.nl]⟩,
ZT0,ZT1, ⟨.slice 55,1,24,[.nl]⟩,
 ⟨.slice 128,1,24,[.nl]⟩,
 ⟨.slice 176,1,24,[.nl]⟩,
 ⟨.struct [0,1,2,3,4,5,6],7,136,[(.v (.int .i64 0)),.v (.string ⟨#[]⟩),.nl,.nl,.nl,.nl,.v (.string ⟨#[]⟩)]⟩,
 ⟨.struct [0,1,2,3,4,5,6],7,136,[(.v (.int .i64 0)),.v (.string ⟨#[]⟩),.nl,.nl,.nl,.nl,.v (.string ⟨#[]⟩)]⟩,
 ⟨.struct [0,1,2,3],4,32,[.v (.string ⟨#[]⟩),(.v (.int .i64 0)),.bl false,.bl false]⟩,
 ⟨.struct [0,1,2,3],4,32,[.v (.string ⟨#[]⟩),(.v (.int .i64 0)),.bl false,.bl false]⟩,
ZT1,ZT1, ⟨.struct [0,1],2,32,[.v (.string ⟨#[]⟩),.v (.string ⟨#[]⟩)]⟩,
 ⟨.struct [0,1],2,32,[.v (.string ⟨#[]⟩),.v (.string ⟨#[]⟩)]⟩,
ZT1,ZT1,ZT1,ZT1,ZT1,ZT1,ZT1,ZT1,ZT1,ZT1,ZT1,ZT0,ZT1,ZT1,ZT1,ZT1,ZT1,ZT1, ⟨.struct [0,1,2,3],4,48,[.v (.string ⟨#[]⟩),.v (.string ⟨#[]⟩),(.v (.int .i64 0)),(.v (.int .i64 0))]⟩,
 ⟨.struct [0,1,2,3],4,48,[.v (.string ⟨#[]⟩),.v (.string ⟨#[]⟩),(.v (.int .i64 0)),(.v (.int .i64 0))]⟩,
ZT1,ZT1,ZT1,ZT1,ZT0,ZT1,ZT1,ZT1, ⟨.map 76 4,1,8,[.v (.map none)]⟩,
ZT1,ZT1,ZT1,ZT1,ZT1,ZT1,ZT1,ZT1,ZT1,ZT1,ZT1,ZT1, ⟨.int .u64,1,8,[(.v (.int .u64 0))]⟩,
 ⟨.slice 124,1,24,[.nl]⟩,
 ⟨.struct [0,1],2,32,[(.v (.int .i64 0)),.nl]⟩,
 ⟨.struct [0,1],2,32,[(.v (.int .i64 0)),.nl]⟩,
ZT1, ⟨.struct [0,1,2],3,32,[(.v (.int .i64 0)),(.v (.int .i64 0)),.v (.string ⟨#[]⟩)]⟩,
 ⟨.struct [0,1,2],3,32,[(.v (.int .i64 0)),(.v (.int .i64 0)),.v (.string ⟨#[]⟩)]⟩,
ZT1,ZT1, ⟨.struct [0,1,2,3],4,72,[.bl false,.nl,.v (.string ⟨#[]⟩),.nl]⟩,
 ⟨.struct [0,1,2,3],4,72,[.bl false,.nl,.v (.string ⟨#[]⟩),.nl]⟩,
ZT1, ⟨.struct [0,1,2,3,6,7,8,9],10,136,[(.v (.int .i64 0)),(.v (.int .i64 0)),.bl false,(.v (.int .i64 0)),(.v (.int .i64 0)),.v (.string ⟨#[]⟩),.v (.string ⟨#[]⟩),.v (.string ⟨#[]⟩),.nl,.nl]⟩,
 ⟨.struct [0,1,2,3,6,7,8,9],10,136,[(.v (.int .i64 0)),(.v (.int .i64 0)),.bl false,(.v (.int .i64 0)),(.v (.int .i64 0)),.v (.string ⟨#[]⟩),.v (.string ⟨#[]⟩),.v (.string ⟨#[]⟩),.nl,.nl]⟩,
ZT1,ZT1,ZT1,ZT1,ZT1,ZT1,ZT1,ZT1,ZT1,ZT1,ZT1,ZT0,ZT1,ZT1, ⟨.slice 192,1,24,[.nl]⟩,
ZT1,ZT1,ZT1, ⟨.slice 198,1,24,[.nl]⟩,
 ⟨.struct [0,1,2,3],4,88,[.v (.string ⟨#[]⟩),.nl,.nl,.nl]⟩,
 ⟨.struct [0,1,2,3],4,88,[.v (.string ⟨#[]⟩),.nl,.nl,.nl]⟩,
ZT1,ZT1,ZT1,ZT1, ⟨.slice 3,1,24,[.nl]⟩,
ZT1,ZT1, ⟨.slice 210,1,24,[.nl]⟩,
ZT1,ZT1,ZT1,ZT1,ZT1,ZT1,ZT1,ZT1,ZT1,ZT1,ZT1,ZT1,ZT1,ZT1, ⟨.struct [0,1],11,152,[.v (.string ⟨#[]⟩),(.v (.int .i64 0)),(.v (.int .i64 0)),.bl false,(.v (.int .i64 0)),(.v (.int .i64 0)),.v (.string ⟨#[]⟩),.v (.string ⟨#[]⟩),.v (.string ⟨#[]⟩),.nl,.nl]⟩,
 ⟨.struct [0,1],11,152,[.v (.string ⟨#[]⟩),(.v (.int .i64 0)),(.v (.int .i64 0)),.bl false,(.v (.int .i64 0)),(.v (.int .i64 0)),.v (.string ⟨#[]⟩),.v (.string ⟨#[]⟩),.v (.string ⟨#[]⟩),.nl,.nl]⟩,
ZT1,ZT1,ZT1,ZT1,ZT1,ZT1, ⟨.slice 53,1,24,[.nl]⟩,
ZT1,ZT1,ZT1,ZT1,ZT1,ZT1, ⟨.map 124 4,1,8,[.v (.map none)]⟩,
 ⟨.struct [0,1,2,3],4,72,[.v (.string ⟨#[]⟩),.bl false,.nl,.nl]⟩,
 ⟨.struct [0,1,2,3],4,72,[.v (.string ⟨#[]⟩),.bl false,.nl,.nl]⟩,
 ⟨.slice 22,1,24,[.nl]⟩,
ZT1,ZT1,ZT1, ⟨.struct [0,1,2],3,56,[(.v (.int .i64 0)),.nl,.nl]⟩,
 ⟨.struct [0,1,2],3,56,[(.v (.int .i64 0)),.nl,.nl]⟩,
ZT1,ZT0,ZT1,ZT1,ZT1, ⟨.int .u64,1,8,[(.v (.int .u64 0))]⟩,
ZT1,ZT1,ZT1, ⟨.array 64 204,64,512,[(.v (.int .u64 0)),(.v (.int .u64 0)),(.v (.int .u64 0)),(.v (.int .u64 0)),(.v (.int .u64 0)),(.v (.int .u64 0)),(.v (.int .u64 0)),(.v (.int .u64 0)),(.v (.int .u64 0)),(.v (.int .u64 0)),(.v (.int .u64 0)),(.v (.int .u64 0)),(.v (.int .u64 0)),(.v (.int .u64 0)),(.v (.int .u64 0)),(.v (.int .u64 0)),(.v (.int .u64 0)),(.v (.int .u64 0)),(.v (.int .u64 0)),(.v (.int .u64 0)),(.v (.int .u64 0)),(.v (.int .u64 0)),(.v (.int .u64 0)),(.v (.int .u64 0)),(.v (.int .u64 0)),(.v (.int .u64 0)),(.v (.int .u64 0)),(.v (.int .u64 0)),(.v (.int .u64 0)),(.v (.int .u64 0)),(.v (.int .u64 0)),(.v (.int .u64 0)),(.v (.int .u64 0)),(.v (.int .u64 0)),(.v (.int .u64 0)),(.v (.int .u64 0)),(.v (.int .u64 0)),(.v (.int .u64 0)),(.v (.int .u64 0)),(.v (.int .u64 0)),(.v (.int .u64 0)),(.v (.int .u64 0)),(.v (.int .u64 0)),(.v (.int .u64 0)),(.v (.int .u64 0)),(.v (.int .u64 0)),(.v (.int .u64 0)),(.v (.int .u64 0)),(.v (.int .u64 0)),(.v (.int .u64 0)),(.v (.int .u64 0)),(.v (.int .u64 0)),(.v (.int .u64 0)),(.v (.int .u64 0)),(.v (.int .u64 0)),(.v (.int .u64 0)),(.v (.int .u64 0)),(.v (.int .u64 0)),(.v (.int .u64 0)),(.v (.int .u64 0)),(.v (.int .u64 0)),(.v (.int .u64 0)),(.v (.int .u64 0)),(.v (.int .u64 0))]⟩,
 ⟨.struct [0,1],2,16,[(.v (.int .i64 0)),(.v (.int .i64 0))]⟩,
 ⟨.struct [0,1],2,16,[(.v (.int .i64 0)),(.v (.int .i64 0))]⟩,
ZT1,ZT1,ZT1,ZT1, ⟨.slice 218,1,24,[.nl]⟩,
ZT1, ⟨.struct [0,1,2],3,48,[.v (.string ⟨#[]⟩),(.v (.int .i64 0)),.nl]⟩,
 ⟨.struct [0,1,2],3,48,[.v (.string ⟨#[]⟩),(.v (.int .i64 0)),.nl]⟩,
ZT1,ZT1,ZT1, ⟨.slice 227,1,24,[.nl]⟩,
ZT1,ZT1,ZT1, ⟨.struct [0,1,2],3,40,[.v (.string ⟨#[]⟩),.v (.string ⟨#[]⟩),(.v (.int .i64 0))]⟩,
 ⟨.struct [0,1,2],3,40,[.v (.string ⟨#[]⟩),.v (.string ⟨#[]⟩),(.v (.int .i64 0))]⟩,
ZT1,ZT1,ZT0,ZT1,ZT1,ZT1,ZT1,ZT1,ZT1,ZT0,ZT1,ZT1,ZT1, ⟨.int .i64,1,8,[(.v (.int .i64 0))]⟩,
ZT0,ZT1,ZT1,ZT1,ZT1,ZT1, ⟨.int .u32,1,4,[(.v (.int .u32 0))]⟩,
ZT1,ZT1,ZT1,ZT1,ZT1,ZT0,ZT1,ZT1,ZT0,ZT1,ZT1,ZT1,ZT0,ZT1,ZT0,ZT1,ZT1,ZT1,ZT1,ZT1,ZT1,ZT1,ZT1,ZT1,ZT1,ZT0,ZT1, ⟨.scalar,1,8,[.v (.pointer none)]⟩,
ZT1,ZT1,ZT1,ZT1,ZT1,ZT1,ZT1,ZT1,ZT1,ZT1,ZT1, ⟨.int .u64,1,8,[(.v (.int .u64 0))]⟩,
ZT1,ZT1,ZT1, ⟨.scalar,1,8,[.v (.pointer none)]⟩,
ZT1,ZT1,ZT0,ZT1,ZT1,ZT1,ZT0,ZT1,ZT1,ZT1,ZT1,ZT1,ZT1, ⟨.map 227 4,1,8,[.v (.map none)]⟩,
 ⟨.struct [0,1],2,32,[.nl,.v (.map none)]⟩,
 ⟨.struct [0,1],2,32,[.nl,.v (.map none)]⟩,
ZT1,ZT1,ZT1,ZT1,ZT1,ZT1,ZT1,ZT1,ZT1,ZT0,ZT1,ZT1,ZT1,ZT1,ZT1,ZT1,ZT1,ZT1,ZT1,ZT1,ZT1,ZT1,ZT1,ZT1, ⟨.scalar,1,8,[.v (.pointer none)]⟩,
ZT0,ZT1,ZT1,ZT1,ZT1, ⟨.slice 4,1,24,[.nl]⟩,
 ⟨.map 3 4,1,8,[.v (.map none)]⟩,
ZT1,ZT1,ZT1,ZT1,ZT1,ZT1,ZT1,ZT1,ZT1,ZT1,ZT1,ZT1,ZT1, ⟨.struct [0,1,2,3],4,40,[.v (.pointer none),.v (.pointer none),.v (.pointer none),.v (.string ⟨#[]⟩)]⟩,
 ⟨.struct [0,1,2,3],4,40,[.v (.pointer none),.v (.pointer none),.v (.pointer none),.v (.string ⟨#[]⟩)]⟩,
ZT0,ZT0,ZT0,ZT1, ⟨.int .u8,1,1,[(.v (.int .u8 0))]⟩,
 ⟨.int .u8,1,1,[(.v (.int .u8 0))]⟩,
ZT1, ⟨.scalar,1,8,[.v (.pointer none)]⟩,
 ⟨.int .i32,1,4,[(.v (.int .i32 0))]⟩,
 ⟨.int .i32,1,4,[(.v (.int .i32 0))]⟩,
 ⟨.struct [0,1,2,3,4,5,6,7,8,9,10],11,48,[(.v (.int .u64 0)),(.v (.int .u64 0)),(.v (.int .u32 0)),(.v (.int .u8 0)),(.v (.int .u8 0)),(.v (.int .u8 0)),(.v (.int .u8 0)),.v .nilFunc,.v (.pointer none),(.v (.int .i32 0)),(.v (.int .i32 0))]⟩,
 ⟨.struct [0,1,2,3,4,5,6,7,8,9,10],11,48,[(.v (.int .u64 0)),(.v (.int .u64 0)),(.v (.int .u32 0)),(.v (.int .u8 0)),(.v (.int .u8 0)),(.v (.int .u8 0)),(.v (.int .u8 0)),.v .nilFunc,.v (.pointer none),(.v (.int .i32 0)),(.v (.int .i32 0))]⟩,
 ⟨.scalar,0,0,[]⟩]
theorem znS:zgt Proofs.Tryz.prog tabA tabA.length=true:=by kernel_rfl
theorem mix_ok:Proofs.Tryz.prog.follows .mixedOrders=true:=by kernel_rfl
namespace B
open Proofs.Tryz
noncomputable abbrev AF:Func:=f3
noncomputable abbrev BA:Func:=f4
noncomputable abbrev Al:Func:=f10
noncomputable abbrev AW:Func:=f11
noncomputable abbrev Az:Func:=f20
noncomputable abbrev A0:Func:=f21
noncomputable abbrev Ah:Func:=f22
noncomputable abbrev Bt:Func:=f23
noncomputable abbrev Ap:Func:=f26
noncomputable abbrev Ae:Func:=f28
noncomputable abbrev AG:Func:=f30
noncomputable abbrev Ad:Func:=f32
noncomputable abbrev Aw:Func:=f34
noncomputable abbrev Bi:Func:=f35
noncomputable abbrev Aa:Func:=f36
noncomputable abbrev AQ:Func:=f38
noncomputable abbrev Ac:Func:=f40
noncomputable abbrev A2:Func:=f46
noncomputable abbrev Bj:Func:=f47
noncomputable abbrev Be:Func:=f49
noncomputable abbrev AC:Func:=f50
noncomputable abbrev BJ:Func:=f51
noncomputable abbrev AA:Func:=f54
noncomputable abbrev As:Func:=f55
noncomputable abbrev Af:Func:=f56
noncomputable abbrev AT:Func:=f58
noncomputable abbrev AH:Func:=f60
noncomputable abbrev AS:Func:=f61
noncomputable abbrev AO:Func:=f63
noncomputable abbrev AX:Func:=f65
noncomputable abbrev AB:Func:=f74
noncomputable abbrev Aq:Func:=f76
noncomputable abbrev Bo:Func:=f77
noncomputable abbrev A8:Func:=f81
noncomputable abbrev AD:Func:=f82
noncomputable abbrev Ax:Func:=f84
noncomputable abbrev At:Func:=f86
noncomputable abbrev An:Func:=f93
noncomputable abbrev Ag:Func:=f95
noncomputable abbrev AJ:Func:=f100
noncomputable abbrev AY:Func:=f102
noncomputable abbrev AU:Func:=f104
noncomputable abbrev AV:Func:=f105
noncomputable abbrev A1:Func:=f107
noncomputable abbrev AR:Func:=f113
noncomputable abbrev Bv:Func:=f120
noncomputable abbrev Ar:Func:=f121
noncomputable abbrev AZ:Func:=f130
noncomputable abbrev Bw:Func:=f138
noncomputable abbrev AK:Func:=f140
noncomputable abbrev AN:Func:=f143
noncomputable abbrev Ai:Func:=f164
noncomputable abbrev AL:Func:=f192
noncomputable abbrev Bm:Func:=f197
noncomputable abbrev Bc:Func:=f211
noncomputable abbrev Au:Func:=f221
noncomputable abbrev BP:Func:=f227
noncomputable abbrev Ao:Func:=f254
noncomputable abbrev Am:Func:=f260
end B
abbrev ZFn (n:FuncId) (f:Func):Prop:=Proofs.Tryz.prog.funcs[n]?=some f
namespace At
open Proofs.Tryz
theorem AF:ZFn S.AF B.AF:=func3
theorem BA:ZFn S.BA B.BA:=func4
theorem Ab:ZFn S.Ab f5:=func5
theorem AI:ZFn S.AI f6:=func6
theorem B4:ZFn S.B4 f7:=func7
theorem B3:ZFn S.B3 f8:=func8
theorem Cd:ZFn S.Cd f9:=func9
theorem Al:ZFn S.Al B.Al:=func10
theorem AW:ZFn S.AW B.AW:=func11
theorem Bn:ZFn S.Bn f12:=func12
theorem B8:ZFn S.B8 f13:=func13
theorem A5:ZFn S.A5 f14:=func14
theorem B9:ZFn S.B9 f15:=func15
theorem Av:ZFn S.Av f16:=func16
theorem Aj:ZFn S.Aj f17:=func17
theorem BQ:ZFn S.BQ f18:=func18
theorem BG:ZFn S.BG f19:=func19
theorem Az:ZFn S.Az B.Az:=func20
theorem A0:ZFn S.A0 B.A0:=func21
theorem Ah:ZFn S.Ah B.Ah:=func22
theorem Bt:ZFn S.Bt B.Bt:=func23
theorem BU:ZFn S.BU f24:=func24
theorem Bq:ZFn S.Bq f25:=func25
theorem Ap:ZFn S.Ap B.Ap:=func26
theorem Cg:ZFn S.Cg f27:=func27
theorem Ae:ZFn S.Ae B.Ae:=func28
theorem Br:ZFn S.Br f29:=func29
theorem AG:ZFn S.AG B.AG:=func30
theorem BF:ZFn S.BF f31:=func31
theorem Ad:ZFn S.Ad B.Ad:=func32
theorem AP:ZFn S.AP f33:=func33
theorem Aw:ZFn S.Aw B.Aw:=func34
theorem Bi:ZFn S.Bi B.Bi:=func35
theorem Aa:ZFn S.Aa B.Aa:=func36
theorem Ak:ZFn S.Ak f37:=func37
theorem AQ:ZFn S.AQ B.AQ:=func38
theorem A3:ZFn S.A3 f39:=func39
theorem Ac:ZFn S.Ac B.Ac:=func40
theorem Bk:ZFn S.Bk f44:=func44
theorem A2:ZFn S.A2 B.A2:=func46
theorem Bj:ZFn S.Bj B.Bj:=func47
theorem BB:ZFn S.BB f48:=func48
theorem Be:ZFn S.Be B.Be:=func49
theorem AC:ZFn S.AC B.AC:=func50
theorem BJ:ZFn S.BJ B.BJ:=func51
theorem Ba:ZFn S.Ba f52:=func52
theorem Ca:ZFn S.Ca f53:=func53
theorem AA:ZFn S.AA B.AA:=func54
theorem As:ZFn S.As B.As:=func55
theorem Af:ZFn S.Af B.Af:=func56
theorem BN:ZFn S.BN f57:=func57
theorem AT:ZFn S.AT B.AT:=func58
theorem Bf:ZFn S.Bf f59:=func59
theorem AH:ZFn S.AH B.AH:=func60
theorem AS:ZFn S.AS B.AS:=func61
theorem Bg:ZFn S.Bg f62:=func62
theorem AO:ZFn S.AO B.AO:=func63
theorem A6:ZFn S.A6 f64:=func64
theorem AX:ZFn S.AX B.AX:=func65
theorem AB:ZFn S.AB B.AB:=func74
theorem Bb:ZFn S.Bb f75:=func75
theorem Aq:ZFn S.Aq B.Aq:=func76
theorem Bo:ZFn S.Bo B.Bo:=func77
theorem BD:ZFn S.BD f78:=func78
theorem A8:ZFn S.A8 B.A8:=func81
theorem AD:ZFn S.AD B.AD:=func82
theorem BK:ZFn S.BK f83:=func83
theorem Ax:ZFn S.Ax B.Ax:=func84
theorem BY:ZFn S.BY f85:=func85
theorem At:ZFn S.At B.At:=func86
theorem BH:ZFn S.BH f87:=func87
theorem BV:ZFn S.BV f88:=func88
theorem BI:ZFn S.BI f89:=func89
theorem BZ:ZFn S.BZ f92:=func92
theorem An:ZFn S.An B.An:=func93
theorem B6:ZFn S.B6 f94:=func94
theorem Ag:ZFn S.Ag B.Ag:=func95
theorem B0:ZFn S.B0 f96:=func96
theorem B7:ZFn S.B7 f97:=func97
theorem B1:ZFn S.B1 f98:=func98
theorem Cb:ZFn S.Cb f99:=func99
theorem AJ:ZFn S.AJ B.AJ:=func100
theorem Bl:ZFn S.Bl f101:=func101
theorem AY:ZFn S.AY B.AY:=func102
theorem AM:ZFn S.AM f103:=func103
theorem AU:ZFn S.AU B.AU:=func104
theorem AV:ZFn S.AV B.AV:=func105
theorem A9:ZFn S.A9 f106:=func106
theorem A1:ZFn S.A1 B.A1:=func107
theorem Bu:ZFn S.Bu f108:=func108
theorem AR:ZFn S.AR B.AR:=func113
theorem BR:ZFn S.BR f114:=func114
theorem BS:ZFn S.BS f115:=func115
theorem Ay:ZFn S.Ay f116:=func116
theorem BL:ZFn S.BL f117:=func117
theorem B2:ZFn S.B2 f118:=func118
theorem B5:ZFn S.B5 f119:=func119
theorem Bv:ZFn S.Bv B.Bv:=func120
theorem Ar:ZFn S.Ar B.Ar:=func121
theorem Ce:ZFn S.Ce f122:=func122
theorem Bh:ZFn S.Bh f124:=func124
theorem BT:ZFn S.BT f125:=func125
theorem Bs:ZFn S.Bs f126:=func126
theorem BO:ZFn S.BO f127:=func127
theorem Cf:ZFn S.Cf f128:=func128
theorem AZ:ZFn S.AZ B.AZ:=func130
theorem Bw:ZFn S.Bw B.Bw:=func138
theorem Bx:ZFn S.Bx f139:=func139
theorem AK:ZFn S.AK B.AK:=func140
theorem BE:ZFn S.BE f141:=func141
theorem AN:ZFn S.AN B.AN:=func143
theorem BW:ZFn S.BW f145:=func145
theorem By:ZFn S.By f152:=func152
theorem Bz:ZFn S.Bz f157:=func157
theorem Cc:ZFn S.Cc f161:=func161
theorem BM:ZFn S.BM f162:=func162
theorem BC:ZFn S.BC f163:=func163
theorem Ai:ZFn S.Ai B.Ai:=func164
theorem BX:ZFn S.BX f173:=func173
theorem A7:ZFn S.A7 f175:=func175
theorem A4:ZFn S.A4 f176:=func176
theorem AL:ZFn S.AL B.AL:=func192
theorem Bm:ZFn S.Bm B.Bm:=func197
theorem Bc:ZFn S.Bc B.Bc:=func211
theorem Bd:ZFn S.Bd f215:=func215
theorem AE:ZFn S.AE f216:=func216
theorem Bp:ZFn S.Bp f217:=func217
theorem Au:ZFn S.Au B.Au:=func221
theorem BP:ZFn S.BP B.BP:=func227
theorem Ao:ZFn S.Ao B.Ao:=func254
theorem Am:ZFn S.Am B.Am:=func260
end At
theorem Rel.nilRow {E:Env0} {h:Heap} {β:List Con} {S:Addr->Prop} {w:World} (r:Rel E h β S w) (e:TypeId) (a:Option Addr) :
  Ext h β S w (h++[Blk.row e [] false]) (β++[.nil a]) S w/\Rel E (h++[Blk.row e [] false]) (β++[.nil a]) S w :=
 r.newRow e [] false (.nil a) ⟨⟨rfl,rfl,rfl,Nat.le_refl _,fun _ _=>rfl⟩,Nat.le_refl _⟩ (fun g hg=>by cases hg) rfl
theorem zfu {T:TypeId->TI} {h:Heap} {β:List Con} {S:Addr->Prop} {w:World} {v:Value} (hv:RelV T h β w S .nl v):∃ a,v=.slice a 0 0:=by
 cases hv with
 | d _ _ hd=>cases hd
 | nl a=>exact ⟨a,rfl⟩
theorem Rel.ownNil {E:Env0} {h:Heap} {β:List Con} {S:Addr->Prop} {w:World} (r:Rel E h β S w) (e:TypeId) (a:Option Addr) :
  RelV E.T (h++[Blk.row e [] false]) (β++[.nil a]) w S (.own h.length 0) (.slice a 0 0) :=
 .own _ _ _ e [] false (getElem?_append_new _ _) (Nat.le_refl _) (fun _=>by rw [← r.len,getElem?_append_new];rfl) rfl
theorem zm3 {E:Env0} {fn:Func} {h0:Heap} {c:Cfg} {R:AV->Heap->Prop} (t:Nat) (e:TypeId) (hc:look c.ts t=.nl)
  (hg:Good E fn h0 ⟨c.n,c.todo,(t,.own c.h.length 0)::c.ts,c.h++[Blk.row e [] false]⟩ R):Good E fn h0 c R:=by
 intro β0 S0 w0 β S w tmps hb0 hn x0 r rt
 have ht:=rt t
 rw [hc] at ht
 obtain ⟨a,ha⟩:=zfu ht
 obtain ⟨x1,r1⟩:=r.nilRow e a
 refine hg β0 S0 w0 _ S w tmps hb0 hn (x0.trans x1) r1 fun t'=>?_
 simp only [look]
 cases hb:Nat.beq t t' with
 | true =>
  have:=Nat.eq_of_beq_eq_true hb
  subst this
  simp only
  rw [ha]
  exact r.ownNil e a
 | false=>exact (rt t').ext x1
theorem zb1 {E:Env0} {fn:Func} {h0 H:Heap} {c:Cfg} {R:AV->Heap->Prop} (e:TypeId) (hg:Good E fn h0 c fun r h=>r=.nl/\h=H)
  (hR:R (.own H.length 0) (H++[Blk.row e [] false])):Good E fn h0 c R:=by
 intro β0 S0 w0 β S w tmps hb0 hn x0 r rt
 refine zbK (ziM fun en w' hp=>?_) _ _ _ _ (hg β0 S0 w0 β S w tmps hb0 hn x0 r rt)
 obtain ⟨y,h',β',S',v,he,⟨rfl,rfl⟩,r',x',hv⟩:=hp
 obtain ⟨a,rfl⟩:=zfu hv
 obtain ⟨x1,r1⟩:=r'.nilRow e a
 exact ⟨_,_,_,S',_,he,hR,r1,x'.trans x1,r'.ownNil e a⟩
theorem zdH {h:Heap} {β:List Con} {S:Addr->Prop} {w:World} {b:Nat} {cs:List AV} (hb:h[b]?=some (.box cs)) (cs':List AV):Ext h β S w (h.set b (.box cs')) β S w :=
 { Ext.refl h β S w with
  box:=fun b' cs1 h1=>by
   by_cases hbb:b=b'
   ·subst hbb
    exact ⟨cs',by rw [List.getElem?_set_self (List.getElem?_eq_some_iff.1 hb).1]⟩
   ·exact ⟨cs1,by rw [List.getElem?_set_ne hbb];exact h1⟩
  row:=fun b' e xs sh h1=>by
   have hbb:b≠b':=fun e=>by subst e;rw [hb] at h1;cases h1
   exact ⟨xs,sh,by rw [List.getElem?_set_ne hbb];exact h1,Nat.le_refl _,fun _=>rfl⟩
  mp:=fun b' es h1=>by
   have hbb:b≠b':=fun e=>by subst e;rw [hb] at h1;cases h1
   exact ⟨es,by rw [List.getElem?_set_ne hbb];exact h1⟩ }
theorem Rel.setBox {E:Env0} {h:Heap} {β:List Con} {S:Addr->Prop} {w:World} (r:Rel E h β S w) {b:Nat} {cs:List AV} (hb:h[b]?=some (.box cs)) (cs':List AV)
  (hc:∀ (g:Nat) (vs:List Value) (t:TypeId),β[b]?=some (.box g)->w.heap[g]?=some (.cells vs.toArray t (0,0))->cs.length=vs.length->(∀ (i:Nat) (x:AV) (y:Value),cs[i]?=some x->vs[i]?=some y->RelV E.T h β w S x y/\y.oneCell'=true) ->
   cs'.length=vs.length/\∀ (i:Nat) (x:AV) (y:Value),cs'[i]?=some x->vs[i]?=some y->RelV E.T h β w S x y/\y.oneCell'=true):Rel E (h.set b (.box cs')) β S w:=by
 have x:=zdH (β:=β) (S:=S) (w:=w) hb cs'
 have ne:∀ {b':Nat} {e:TypeId} {xs:List (List AV)} {sh:Bool},(h.set b (.box cs'))[b']?=some (.row e xs sh)->b≠b'/\h[b']?=some (.row e xs sh):=by
  intro b' e xs sh h1
  by_cases hbb:b=b'
  ·subst hbb
   rw [List.getElem?_set_self (List.getElem?_eq_some_iff.1 hb).1] at h1
   cases h1
  ·rw [List.getElem?_set_ne hbb] at h1
   exact ⟨hbb,h1⟩
 have nem:∀ {b':Nat} {es:List (AV × AV)},(h.set b (.box cs'))[b']?=some (.mp es)->h[b']?=some (.mp es):=by
  intro b' es h1
  by_cases hbb:b=b'
  ·subst hbb
   rw [List.getElem?_set_self (List.getElem?_eq_some_iff.1 hb).1] at h1
   cases h1
  ·rw [List.getElem?_set_ne hbb] at h1
   exact h1
 refine { r with len:=by simpa using r.len,box:=?_,row:=fun b' e xs sh h1=>r.row b' e xs sh (ne h1).2,mp:=fun b' es h1=>r.mp b' es (nem h1),free:=?_ }
 ·intro b' cs1 h1
  by_cases hbb:b=b'
  ·subst hbb
   rw [List.getElem?_set_self (List.getElem?_eq_some_iff.1 hb).1] at h1
   cases h1
   obtain ⟨g,vs,t,h2,h3,h4,h5⟩:=r.box b cs hb
   obtain ⟨h6,h7⟩:=hc g vs t h2 h3 h4 h5
   exact ⟨g,vs,t,h2,h3,h6,fun i y z hy hz=>⟨(h7 i y z hy hz).1.ext x,(h7 i y z hy hz).2⟩⟩
  ·rw [List.getElem?_set_ne hbb] at h1
   obtain ⟨g,vs,t,h2,h3,h4,h5⟩:=r.box b' cs1 h1
   exact ⟨g,vs,t,h2,h3,h4,fun i y z hy hz=>⟨(h5 i y z hy hz).1.ext x,(h5 i y z hy hz).2⟩⟩
 ·intro b' k g a h1 h2 h3 h4
  obtain ⟨e,xs,h5,h6⟩:=r.free b' k g a h1 h2 h3 h4
  have hbb:b≠b':=fun e=>by subst e;rw [hb] at h5;cases h5
  exact ⟨e,xs,by rw [List.getElem?_set_ne hbb];exact h5,h6⟩
theorem zkv {E:Env0} {fn:Func} {h0:Heap} {c:Cfg} {R:AV->Heap->Prop} (b i:Nat) (e:TypeId) {cs:List AV} (hb:c.h[b]?=some (.box cs)) (hi:cs[i]?=some .nl)
  (hg:Good E fn h0 ⟨c.n,c.todo,c.ts,(c.h++[Blk.row e [] false]).set b (.box (cs.set i (.own c.h.length 0)))⟩ R):Good E fn h0 c R:=by
 intro β0 S0 w0 β S w tmps hb0 hn x0 r rt
 obtain ⟨g,vs,t,h2,h3,h4,h5⟩:=r.box b cs hb
 have hil:i < vs.length:=by rw [← h4];exact (List.getElem?_eq_some_iff.1 hi).1
 have hv:=h5 i .nl vs[i] hi (by simp [hil])
 obtain ⟨a,ha⟩:=zfu hv.1
 obtain ⟨x1,r1⟩:=r.nilRow e a
 have hb1:(c.h++[Blk.row e [] false])[b]?=some (.box cs):=by rw [List.getElem?_append_left (List.getElem?_eq_some_iff.1 hb).1];exact hb
 have x2:=zdH (β:=β++[.nil a]) (S:=S) (w:=w) hb1 (cs.set i (.own c.h.length 0))
 have r2:=r1.setBox hb1 (cs.set i (.own c.h.length 0)) (fun g' vs' t' e2 e3 e4 e5=>by
  refine ⟨by simpa using e4,fun j x y hx hy=>?_⟩
  by_cases hij:i=j
  ·subst hij
   rw [List.getElem?_set_self (List.getElem?_eq_some_iff.1 hi).1] at hx
   cases hx
   have:=e5 i .nl y hi hy
   refine ⟨?_,this.2⟩
   have hg:(β++[Con.nil a])[b]?=some (.box g):=x1.con b g h2
   rw [hg] at e2
   cases e2
   rw [h3] at e3
   have hvs:vs=vs':=by
    have e6:vs.toArray=vs'.toArray:=by injection e3 with e3;injection e3
    simpa using congrArg Array.toList e6
   subst hvs
   have:y=vs[i]:=by
    rw [List.getElem?_eq_getElem hil] at hy
    cases hy
    rfl
   rw [this,ha]
   exact r.ownNil e a
  ·rw [List.getElem?_set_ne hij] at hx
   exact e5 j x y hx hy)
 exact hg β0 S0 w0 _ S w tmps hb0 hn ((x0.trans x1).trans x2) r2 fun t'=>((rt t').ext x1).ext x2
theorem zkw {E:Env0} {fn:Func} {h0:Heap} {c c':Cfg} {R:AV->Heap->Prop} (t:Nat) (e:TypeId) (live:List Nat) (m:Nat) (hc:look c.ts t=.nl) (hm:Nat.ble h0.length m=true)
  (he:cut live m ⟨c.n,c.todo,(t,.own c.h.length 0)::c.ts,c.h++[Blk.row e [] false]⟩=c') (hg:Good E fn h0 c' R):Good E fn h0 c R :=
 zm3 t e hc (zb9 live m (Nat.le_of_ble_eq_true hm) (he ▸ hg))
theorem zib {E:Env0} {fn:Func} {h0:Heap} {c c':Cfg} {R:AV->Heap->Prop} (b i:Nat) (e:TypeId) (live:List Nat) (m:Nat) {cs:List AV} (hb:c.h[b]?=some (.box cs)) (hi:cs[i]?=some .nl) (hm:Nat.ble h0.length m=true)
  (he:cut live m ⟨c.n,c.todo,c.ts,(c.h++[Blk.row e [] false]).set b (.box (cs.set i (.own c.h.length 0)))⟩=c') (hg:Good E fn h0 c' R):Good E fn h0 c R :=
 zkv b i e hb hi (zb9 live m (Nat.le_of_ble_eq_true hm) (he ▸ hg))
theorem zly {E:Env0} {fn:Func} {h0:Heap} {c c':Cfg} {R:AV->Heap->Prop} (t:Nat) (b:Bool) (live:List Nat) (m:Nat) (hc:look c.ts t=.bl b) (hm:Nat.ble h0.length m=true)
  (he:cut live m ⟨c.n,c.todo,(t,.v (.bool b))::c.ts,c.h⟩=c') (hg:Good E fn h0 c' R):Good E fn h0 c R:=by
 have hg':=zb9 live m (Nat.le_of_ble_eq_true hm) (he ▸ hg)
 intro β0 S0 w0 β S w tmps hb0 hn x0 r rt
 refine hg' β0 S0 w0 β S w tmps hb0 hn x0 r fun t'=>?_
 simp only [look]
 cases hb:Nat.beq t t' with
 | true =>
  have:=Nat.eq_of_beq_eq_true hb
  subst this
  have ht:=rt t
  rw [hc] at ht
  rw [ht.bl_inv]
  exact zbb _
 | false=>exact rt t'
theorem zku {E:Env0} {fn:Func} {h0:Heap} {c c':Cfg} {R:AV->Heap->Prop} (t:Nat) {v:AV} {q:Prop} (live:List Nat) (m:Nat) (hc:look c.ts t=v) (hq:frzO c.h v=q) (ho:q) (hm:Nat.ble h0.length m=true)
  (he:cut live m ⟨c.n,c.todo,(t,frz c.h v)::c.ts,share c.h (frzM v)⟩=c') (hg:Good E fn h0 c' R):Good E fn h0 c R:=by
 have hg':=zb9 live m (Nat.le_of_ble_eq_true hm) (he ▸ hg)
 intro β0 S0 w0 β S w tmps hb0 hn x0 r rt
 have hv:=rt t
 rw [hc] at hv
 obtain ⟨S',⟨x1,r1⟩,d1⟩:=zjK E v c.h β S w _ r hv (by rw [hq];exact ho)
 refine hg' β0 S0 w0 β S' w tmps hb0 hn (x0.trans x1) r1 fun t'=>?_
 simp only [look]
 cases hb:Nat.beq t t' with
 | true =>
  have:=Nat.eq_of_beq_eq_true hb
  subst this
  exact .d _ _ d1
 | false=>exact (rt t').ext x1
theorem zlz {E:Env0} {fn:Func} {h0:Heap} {c c':Cfg} {R:AV->Heap->Prop} (t b n:Nat) (live:List Nat) (m:Nat) (hc:look c.ts t=.own b n) (hm:Nat.ble h0.length m=true)
  (he:cut live m ⟨c.n,c.todo,(t,.os b n 0 n)::c.ts,c.h⟩=c') (hg:Good E fn h0 c' R):Good E fn h0 c R:=by
 have hg':=zb9 live m (Nat.le_of_ble_eq_true hm) (he ▸ hg)
 intro β0 S0 w0 β S w tmps hb0 hn x0 r rt
 refine hg' β0 S0 w0 β S w tmps hb0 hn x0 r fun t'=>?_
 simp only [look]
 cases hb:Nat.beq t t' with
 | true =>
  have:=Nat.eq_of_beq_eq_true hb
  subst this
  have ht:=rt t
  rw [hc] at ht
  exact r.own_os ht
 | false=>exact rt t'
theorem ziX {E:Env0} {fn:Func} {h0:Heap} {c c':Cfg} {R:AV->Heap->Prop} (b i:Nat) (x:Bool) (live:List Nat) (m:Nat) {cs:List AV} (hb:c.h[b]?=some (.box cs)) (hi:cs[i]?=some (.bl x)) (hm:Nat.ble h0.length m=true)
  (he:cut live m ⟨c.n,c.todo,c.ts,c.h.set b (.box (cs.set i (.v (.bool x))))⟩=c') (hg:Good E fn h0 c' R):Good E fn h0 c R:=by
 have hg':=zb9 live m (Nat.le_of_ble_eq_true hm) (he ▸ hg)
 intro β0 S0 w0 β S w tmps hb0 hn x0 r rt
 have x2:=zdH (β:=β) (S:=S) (w:=w) hb (cs.set i (.v (.bool x)))
 have r2:=r.setBox hb (cs.set i (.v (.bool x))) (fun g' vs' t' e2 e3 e4 e5=>by
  refine ⟨by simpa using e4,fun j x' y hx hy=>?_⟩
  by_cases hij:i=j
  ·subst hij
   rw [List.getElem?_set_self (List.getElem?_eq_some_iff.1 hi).1] at hx
   cases hx
   have:=e5 i (.bl x) y hi hy
   refine ⟨?_,this.2⟩
   rw [this.1.bl_inv]
   exact zbb _
  ·rw [List.getElem?_set_ne hij] at hx
   exact e5 j x' y hx hy)
 exact hg' β0 S0 w0 β S w tmps hb0 hn (x0.trans x2) r2 fun t'=>(rt t').ext x2
theorem ziz {E:Env0} {fn:Func} {h0:Heap} {n:Nat} {todo:List It} {ts ts':TS} {h h':Heap} {R:AV->Heap->Prop} (e1:ts=ts') (e2:h=h') (hg:Good E fn h0 ⟨n,todo,ts',h'⟩ R):Good E fn h0 ⟨n,todo,ts,h⟩ R:=by
 subst e1;subst e2;exact hg
structure St where
 o:List Orc
 p:List Prop
 h:allP p
def orcs:List St->List Orc
 | []=>[]
 | s::r=>s.o++orcs r
def zaG:List St->List Prop
 | []=>[]
 | s::r=>s.p++zaG r
theorem zjq:∀ {a b:List Prop},allP a->allP b->allP (a++b)
 | [],_,_,hb=>hb
 | [_],[],ha,_=>ha
 | [_],_::_,ha,hb=>⟨ha,hb⟩
 | _::q::r,_,ha,hb=>⟨ha.1,zjq (a:=q::r) ha.2 hb⟩
theorem zau:∀ l:List St,allP (zaG l)
 | []=>trivial
 | s::r=>zjq s.h (zau r)
def sb {c b:Bool} (h:c=b):St:=⟨[.b b],[c=b],h⟩
def si {e n:Int} (h:e=n):St:=⟨[.i n],[e=n],h⟩
def se {xs:List (List AV)} {i:Int} {c:List AV} {n:Nat} (h:ElAt xs i c n):St:=⟨[.el c],[ElAt xs i c n],h⟩
def sy {s:ByteArray} {i n:Int} (h:ByteAt s i n):St:=⟨[.i n],[ByteAt s i n],h⟩
def sc {E:Env0} {f:FuncId} {args:List AV} {r:AV} {h':Heap} (h:zaa E f args [] r h'):St:=⟨[.call [] r h'],[zaa E f args [] r h'],h⟩
def sl {E:Env0} {f:FuncId} {args:List AV} {hl:Heap} {r:AV} {h':Heap} (lend:List Nat) (h:zaa E f args hl r h'):St:=⟨[.call lend r h'],[zaa E f args hl r h'],h⟩
def sln {E:Env0} {f:FuncId} {args:List AV} {hl:Heap} {r:AV} {h':Heap} (lend:List Nat) (h:zaa E f args hl r h'):St:=⟨[.calln lend r h'],[zaa E f args hl r h'],h⟩
def sk {E:Env0} {f:FuncId} {args:List AV} {hl:Heap} {r:AV} {h':Heap} {p:Prop} (hp:p) (lend:List Nat) (h:zaa E f args hl r h'):St:=⟨[.call lend r h'],[p/\zaa E f args hl r h'],⟨hp,h⟩⟩
def sq {p:Prop} (h:p):St:=⟨[],[p],h⟩
def sx (o:Orc) {p:Prop} (h:p):St:=⟨[o],[p],h⟩
def sg {c b:Bool} (h:c=b):St:=⟨[.b b],[c=b/\True],⟨h,trivial⟩⟩
def so {c b:Bool} (h:c=b) (s:St):St:=⟨.b b::s.o,[c=b/\allP s.p],⟨h,s.h⟩⟩
def zgy:List (Nat × List St)->List (Nat × List Orc)
 | []=>[]
 | (i,l)::r=>(i,orcs l)::zgy r
def zhn:List (Nat × List St)->List St
 | []=>[]
 | (_,l)::r=>l++zhn r
def sd (l:List (Nat × List St)):St:=⟨[.draw (zgy l)],[allP (zaG (zhn l))],zau _⟩
def zlX (p:Prop) (ts:TS) (h:Heap):Nat->Prop
 | 0=>True
 | n+1=>(p/\ts=ts/\h=h)/\zlX p ts h n
theorem zke {p:Prop} (hp:p) (ts:TS) (h:Heap):∀ n,zlX p ts h n
 | 0=>trivial
 | n+1=>⟨⟨hp,rfl,rfl⟩,zke hp ts h n⟩
def sdm (l:List (Nat × List St)) (n:Nat) (ts:TS) (h:Heap):St:=⟨[.draw (zgy l)],[allP (zaG (zhn l))/\zlX (allP (zaG (zhn l))) ts h (n+1)],⟨zau _,zke (zau _) ts h _⟩⟩
theorem walk {E : Env0} (ht : zan E) (hmix : E.P.follows .mixedOrders = true) {f : FuncId} {fn : Func} {c : Code} {args : List AV} {r y : AV} (hf : E.P.funcs[f]? = some fn) (hb : fn.body = some c) (hname : (fn.name == "runtime.NumGoroutine") = false)
  (hn:Nat.ble args.length fn.ntmps=true) (n:Nat) (l:List St) (hfin:fin (mk E) fn 0 n ⟨fn.ntmps,[.code c],zbt 0 args,[]⟩ (orcs l)=some (zaG l,y,[])) (hr:y=r):zaa E f args [] r [] :=
 zfc ht hmix hf hb hname hn n (orcs l) hfin (zau l) ⟨hr,rfl⟩
theorem walkH {E : Env0} (ht : zan E) (hmix : E.P.follows .mixedOrders = true) {f : FuncId} {fn : Func} {c : Code} {args : List AV} {h : Heap} {r y : AV} {H H' : Heap} (hf : E.P.funcs[f]? = some fn) (hb : fn.body = some c) (hname : (fn.name == "runtime.NumGoroutine") = false)
  (hn:Nat.ble args.length fn.ntmps=true) (n:Nat) (l:List St) (hfin:fin (mk E) fn h.length n ⟨fn.ntmps,[.code c],zbt 0 args,h⟩ (orcs l)=some (zaG l,y,H)) (hr:y=r/\H=H'):zaa E f args h r H' :=
 zfc ht hmix hf hb hname hn n (orcs l) hfin (zau l) hr
def upto (E:Env) (live:List Nat) (m n:Nat) (c:Cfg) (os:List Orc):List Prop × Cfg:=match run E n c os with
 | (q,c',_)=>(q,cut live m c')
theorem zbX {E:Env0} (ht:zan E) (hmix:E.P.follows .mixedOrders=true) {fn:Func} {R:AV->Heap->Prop} {h0:Heap} {c c':Cfg} (n:Nat) (l:List St) (live:List Nat) (m:Nat) (hm:Nat.ble h0.length m=true)
  (hu:upto (mk E) live m n c (orcs l)=(zaG l,c')) (hg:Good E fn h0 c' R):Good E fn h0 c R:=by
 unfold upto at hu
 have h1:(run (mk E) n c (orcs l)).1=zaG l:=by
  have:=congrArg Prod.fst hu
  exact this
 have h2:cut live m (run (mk E) n c (orcs l)).2.1=c':=congrArg Prod.snd hu
 exact zkW ht hmix n (orcs l) live m hm h1 h2 (zau l) hg
theorem zeF {E:Env0} (ht:zan E) (hmix:E.P.follows .mixedOrders=true) {fn:Func} {R:AV->Heap->Prop} {h0:Heap} {c:Cfg} {y:AV} {H:Heap} {m:Nat} (n:Nat) (l:List St)
  (hfin:fin (mk E) fn m n c (orcs l)=some (zaG l,y,H)) (hR:R y H):Good E fn h0 c (Shut m R) :=
 zg0 ht hmix n (orcs l) hfin (zau l) hR
theorem zbG {E:Env0} (ht:zan E) (hmix:E.P.follows .mixedOrders=true) {fn:Func} {R:AV->Heap->Prop} {h0:Heap} {c:Cfg} {y:AV} {H:Heap} (n:Nat) (l:List St)
  (hfin:finK (mk E) fn n c (orcs l)=some (zaG l,y,H)) (hR:R y H):Good E fn h0 c R :=
 ziy ht hmix n (orcs l) hfin (zau l) hR
theorem zmi {E:Env0} (ht:zan E) (hmix:E.P.follows .mixedOrders=true) {f:FuncId} {fn:Func} {c:Code} {args:List AV} {h:Heap} {R:AV->Heap->Prop} (hf:E.P.funcs[f]?=some fn) (hb:fn.body=some c)
  (hname : (fn.name == "runtime.NumGoroutine") = false) (hn : Nat.ble args.length fn.ntmps = true) (n : Nat) (l : List St) (live : List Nat) (m : Nat) {c' : Cfg} (hm : Nat.ble h.length m = true)
  (hu:upto (mk E) live m n ⟨fn.ntmps,[.code c],zbt 0 args,h⟩ (orcs l)=(zaG l,c')) (hg:Good E fn h c' R):zbh E f args h R :=
 zaw hf hb hname (Nat.le_of_ble_eq_true hn) (zbX ht hmix n l live m hm hu hg)
theorem zfl {E:Env0} (ht:zan E) (hmix:E.P.follows .mixedOrders=true) {f:FuncId} {fn:Func} {c:Code} {args:List AV} {h:Heap} {R:AV->Heap->Prop} (hf:E.P.funcs[f]?=some fn) (hb:fn.body=some c)
  (hname : (fn.name == "runtime.NumGoroutine") = false) (hn : Nat.ble args.length fn.ntmps = true) (n : Nat) (l : List St) (live : List Nat) (m : Nat) {c' : Cfg} (hm : Nat.ble h.length m = true)
  (hu:upto (mk E) live m n ⟨fn.ntmps,[.code c],zbt 0 args,h⟩ (orcs l)=(zaG l,c')) (hg:Good E fn h c' (Shut h.length R)):zbh E f args h R :=
 zcu (zaw hf hb hname (Nat.le_of_ble_eq_true hn) (zbX ht hmix n l live m hm hu hg))
end Go.AM
namespace Go.AM
open Go.RowKit
def zgF (t:TI):Shp->Bool
 | .int _=>match t.kind with|.int _=>Nat.beq t.size 1&&!t.isAgg|_=>false
 | .str=>match t.kind with|.str=>Nat.beq t.size 1&&!t.isAgg|_=>false
 | .bool=>match t.kind with|.bool=>Nat.beq t.size 1&&!t.isAgg|_=>false
 | .other=>false
def flat (T:TypeId->TI):Nat->List Field->List Shp->Bool
 | _,[],[]=>true
 | i, f :: fs, s :: ss => (f.name != "_") && Nat.beq f.offset i && zgF (T f.type) s && flat T (i + 1) fs ss
 | _,_,_=>false
theorem eqCell {E:Env0} (ht:zan E) {t:TypeId} {x y:Value} {r:Bool} (d:Nat) (hs:zgF (E.T t) (shp x)=true) (he:zcA x y=some r) (w:World):(Op.equalIn (d+1) t x y).run E.P w=.ok r w:=by
 cases x <;> simp [shp,zgF] at hs
 case bool a =>
  split at hs
  ·rename_i hk
   obtain ⟨i,dd,z,tok⟩:=ht.at_ (t:=t) (by intro h;rw [h] at hk;cases hk)
   cases y <;> simp [zcA] at he
   subst he
   have:=tok.bool_ hk
   subst this
   exact run_equalIn_bool' w d t _ _ tok.und
  ·cases hs
 case int k a =>
  split at hs
  ·rename_i k' hk
   obtain ⟨i,dd,z,tok⟩:=ht.at_ (t:=t) (by intro h;rw [h] at hk;cases hk)
   cases y <;> simp [zcA] at he
   obtain ⟨rfl,rfl⟩:=he
   have:=tok.int_ hk
   subst this
   exact run_equalIn_int w d t _ _ _ _ tok.und
  ·cases hs
 case string a =>
  split at hs
  ·rename_i hk
   obtain ⟨i,dd,z,tok⟩:=ht.at_ (t:=t) (by intro h;rw [h] at hk;cases hk)
   cases y <;> simp [zcA] at he
   subst he
   have:=tok.str_ hk
   subst this
   rw [run_equalIn_string w d t _ _ tok.und,beq_toListBytes]
  ·cases hs
theorem zhW {t:TI} {s:Shp} (h:zgF t s=true):t.size=1/\t.isAgg=false/\t≠⟨.scalar,0,0,[]⟩:=by
 unfold zgF at h
 split at h <;> try cases h
 all_goals
  split at h
  ·rename_i hk
   simp only [Bool.and_eq_true,Bool.not_eq_true'] at h
   exact ⟨Nat.eq_of_beq_eq_true h.1,h.2,by intro h';rw [h'] at hk;cases hk⟩
  ·cases h
theorem zgN {E:Env0} (ht:zan E) (d:Nat) (w:World):∀ (fs:List Field) (px py xs ys:List Value) (r:Bool),px.length=py.length->flat E.T px.length fs (xs.map shp)=true->zaM xs ys=some r ->
  (Op.eqFields (d+1) (px++xs).toArray (py++ys).toArray fs).run E.P w=.ok r w
 | [],px,py,xs,ys,r,hp,hf,he=>by
  cases xs with
  | cons x xs=>simp [flat] at hf
  | nil =>
   cases ys <;> simp [zaM] at he
   subst he
   rfl
 | f::fs,px,py,[],ys,r,hp,hf,he=>by simp [flat] at hf
 | f::fs,px,py,x::xs,[],r,hp,hf,he=>by simp [zaM] at he
 | f::fs,px,py,x::xs,y::ys,r,hp,hf,he=>by
  simp only [List.map_cons,flat,Bool.and_eq_true,bne_iff_ne] at hf
  obtain ⟨⟨⟨hn,ho⟩,hs⟩,hrest⟩:=hf
  have ho:=Nat.eq_of_beq_eq_true ho
  simp only [zaM] at he
  split at he
  ·rename_i a b h1 h2
   simp only [Option.some.injEq] at he
   subst he
   obtain ⟨hsz,hagg,hne⟩:=zhW hs
   obtain ⟨i,dd,z,tok⟩:=ht.at_ hne
   have p1:=zd9 tok w (px++x::xs) f.offset (by rw [hsz,ho];simp)
   have p2:=zd9 tok w (py++y::ys) f.offset (by rw [hsz,ho,hp];simp)
   rw [hsz,ho] at p1
   rw [hsz,ho,hp] at p2
   simp only [List.drop_left,List.take_succ_cons,List.take_zero,zcX,hagg] at p1 p2
   have p3:=eqCell ht d hs h1 w
   have ih:=zgN ht d w fs (px++[x]) (py++[y]) xs ys b (by simp [hp]) (by simpa using hrest) h2
   simp only [List.append_assoc,List.singleton_append] at ih
   simp only [Op.eqFields,ne_eq,hn,not_false_eq_true,if_true,Sem.run_bind,ho]
   rw [p1,Result.andThen_ok,hp,p2,Result.andThen_ok]
   simp only [List.headD_cons]
   rw [p3,Result.andThen_ok]
   cases a
   ·rfl
   ·simpa using ih
  ·cases he
theorem zmD {E:Env0} (ht:zan E) {t:TypeId} {fs:Array Field} {ss:List Shp} (hu:E.P.underlying t=some (.struct fs)) (hp:E.P.stoodInHeld t=false) (hg:E.P.eqGuardType E.P.depth t=false) (hf:flat E.T 0 fs.toList ss=true) :
  StructEq E.P t ss:=by
 refine ⟨hg,fun w xs ys r hs he=>?_⟩
 have hfo:E.P.fieldsOf t=fs:=by simp [Program.fieldsOf,hu]
 have h1:=run_equalIn_struct (P:=E.P) w 9999 t xs.toArray ys.toArray (by rw [hfo];exact hu) hp
 rw [hfo] at h1
 have h2:=zgN ht 9998 w fs.toList [] [] xs ys r rfl (by rw [hs];exact hf) he
 simp only [List.nil_append] at h2
 unfold Op.equal Op.maxDepth
 rw [h1]
 exact h2
end Go.AM
namespace Go.AM
abbrev Str:=ByteArray
abbrev iv (n:Int):AV:=.v (.int .i64 n)
abbrev bv (b:Bool):AV:=.v (.bool b)
abbrev sv (s:Str):AV:=.v (.string s)
def globs (g:Nat):Option (List AV) :=
 none
noncomputable def E0:Env0:=⟨Proofs.Tryz.prog,zfE tabA,globs⟩
theorem E0ok:zan E0:=zno znS
theorem mix0:E0.P.follows .mixedOrders=true:=mix_ok
structure V where
 kind:Int
 int:Int
 text:Str
def V.cells (v:V):List AV:=[iv v.kind,iv v.int,sv v.text]
abbrev V.av (v:V):AV:=.agg v.cells
def V.null:V:=⟨0,0,⟨#[]⟩⟩
mutual
inductive X where
 | mk (kind op:Int) (not:Bool) (val:V) (table name:Str) (args:List X) (sub:List Qy)
inductive Qy where
 | mk (star:Bool) (items:List X) (frm:Str) (wh:List X)
end
def X.kind:X->Int|.mk k _ _ _ _ _ _ _=>k
def X.op:X->Int|.mk _ o _ _ _ _ _ _=>o
def X.not:X->Bool|.mk _ _ n _ _ _ _ _=>n
def X.val:X->V|.mk _ _ _ v _ _ _ _=>v
def X.table:X->Str|.mk _ _ _ _ t _ _ _=>t
def X.name:X->Str|.mk _ _ _ _ _ m _ _=>m
def X.args:X->List X|.mk _ _ _ _ _ _ xs _=>xs
def X.sub:X->List Qy|.mk _ _ _ _ _ _ _ qs=>qs
def Qy.star:Qy->Bool|.mk s _ _ _=>s
def Qy.items:Qy->List X|.mk _ i _ _=>i
def Qy.frm:Qy->Str|.mk _ _ f _=>f
def Qy.wh:Qy->List X|.mk _ _ _ w=>w
@[simp] theorem X.kind_mk (k o:Int) (n:Bool) (v:V) (t m:Str) (xs:List X) (qs:List Qy):(X.mk k o n v t m xs qs).kind=k:=rfl
@[simp] theorem X.op_mk (k o:Int) (n:Bool) (v:V) (t m:Str) (xs:List X) (qs:List Qy):(X.mk k o n v t m xs qs).op=o:=rfl
@[simp] theorem X.not_mk (k o:Int) (n:Bool) (v:V) (t m:Str) (xs:List X) (qs:List Qy):(X.mk k o n v t m xs qs).not=n:=rfl
@[simp] theorem X.val_mk (k o:Int) (n:Bool) (v:V) (t m:Str) (xs:List X) (qs:List Qy):(X.mk k o n v t m xs qs).val=v:=rfl
@[simp] theorem X.table_mk (k o:Int) (n:Bool) (v:V) (t m:Str) (xs:List X) (qs:List Qy):(X.mk k o n v t m xs qs).table=t:=rfl
@[simp] theorem X.name_mk (k o:Int) (n:Bool) (v:V) (t m:Str) (xs:List X) (qs:List Qy):(X.mk k o n v t m xs qs).name=m:=rfl
@[simp] theorem X.args_mk (k o:Int) (n:Bool) (v:V) (t m:Str) (xs:List X) (qs:List Qy):(X.mk k o n v t m xs qs).args=xs:=rfl
@[simp] theorem X.sub_mk (k o:Int) (n:Bool) (v:V) (t m:Str) (xs:List X) (qs:List Qy):(X.mk k o n v t m xs qs).sub=qs:=rfl
@[simp] theorem Qy.star_mk (s:Bool) (i:List X) (f:Str) (w:List X):(Qy.mk s i f w).star=s:=rfl
@[simp] theorem Qy.items_mk (s:Bool) (i:List X) (f:Str) (w:List X):(Qy.mk s i f w).items=i:=rfl
@[simp] theorem Qy.frm_mk (s:Bool) (i:List X) (f:Str) (w:List X):(Qy.mk s i f w).frm=f:=rfl
@[simp] theorem Qy.wh_mk (s:Bool) (i:List X) (f:Str) (w:List X):(Qy.mk s i f w).wh=w:=rfl
mutual
def X.raw:X->List AV
 | .mk k o n v t m xs qs=>[iv k,iv o,bv n,iv v.kind,iv v.int,sv v.text,sv t,sv m,.sl (zad xs),.sl (zag qs)]
def Qy.raw:Qy->List AV
 | .mk s is f w=>[bv s,.sl (zad is),sv f,.sl (zad w)]
def zad:List X->List (List AV)
 | []=>[]
 | x::r=>X.raw x::zad r
def zag:List Qy->List (List AV)
 | []=>[]
 | x::r=>Qy.raw x::zag r
end
def X.cells (x:X):List AV:=[iv x.kind,iv x.op,bv x.not,iv x.val.kind,iv x.val.int,sv x.val.text,sv x.table,sv x.name,.sl (zad x.args),.sl (zag x.sub)]
def Qy.cells (x:Qy):List AV:=[bv x.star,.sl (zad x.items),sv x.frm,.sl (zad x.wh)]
theorem X.raw_eq (x:X):x.raw=x.cells:=by cases x;simp [X.raw,X.cells,X.kind,X.op,X.not,X.val,X.table,X.name,X.args,X.sub]
theorem Qy.raw_eq (x:Qy):x.raw=x.cells:=by cases x;simp [Qy.raw,Qy.cells,Qy.star,Qy.items,Qy.frm,Qy.wh]
theorem zcl:∀ l:List X,zad l=l.map X.cells
 | []=>by simp [zad]
 | x::r=>by simp [zad,zcl r,X.raw_eq]
theorem zck:∀ l:List Qy,zag l=l.map Qy.cells
 | []=>by simp [zag]
 | x::r=>by simp [zag,zck r,Qy.raw_eq]
@[simp] theorem zlm:zad []=[]:=zcl []
@[simp] theorem zks (x:X) (r:List X):zad (x::r)=x.cells::zad r:=by simp [zcl]
@[simp] theorem zll (a b:List X):zad (a++b)=zad a++zad b:=by simp [zcl]
@[simp] theorem zfG (a:List X):(zad a).length=a.length:=by simp [zcl]
@[simp] theorem zlk:zag []=[]:=zck []
@[simp] theorem zkr (x:Qy) (r:List Qy):zag (x::r)=x.cells::zag r:=by simp [zck]
@[simp] theorem ziS (a:List Qy):(zag a).length=a.length:=by simp [zck]
@[simp] theorem X.cells_length (x:X):x.cells.length=10:=rfl
@[simp] theorem Qy.cells_length (x:Qy):x.cells.length=4:=rfl
abbrev X.av (x:X):AV:=.agg x.cells
abbrev Qy.av (x:Qy):AV:=.agg x.cells
structure Col where
 name:Str
 type:Int
 notNull:Bool
 key:Bool
def Col.cells (c:Col):List AV:=[sv c.name,iv c.type,bv c.notNull,bv c.key]
abbrev ZC (l:List Col):AV:=.sl (l.map Col.cells)
structure Sch where
 name:Str
 cols:List Col
def Sch.cells (s:Sch):List AV:=[sv s.name,.sl (s.cols.map Col.cells)]
abbrev ZS (l:List Sch):AV:=.sl (l.map Sch.cells)
abbrev Sch.av (s:Sch):AV:=.agg s.cells
structure Rw where
 id:Int
 vals:List V
def Rw.cells (r:Rw):List AV:=[iv r.id,.sl (r.vals.map V.cells)]
abbrev ZW (l:List Rw):AV:=.sl (l.map Rw.cells)
structure Tb where
 sch:Sch
 next:Int
 rows:List Rw
def Tb.cells (t:Tb):List AV:=[sv t.sch.name,.sl (t.sch.cols.map Col.cells),iv t.next,.sl (t.rows.map Rw.cells)]
abbrev Tb.av (t:Tb):AV:=.agg t.cells
structure Fr where
 name:Str
 strict:Bool
 cols:List Col
 vals:List V
def Fr.cells (f:Fr):List AV:=[sv f.name,bv f.strict,.sl (f.cols.map Col.cells),.sl (f.vals.map V.cells)]
abbrev vsl (l:List V):AV:=.sl (l.map V.cells)
abbrev fsl (l:List Fr):AV:=.sl (l.map Fr.cells)
abbrev tsl (l:List Tb):AV:=.sl (l.map Tb.cells)
abbrev xsl (l:List X):AV:=.sl (zad l)
abbrev Pure (f:FuncId) (args:List AV) (r:AV):Prop:=zaa E0 f args [] r []
@[simp] theorem V.cells_length (x:V):x.cells.length=3:=rfl
@[simp] theorem Col.cells_length (x:Col):x.cells.length=4:=rfl
@[simp] theorem Sch.cells_length (x:Sch):x.cells.length=2:=rfl
@[simp] theorem Rw.cells_length (x:Rw):x.cells.length=2:=rfl
@[simp] theorem Tb.cells_length (x:Tb):x.cells.length=4:=rfl
@[simp] theorem Fr.cells_length (x:Fr):x.cells.length=4:=rfl
theorem zjG {l:List X} {i:Nat} {x:X} (h:l[i]?=some x):ElAt (zad l) (i:Int) x.cells 10 :=
 ⟨by omega,by simp [zcl,h],rfl⟩
theorem elAt_Q {l:List Qy} {i:Nat} {x:Qy} (h:l[i]?=some x):ElAt (zag l) (i:Int) x.cells 4 :=
 ⟨by omega,by simp [zck,h],rfl⟩
theorem zat {α:Type} (f:α->List AV) {l:List α} {i:Nat} {x:α} (h:l[i]?=some x) {n:Nat} (hn:(f x).length=n):ElAt (l.map f) (i:Int) (f x) n :=
 ⟨by omega,by simp [h],hn⟩
theorem zch (i:Nat) (h:i < 9223372036854775807):IntKind.i64.wrap ((i:Int)+1)=((i+1:Nat):Int):=by
 rw [IntKind.wrap_i64];omega
theorem zar {t:Int} {n:Nat} (h1:t=(n:Int)) (h2:n<=9223372036854775807):IntKind.i64.wrap t=(n:Int):=by
 rw [h1,IntKind.wrap_i64];omega
def pm1:Nat->Int
 | 0=>-1
 | k+1=>(k:Int)
theorem pm1_eq (k:Nat):pm1 k=(k:Int) - 1:=by cases k <;> simp [pm1]
theorem znr (k:Nat) (h:k < 9223372036854775806):IntKind.i64.wrap ((k:Int) - 1)=pm1 k:=by
 rw [pm1_eq,IntKind.wrap_i64];omega
theorem zbw {α:Type} {l:List α} {i:Nat} {x:α} (h:l[i]?=some x):l.drop i=x::l.drop (i+1):=by
 obtain ⟨h1,h2⟩:=List.getElem?_eq_some_iff.mp h
 rw [List.drop_eq_getElem_cons h1,h2]
theorem at_lt {α:Type} {l:List α} {i:Nat} {x:α} (h:l[i]?=some x):i < l.length:=(List.getElem?_eq_some_iff.mp h).1
theorem zdG {α:Type} {l:List α} {i:Nat} (h:i < l.length):∃ x,l[i]?=some x:=⟨l[i],by simp [h]⟩
structure Tp where
 l:List Int
 pos:Nat
 ok:l.length<=500
def Tp.cells (t:Tp):List AV:=[.sl (t.l.map fun n=>[iv n]),iv t.pos]
structure Pl where
 frs:List Fr
 tbs:List Sch
def Pl.cells (p:Pl):List AV:=[.sl (p.frs.map Fr.cells),.sl (p.tbs.map Sch.cells)]
abbrev Pl.av (p:Pl):AV:=.agg p.cells
abbrev ssl (l:List Str):AV:=.sl (l.map fun s=>[sv s])
structure Se where
 col:Str
 ex:X
def Se.cells (s:Se):List AV:=sv s.col::s.ex.cells
abbrev ZE (l:List Se):AV:=.sl (l.map Se.cells)
structure Ac where
 kind:Int
 table:Str
 rows:List (List X)
 query:List Qy
 sets:List Se
 wh:List X
 text:Str
def Ac.cells (a:Ac):List AV:=[iv a.kind,sv a.table,.sl (a.rows.map fun r=>[.sl (zad r)]),.sl (zag a.query),.sl (a.sets.map Se.cells),.sl (zad a.wh),sv a.text]
abbrev ZA (l:List Ac):AV:=.sl (l.map Ac.cells)
abbrev Ac.av (a:Ac):AV:=.agg a.cells
structure Rk where
 table:Str
 col:Str
 low:Int
 high:Int
def Rk.cells (r:Rk):List AV:=[sv r.table,sv r.col,iv r.low,iv r.high]
abbrev ZR (l:List Rk):AV:=.sl (l.map Rk.cells)
structure Tg where
 name:Str
 table:Str
 before:Bool
 event:Int
 of:List Str
 each:Bool
 prec:List Str
 foll:List Str
 rank:List Rk
 when_:List X
 acts:List Ac
def Tg.cells (t:Tg):List AV:=[sv t.name,sv t.table,bv t.before,iv t.event,ssl t.of,bv t.each,ssl t.prec,ssl t.foll,.sl (t.rank.map Rk.cells),.sl (zad t.when_),.sl (t.acts.map Ac.cells)]
abbrev ZG (l:List Tg):AV:=.sl (l.map Tg.cells)
abbrev Tg.av (t:Tg):AV:=.agg t.cells
@[simp] theorem Se.cells_length (x:Se):x.cells.length=11:=rfl
@[simp] theorem Ac.cells_length (x:Ac):x.cells.length=7:=rfl
@[simp] theorem Rk.cells_length (x:Rk):x.cells.length=4:=rfl
@[simp] theorem Tg.cells_length (x:Tg):x.cells.length=11:=rfl
theorem ziH:StructEq E0.P Ty.Value [.int .i64,.int .i64,.str] :=
 zmD E0ok (fs:=E0.P.fieldsOf Ty.Value) kr kr kr kr
noncomputable def runF (fn:Func) (args:List AV) (h:Heap) (os:List Orc):Option (List Prop × AV × Heap) :=
 match fn.body, (fn.name == "runtime.NumGoroutine"), Nat.ble args.length fn.ntmps with
 | some c,false,true=>fin (mk E0) fn h.length 3000 ⟨fn.ntmps,[.code c],zbt 0 args,h⟩ os
 | _,_,_=>none
noncomputable def zfF (fn:Func) (args:List AV) (h:Heap) (live:List Nat) (m:Nat) (os:List Orc):Option (List Prop × Cfg) :=
 match fn.body, (fn.name == "runtime.NumGoroutine"), Nat.ble args.length fn.ntmps, Nat.ble h.length m with
 | some c,false,true,true=>some (upto (mk E0) live m 3000 ⟨fn.ntmps,[.code c],zbt 0 args,h⟩ os)
 | _,_,_,_=>none
noncomputable def zjl (h0:Heap) (live:List Nat) (m:Nat) (c:Cfg) (os:List Orc):Option (List Prop × Cfg) :=
 match Nat.ble h0.length m with
 | true=>some (upto (mk E0) live m 3000 c os)
 | false=>none
theorem wk {f:FuncId} {fn:Func} {args:List AV} {h H:Heap} {r:AV} (hf:E0.P.funcs[f]?=some fn) (l:List St) (hfin:runF fn args h (orcs l)=some (zaG l,r,H)):zaa E0 f args h r H:=by
 unfold runF at hfin
 split at hfin
 ·rename_i c hb hn ha
  exact zfc E0ok mix0 hf hb hn ha 3000 (orcs l) hfin (zau l) ⟨rfl,rfl⟩
 ·cases hfin
theorem wkc {f:FuncId} {fn:Func} {args:List AV} {h:Heap} {R:AV->Heap->Prop} {c':Cfg} (hf:E0.P.funcs[f]?=some fn) (l:List St) (live:List Nat) (m:Nat) (hu:zfF fn args h live m (orcs l)=some (zaG l,c'))
  (hg:Good E0 fn h c' (Shut h.length R)):zbh E0 f args h R:=by
 unfold zfF at hu
 split at hu
 ·rename_i c hb hn ha hm
  exact zfl E0ok mix0 hf hb hn ha 3000 l live m hm (Option.some.inj hu) hg
 ·cases hu
theorem wkl {fn:Func} {R:AV->Heap->Prop} {h0:Heap} {c c':Cfg} (l:List St) (live:List Nat) (m:Nat) (hu:zjl h0 live m c (orcs l)=some (zaG l,c')) (hg:Good E0 fn h0 c' R):Good E0 fn h0 c R:=by
 unfold zjl at hu
 split at hu
 ·rename_i hm
  exact zbX E0ok mix0 3000 l live m hm (Option.some.inj hu) hg
 ·cases hu
theorem wkr {fn:Func} {h0:Heap} {c:Cfg} {r:AV} {H:Heap} {m:Nat} (l:List St) (hfin:fin (mk E0) fn m 3000 c (orcs l)=some (zaG l,r,H)):Good E0 fn h0 c (Shut m fun y h=>y=r/\h=H) :=
 zeF E0ok mix0 3000 l hfin ⟨rfl,rfl⟩
noncomputable def runFK (fn:Func) (args:List AV) (h:Heap) (os:List Orc):Option (List Prop × AV × Heap) :=
 match fn.body, (fn.name == "runtime.NumGoroutine"), Nat.ble args.length fn.ntmps with
 | some c,false,true=>finK (mk E0) fn 3000 ⟨fn.ntmps,[.code c],zbt 0 args,h⟩ os
 | _,_,_=>none
theorem wkK {f:FuncId} {fn:Func} {args:List AV} {h H:Heap} {r:AV} (hf:E0.P.funcs[f]?=some fn) (l:List St) (hfin:runFK fn args h (orcs l)=some (zaG l,r,H)):zaa E0 f args h r H:=by
 unfold runFK at hfin
 split at hfin
 ·rename_i c hb hn ha
  exact zkp E0ok mix0 hf hb hn ha 3000 (orcs l) hfin (zau l) ⟨rfl,rfl⟩
 ·cases hfin
def pickS (l:List (Nat × List St)) (i:Nat):List St:=match l with
 | []=>[]
 | (j,s)::r=>match Nat.beq j i with
  | true=>s
  | false=>pickS r i
def pickL (l:List (Nat × List St)):List Nat->List St
 | []=>[]
 | i::r=>pickS l i++pickL l r
def zlY (l:List (Nat × List St)) (ts:TS) (h:Heap):List (List Nat)->Prop
 | []=>True
 | o::r=>(allP (zaG (pickL l o))/\ts=ts/\h=h)/\zlY l ts h r
theorem zkf (l:List (Nat × List St)) (ts:TS) (h:Heap):∀ o,zlY l ts h o
 | []=>trivial
 | _::r=>⟨⟨zau _,rfl,rfl⟩,zkf l ts h r⟩
def sdp (l:List (Nat × List St)) (os:List (List Nat)) (ts:TS) (h:Heap):St:=⟨[.draw (zgy l)],[allP (zaG (zhn l))/\zlY l ts h os],⟨zau _,zkf l ts h os⟩⟩
def sqx (p:Prop) (h:p:=by first|assumption|(simp;done)|(simp;omega)|omega|rfl|(refine ⟨⟨?_⟩,?_⟩ <;> first|(simp;done)|(simp;omega)|omega)|(refine ⟨⟨?_⟩,?_,?_⟩ <;> first|(simp;done)|(simp;omega)|omega)|(refine ⟨?_,?_,?_⟩ <;> first|(simp;done)|(simp;omega)|omega)|(refine ⟨?_,⟨?_⟩,?_,?_⟩ <;> first|(simp;done)|(simp;omega)|omega)|(constructor <;> first|(simp;done)|(simp;omega)|omega|(simp at *;omega))):St:=sq h
def skx (p:Prop) {E:Env0} {f:FuncId} {args:List AV} {hl:Heap} {r:AV} {h':Heap} (lend:List Nat) (h:zaa E f args hl r h') (hp:p:=by first|assumption|(simp;done)|(simp;omega)|omega|rfl|(refine ⟨⟨?_⟩,?_⟩ <;> first|(simp;done)|(simp;omega)|omega)|(refine ⟨⟨?_⟩,?_,?_⟩ <;> first|(simp;done)|(simp;omega)|omega)|(refine ⟨?_,?_,?_⟩ <;> first|(simp;done)|(simp;omega)|omega)|(refine ⟨?_,⟨?_⟩,?_,?_⟩ <;> first|(simp;done)|(simp;omega)|omega)|(constructor <;> first|(simp;done)|(simp;omega)|omega|(simp at *;omega))):St:=sk hp lend h
theorem Zih {σ:Type} {Q:σ->Prop} {D:Prop} {E:Env0} {fn:Func} {h0:Heap} {c:σ->Cfg} {a b:Cfg} (h:∃ s,Q s/\D/\∀ R,Good E fn h0 (c s) R->Good E fn h0 a R) (k:∀ R,Good E fn h0 a R->Good E fn h0 b R):∃ s,Q s/\D/\∀ R,Good E fn h0 (c s) R->Good E fn h0 b R:=by
 obtain ⟨s,q,d,g⟩:=h
 exact ⟨s,q,d,fun R r=>k R (g R r)⟩
theorem zlp {P:Nat->Prop} (n:Nat) (s:∀ i,i < n->P (i+1)->P i) (z:P n:=by first|exact fun a _ hI _=>⟨a,hI,by simp,fun R hg=>hg⟩|exact fun _ hI _=>⟨hI,by simp,fun R hg=>hg⟩|exact fun _ hI _=>.inl ⟨hI,by simp,fun R hg=>hg⟩|exact fun a _ hI _=>.inl ⟨a,hI,by simp,fun R hg=>hg⟩|exact fun a b _ hI _=>⟨a,b,hI,by simp,fun R hg=>hg⟩|exact fun a b _ hI _=>.inl ⟨a,b,hI,by simp,fun R hg=>hg⟩) (g:∀ i,n < i->P i:=by intros;omega):∀ i,P i:=by
 intro i
 by_cases h:n < i
 ·exact g i h
 ·obtain ⟨k,hk⟩:∃ k,i+k=n:=⟨n - i,by omega⟩
  clear h
  induction k generalizing i with
  | zero =>
   have e:i=n:=by omega
   rw [e]
   exact z
  | succ k ih=>exact s i Zo (ih (i+1) Zo)
theorem zlq {α:Type} {l:List α} {i:Nat} (m:Nat) (hi:i < l.length) (hw:i < 9223372036854775807:=by first|omega|(simp only [zae,Few] at *;omega)) (hm:m=l.length:=by simp):∃ x,l[i]?=some x/\decide (((i:Nat):Int) < ((m:Nat):Int))=true/\IntKind.i64.wrap (((i:Nat):Int)+1)=((i+1:Nat):Int):=by
 obtain ⟨x,hx⟩:=zdG hi
 refine ⟨x,hx,?_,zch i hw⟩
 rw [hm];simp;omega
theorem zie1 {Q D:Prop} {E:Env0} {fn:Func} {h0:Heap} {c a b:Cfg} {α:Type} {F:α->AV->Heap->Prop} (h:(Q/\D/\∀ R,Good E fn h0 c R->Good E fn h0 a R)\/∃ r,Good E fn h0 a (F r)) (k:∀ R,Good E fn h0 a R->Good E fn h0 b R):(Q/\D/\∀ R,Good E fn h0 c R->Good E fn h0 b R)\/∃ r,Good E fn h0 b (F r) :=
 h.elim (fun ⟨q,d,g⟩=>.inl ⟨q,d,fun R r=>k R (g R r)⟩) fun ⟨r,g⟩=>.inr ⟨r,k _ g⟩
theorem zie2 {Q D:Prop} {E:Env0} {fn:Func} {h0:Heap} {c a b:Cfg} {α:Type} {P:α->Prop} {F:α->AV->Heap->Prop} (h:(Q/\D/\∀ R,Good E fn h0 c R->Good E fn h0 a R)\/∃ r,P r/\Good E fn h0 a (F r)) (k:∀ R,Good E fn h0 a R->Good E fn h0 b R):(Q/\D/\∀ R,Good E fn h0 c R->Good E fn h0 b R)\/∃ r,P r/\Good E fn h0 b (F r) :=
 h.elim (fun ⟨q,d,g⟩=>.inl ⟨q,d,fun R r=>k R (g R r)⟩) fun ⟨r,p,g⟩=>.inr ⟨r,p,k _ g⟩
theorem zie3 {Q D:Prop} {E:Env0} {fn:Func} {h0:Heap} {c a b:Cfg} {P:Prop} {F:AV->Heap->Prop} (h:(Q/\D/\∀ R,Good E fn h0 c R->Good E fn h0 a R)\/(P/\Good E fn h0 a F)) (k:∀ R,Good E fn h0 a R->Good E fn h0 b R):(Q/\D/\∀ R,Good E fn h0 c R->Good E fn h0 b R)\/(P/\Good E fn h0 b F) :=
 h.elim (fun ⟨q,d,g⟩=>.inl ⟨q,d,fun R r=>k R (g R r)⟩) fun ⟨p,g⟩=>.inr ⟨p,k _ g⟩
set_option linter.defProp false in
def zsl:=And.intro @X.av.eq_1 (And.intro @Qy.av.eq_1 (And.intro @V.av.eq_1 (And.intro @Tb.av.eq_1 (And.intro @Sch.av.eq_1 (And.intro @Pl.av.eq_1 (And.intro @xsl.eq_1 (And.intro @fsl.eq_1 (And.intro @vsl.eq_1 (And.intro @tsl.eq_1 (And.intro @List.map_append.{0,0} (And.intro @List.map_cons.{0,0} (And.intro @List.map_nil.{0,0} (And.intro @V.cells.eq_1 (And.intro @Col.cells.eq_1 (And.intro @Rw.cells.eq_1 (And.intro @Tb.cells.eq_1 (And.intro @Fr.cells.eq_1 (And.intro @Sch.cells.eq_1 (And.intro @Pl.cells.eq_1 (And.intro @zll (And.intro @zks (And.intro @zlm (And.intro @zkr (And.intro @zlk (And.intro @X.cells.eq_1 (And.intro @Qy.cells.eq_1 (And.intro @X.args_mk (And.intro @X.sub_mk (And.intro @Qy.items_mk @Qy.wh_mk)))))))))))))))))))))))))))))
def sqA (xs ys:List (List AV)) (n k sz:Nat) (h:AllLen ys k/\n=xs.length/\((xs.length+ys.length) * sz).le 140737488355328:=by first|assumption|(refine ⟨⟨?_⟩,?_,?_⟩ <;> first|(simp;done)|(simp;omega)|omega)|(simp;done)|(simp;omega)):St:=sq h
def getS:TS->Nat->AV
 | [],_=>.un
 | (j,x)::r,k=>match Nat.beq j k with|true=>x|false=>getS r k
def setS:TS->Nat->AV->TS
 | [],_,_=>[]
 | (j,x)::r,k,v=>match Nat.beq j k with|true=>(j,v)::r|false=>(j,x)::setS r k v
def getB:Heap->Nat->Blk
 | [],_=>.box []
 | x::_,0=>x
 | _::r,k+1=>getB r k
def setB:Heap->Nat->Blk->Heap
 | [],_,_=>[]
 | _::r,0,y=>y::r
 | x::r,k+1,y=>x::setB r k y
theorem zk1:∀ (ts:TS) (k:Nat),setS ts k (getS ts k)=ts
 | [],_=>rfl
 | (j,x)::r,k=>by
  cases h:Nat.beq j k
  ·simp only [setS,getS,h,zk1 r k]
  ·simp only [setS,getS,h]
theorem zio:∀ (h:Heap) (k:Nat),setB h k (getB h k)=h
 | [],_=>rfl
 | _::_,0=>rfl
 | _::r,k+1=>by simp only [setB,getB,zio r k]
theorem zbM {E:Env0} {fn:Func} {h0:Heap} {c:Cfg} {R:AV->Heap->Prop} {e:TypeId} {ys:List (List AV)} {sh:Bool} {m:Nat} (k b:Nat) (xs:List (List AV)) (hg:Good E fn h0 c R) (h1:getS c.ts k=.own b m:=by rfl) (h2:getB c.h b=.row e ys sh:=by rfl) (he:xs=ys) (hm:ys.length=m):Good E fn h0 ⟨c.n,c.todo,setS c.ts k (.own b xs.length),setB c.h b (.row e xs sh)⟩ R:=by
 subst he
 rw [hm,← h1,← h2,zk1,zio]
 exact hg
theorem good_rowB {E:Env0} {fn:Func} {h0:Heap} {c:Cfg} {R:AV->Heap->Prop} {e:TypeId} {ys:List (List AV)} {sh:Bool} (b:Nat) (xs:List (List AV)) (hg:Good E fn h0 c R) (h2:getB c.h b=.row e ys sh:=by rfl) (he:xs=ys):Good E fn h0 ⟨c.n,c.todo,c.ts,setB c.h b (.row e xs sh)⟩ R:=by
 subst he
 rw [← h2,zio]
 exact hg
def cmpI (a b:Int):Int:=if a < b then -1 else if b < a then 1 else 0
def ltS (a b:Str):Bool:=Op.bytesLess a.toList b.toList
def eqS (a b:Str):Bool:=a.toList==b.toList
def cmpS (a b:Str):Int:=if ltS a b then -1 else if !(ltS a b || eqS a b) then 1 else 0
def orI:List Int->Int
 | []=>0
 | x::r=>if x=0 then orI r else x
abbrev isl (l:List Int):AV:=.sl (l.map fun n=>[iv n])
def cmpV (a b:V):Int:=orI [cmpI a.kind b.kind,cmpI a.int b.int,cmpS a.text b.text]
def okB (c:Nat):Bool:=!(decide ((c:Int) < 32))&&!(decide ((126:Int) < c))
def zhG (l:List UInt8):Bool:=match l with
 | []=>true
 | c::r=>okB c.toNat&&zhG r
def zhH (s:Str):Bool:=zhG s.data.toList&&decide ((s.size:Int)<=64)
noncomputable def zh1 (s:Str) (i:Nat):Cfg:=zaj B.BP 0 [(0,sv s),(5,iv (s.size:Nat)),(6,iv (i:Nat))] []
theorem zjV (s:Str) (hl:s.size < 9223372036854775807):∀ (k i:Nat),i+k=s.size->Good E0 B.BP [] (zh1 s i) (Shut 0 fun r h=>r=bv (zhG (s.data.toList.drop i)&&decide ((s.size:Int)<=64))/\h=[]):=by
 intro k
 induction k with
 | zero =>
  intro i hi
  refine zab ?_
  have h0:decide ((i:Int) < (s.size:Int))=false:=by simp;omega
  have e0:s.data.toList.drop i=[]:=List.drop_of_length_le (by simp [← hi])
  rw [e0]
  exact zeF E0ok mix0 3000 (y:=AV.v (Value.bool (decide ((↑(ByteArray.size s):Int)<=(64:Int))))) [sb h0] kr ⟨rfl,rfl⟩
 | succ k ih =>
  intro i hi
  have ih:=ih (i+1) Zo
  have hlt:i < s.size:=by omega
  have h0:decide ((i:Int) < (s.size:Int))=true:=by simp;omega
  have hb:ByteAt s (i:Int) ((s[i].toNat:Nat):Int):=⟨by omega,by simp [hlt]⟩
  have hw:=zch i Zo
  have e0:s.data.toList.drop i=s[i]::s.data.toList.drop (i+1):=by
   rw [List.drop_eq_getElem_cons (by simpa using hlt)];rfl
  rw [e0]
  generalize s[i]=c at hb
  simp only [zhG,okB]
  refine zab ?_
  cases h1:decide ((c.toNat:Int) < (32:Int))
  ·cases h2:decide ((126:Int) < (c.toNat:Int))
   ·exact zbX E0ok mix0 3000 (c':=zh1 s (i+(1:Nat))) [sb h0,sy hb,sg h1,sy hb,sb h2,si hw] [0,5,6] 0 kr kr (by simpa [h1,h2] using ih)
   ·exact zeF E0ok mix0 3000 (y:=AV.v (Value.bool false)) [sb h0,sy hb,sg h1,sy hb,sb h2] kr ⟨by simp [h1,h2],rfl⟩
  ·exact zeF E0ok mix0 3000 (y:=AV.v (Value.bool false)) [sb h0,sy hb,sb h1] kr ⟨by simp [h1],rfl⟩
theorem zi6 (s:Str) (hl:s.size < 9223372036854775807):Pure S.BP [sv s] (bv (zhH s)):=by
 exact zfl E0ok mix0 At.BP rfl kr kr 3000 (c':=zh1 s (0:Nat)) [] [0,5,6] 0 kr kr (by simpa [zhH] using zjV s hl s.size 0 Zs)
abbrev V.small (v:V):Prop:=v.text.size < 9223372036854775807
def zcg (v:V):Bool :=
 bif v.kind==(0:Int) then
  v.kind==(0:Int)&&(v.int==(0:Int)&&(v.text==ByteArray.mk #[]&&true))
 else
  bif v.kind==(1:Int) then
   ByteArray.toList v.text==Zs0.toList
  else
   bif v.kind==(2:Int) then
    bif v.int==(0:Int) then
     ByteArray.toList v.text==Zs0.toList
    else
     bif v.int==(1:Int) then
      ByteArray.toList v.text==Zs0.toList
     else
      false
   else
    bif v.kind==(3:Int) then
     bif v.int==(0:Int) then
      zhH v.text
     else
      false
    else
     false
theorem zfI (v:V) (hv:v.small):zaa E0 S.A7 [v.av] [] (bv (zcg v)) []:=by
 cases h1:v.kind==(0:Int)
 ·cases h2:v.kind==(1:Int)
  ·cases h3:v.kind==(2:Int)
   ·cases h4:v.kind==(3:Int)
    ·exact walk E0ok mix0 At.A7 rfl kr kr 3000 (y:=AV.v (Value.bool false)) [sb h1,sb h2,sb h3,sb h4] kr (by simp only [zcg,cond_true,cond_false,h1,h2,h3,h4] <;> rfl)
    ·cases h5:v.int==(0:Int)
     ·exact walk E0ok mix0 At.A7 rfl kr kr 3000 (y:=AV.v (Value.bool false)) [sb h1,sb h2,sb h3,sb h4,sb h5] kr (by simp only [zcg,cond_true,cond_false,h1,h2,h3,h4,h5] <;> rfl)
     ·exact walk E0ok mix0 At.A7 rfl kr kr 3000 (y:=AV.v (Value.bool (zhH v.text))) [sb h1,sb h2,sb h3,sb h4,sg h5,sc (zi6 v.text (by first|assumption|(simp;done)|omega|(simp;omega)))] kr (by simp only [zcg,cond_true,cond_false,h1,h2,h3,h4,h5] <;> rfl)
   ·cases h6:v.int==(0:Int)
    ·cases h7:v.int==(1:Int)
     ·exact walk E0ok mix0 At.A7 rfl kr kr 3000 (y:=AV.v (Value.bool false)) [sb h1,sb h2,sb h3,sg h6,sb h7] kr (by simp only [zcg,cond_true,cond_false,h1,h2,h3,h6,h7] <;> rfl)
     ·exact walk E0ok mix0 At.A7 rfl kr kr 3000 (y:=AV.v (Value.bool (ByteArray.toList v.text==Zs0.toList))) [sb h1,sb h2,sb h3,sg h6,sg h7] kr (by simp only [zcg,cond_true,cond_false,h1,h2,h3,h6,h7] <;> rfl)
    ·exact walk E0ok mix0 At.A7 rfl kr kr 3000 (y:=AV.v (Value.bool (ByteArray.toList v.text==Zs0.toList))) [sb h1,sb h2,sb h3,sb h6] kr (by simp only [zcg,cond_true,cond_false,h1,h2,h3,h6] <;> rfl)
  ·exact walk E0ok mix0 At.A7 rfl kr kr 3000 (y:=AV.v (Value.bool (ByteArray.toList v.text==Zs0.toList))) [sb h1,sb h2] kr (by simp only [zcg,cond_true,cond_false,h1,h2] <;> rfl)
 ·exact walk E0ok mix0 At.A7 rfl kr kr 3000 (y:=AV.v (Value.bool (v.kind==(0:Int)&&(v.int==(0:Int)&&(v.text==ByteArray.mk #[]&&true))))) [sb h1,sq ziH] kr (by simp only [zcg,cond_true,cond_false,h1] <;> rfl)
def ze4 (v:V):Bool :=
 bif zcg v then
  bif v.kind==2 then
   true
  else
   v.kind==(0:Int)
 else
  false
def lnot (v:V):V × Bool :=
 bif !ze4 v then
  (V.mk 0 0 Zs0,false)
 else
  bif v.kind==0 then
   (v,true)
  else
   (V.mk (2:Int) (if (v.int==(0:Int))=true then (1:Int) else (0:Int)) Zs0,true)
def zlI (a b:V):V :=
 bif a.kind==2&&((a.int==if false=true then 1 else 0)&&(a.text==ByteArray.mk #[]&&true)) then
  V.mk 2 (if false=true then 1 else 0) Zs0
 else
  bif b.kind==2&&((b.int==if false=true then 1 else 0)&&(b.text==ByteArray.mk #[]&&true)) then
   V.mk 2 (if false=true then 1 else 0) Zs0
  else
   bif a.kind==0 then
    V.mk 0 0 Zs0
   else
    bif b.kind==0 then
     V.mk 0 0 Zs0
    else
     V.mk 2 (if true=true then 1 else 0) Zs0
def land (a b:V):V × Bool :=
 bif !ze4 a then
  (V.mk 0 0 Zs0,false)
 else
  bif !ze4 b then
   (V.mk 0 0 Zs0,false)
  else
   (zlI a b,true)
def lor (a b:V):V × Bool :=
 bif !ze4 a then
  (V.mk 0 0 Zs0,false)
 else
  bif !ze4 b then
   (V.mk 0 0 Zs0,false)
  else
   ((lnot (zlI (lnot a).fst (lnot b).fst)).fst,(lnot (zlI (lnot a).fst (lnot b).fst)).snd)
def isTrue (a:V):Bool :=
 a.kind==(2:Int)&&((a.int==if true=true then (1:Int) else (0:Int))&&(a.text==ByteArray.mk #[]&&true))
def aAdd (a b:Int):Int × Bool :=
 bif decide (0 < b) then
  bif decide (IntKind.i64.wrap (9223372036854775807 - b) < a) then
   (0,false)
  else
   bif decide (b < 0) then
    bif decide (a < IntKind.i64.wrap (-9223372036854775808 - b)) then
     (0,false)
    else
     (IntKind.i64.wrap (a+b),true)
   else
    (IntKind.i64.wrap (a+b),true)
 else
  bif decide (b < 0) then
   bif decide (a < IntKind.i64.wrap (-9223372036854775808 - b)) then
    (0,false)
   else
    (IntKind.i64.wrap (a+b),true)
  else
   (IntKind.i64.wrap (a+b),true)
def aSub (a b:Int):Int × Bool :=
 bif decide (b < 0) then
  bif decide (IntKind.i64.wrap (9223372036854775807+b) < a) then
   (0,false)
  else
   bif decide (0 < b) then
    bif decide (a < IntKind.i64.wrap (-9223372036854775808+b)) then
     (0,false)
    else
     (IntKind.i64.wrap (a - b),true)
   else
    (IntKind.i64.wrap (a - b),true)
 else
  bif decide (0 < b) then
   bif decide (a < IntKind.i64.wrap (-9223372036854775808+b)) then
    (0,false)
   else
    (IntKind.i64.wrap (a - b),true)
  else
   (IntKind.i64.wrap (a - b),true)
def aMul (a b:Int):Int × Bool :=
 bif a==0 then
  (0,true)
 else
  bif b==0 then
   (0,true)
  else
   bif a==-9223372036854775808 then
    bif b==-1 then
     (0,false)
    else
     bif b==-9223372036854775808 then
      bif a==-1 then
       (0,false)
      else
       bif IntKind.i64.wrap ((IntKind.i64.wrap (a * b)).tdiv b) != a then
        (0,false)
       else
        (IntKind.i64.wrap (a * b),true)
     else
      bif IntKind.i64.wrap ((IntKind.i64.wrap (a * b)).tdiv b) != a then
       (0,false)
      else
       (IntKind.i64.wrap (a * b),true)
   else
    bif b==-9223372036854775808 then
     bif a==-1 then
      (0,false)
     else
      bif IntKind.i64.wrap ((IntKind.i64.wrap (a * b)).tdiv b) != a then
       (0,false)
      else
       (IntKind.i64.wrap (a * b),true)
    else
     bif IntKind.i64.wrap ((IntKind.i64.wrap (a * b)).tdiv b) != a then
      (0,false)
     else
      (IntKind.i64.wrap (a * b),true)
def aDiv (a b:Int):Int × Bool :=
 bif b==0 then
  (0,false)
 else
  bif a==-9223372036854775808 then
   bif b==-1 then
    (0,false)
   else
    (IntKind.i64.wrap (a.tdiv b),true)
  else
   (IntKind.i64.wrap (a.tdiv b),true)
def aMod (a b:Int):Int × Bool :=
 bif b==0 then
  (0,false)
 else
  bif b==-1 then
   (0,true)
  else
   (a.tmod b,true)
def zdt (v:V) (ok:Bool):V × Int :=
 bif !ok then
  (V.mk 0 0 Zs0,5)
 else
  (v,0)
def cmpOp (op c:Int):Bool:=bif op==3 then c==0 else bif op==4 then c != 0 else bif op==5 then decide (c < 0) else bif op==6 then decide (c<=0) else bif op==7 then decide (0 < c) else decide (0<=c)
def vCmp (op:Int) (a b:V):V × Int :=
 bif a.kind==0 then
  (V.mk 0 0 Zs0,0)
 else
  bif b.kind==0 then
   (V.mk 0 0 Zs0,0)
  else
   bif a.kind != b.kind then
    (V.mk 0 0 Zs0,5)
   else
    (V.mk 2 (if cmpOp op (cmpV a b)=true then 1 else 0) Zs0,0)
def zhZ (op:Int) (a b:V):V × Int :=
 bif a.kind==0 then
  (V.mk 0 0 Zs0,0)
 else
  bif b.kind==0 then
   (V.mk 0 0 Zs0,0)
  else
   bif a.kind != 1 then
    (V.mk 0 0 Zs0,5)
   else
    bif b.kind != 1 then
     (V.mk 0 0 Zs0,5)
    else
     bif op==12 then
      bif b.int==0 then
       (V.mk 0 0 Zs0,7)
      else
       bif op==9 then
        bif !(aAdd a.int b.int).snd then
         (V.mk 0 0 Zs0,6)
        else
         (V.mk 1 (aAdd a.int b.int).fst Zs0,0)
       else
        bif op==10 then
         bif !(aSub a.int b.int).snd then
          (V.mk 0 0 Zs0,6)
         else
          (V.mk 1 (aSub a.int b.int).fst Zs0,0)
        else
         bif op==11 then
          bif !(aMul a.int b.int).snd then
           (V.mk 0 0 Zs0,6)
          else
           (V.mk 1 (aMul a.int b.int).fst Zs0,0)
         else
          bif !(aDiv a.int b.int).snd then
           (V.mk 0 0 Zs0,6)
          else
           (V.mk 1 (aDiv a.int b.int).fst Zs0,0)
     else
      bif op==13 then
       bif b.int==0 then
        (V.mk 0 0 Zs0,7)
       else
        bif op==9 then
         bif !(aAdd a.int b.int).snd then
          (V.mk 0 0 Zs0,6)
         else
          (V.mk 1 (aAdd a.int b.int).fst Zs0,0)
        else
         bif op==10 then
          bif !(aSub a.int b.int).snd then
           (V.mk 0 0 Zs0,6)
          else
           (V.mk 1 (aSub a.int b.int).fst Zs0,0)
         else
          bif op==11 then
           bif !(aMul a.int b.int).snd then
            (V.mk 0 0 Zs0,6)
           else
            (V.mk 1 (aMul a.int b.int).fst Zs0,0)
          else
           bif !(aMod a.int b.int).snd then
            (V.mk 0 0 Zs0,6)
           else
            (V.mk 1 (aMod a.int b.int).fst Zs0,0)
      else
       bif op==9 then
        bif !(aAdd a.int b.int).snd then
         (V.mk 0 0 Zs0,6)
        else
         (V.mk 1 (aAdd a.int b.int).fst Zs0,0)
       else
        bif op==10 then
         bif !(aSub a.int b.int).snd then
          (V.mk 0 0 Zs0,6)
         else
          (V.mk 1 (aSub a.int b.int).fst Zs0,0)
        else
         bif op==11 then
          bif !(aMul a.int b.int).snd then
           (V.mk 0 0 Zs0,6)
          else
           (V.mk 1 (aMul a.int b.int).fst Zs0,0)
         else
          (V.mk 0 0 Zs0,6)
def zkn (x y z:V):V × Int :=
 bif (vCmp 6 y x).snd != 0 then
  (V.mk 0 0 Zs0,(vCmp 6 y x).snd)
 else
  bif (vCmp 6 x z).snd != 0 then
   (V.mk 0 0 Zs0,(vCmp 6 x z).snd)
  else
   ((zdt (land (vCmp 6 y x).fst (vCmp 6 x z).fst).fst (land (vCmp 6 y x).fst (vCmp 6 x z).fst).snd).fst,(zdt (land (vCmp 6 y x).fst (vCmp 6 x z).fst).fst (land (vCmp 6 y x).fst (vCmp 6 x z).fst).snd).snd)
def zna (op:Int) (nt:Bool) (a:V):V × Int :=
 (V.mk (2:Int) (if (!(a.kind==(0:Int))==nt)=true then (1:Int) else (0:Int)) Zs0,0)
def opNot (op:Int) (nt:Bool) (a:V):V × Int :=
 ((zdt (lnot a).fst (lnot a).snd).fst,(zdt (lnot a).fst (lnot a).snd).snd)
def opNeg (op:Int) (nt:Bool) (a:V):V × Int :=
 ((zhZ 10 (V.mk 1 0 Zs0) a).fst,(zhZ 10 (V.mk 1 0 Zs0) a).snd)
def opBet (op:Int) (nt:Bool) (a b c:V):V × Int :=
 ((zkn a b c).fst,(zkn a b c).snd)
def opBin (op:Int) (nt:Bool) (a b:V):V × Int :=
 bif op==2 then
  ((zdt (land a b).fst (land a b).snd).fst,(zdt (land a b).fst (land a b).snd).snd)
 else
  bif op==1 then
   ((zdt (lor a b).fst (lor a b).snd).fst,(zdt (lor a b).fst (lor a b).snd).snd)
  else
   bif decide (op<=8) then
    ((vCmp op a b).fst,(vCmp op a b).snd)
   else
    ((zhZ op a b).fst,(zhZ op a b).snd)
abbrev zae {α:Type} (l:List α):Prop:=l.length<=1000000000
def idxF {α:Type} (p:α->Bool):List α->Nat->Int
 | [],_=>-1
 | x::r,i=>bif p x then (i:Int) else idxF p r (i+1)
theorem zid {α:Type} (p:α->Bool):∀ (l:List α) (i:Nat),(idxF p l i=-1/\l.find? p=none)\/∃ (j:Nat) (x:α),idxF p l i=((i+j:Nat):Int)/\l[j]?=some x/\l.find? p=some x
 | [],i=>.inl ⟨rfl,rfl⟩
 | x::r,i=>by
  cases hp:p x
  ·rcases zid p r (i+1) with ⟨h1,h2⟩|⟨j,y,h1,h2,h3⟩
   ·exact .inl ⟨by simp [idxF,hp,h1],by simp [hp,h2]⟩
   ·exact .inr ⟨j+1,y,by simp only [idxF,hp,cond_false,h1];omega,by simpa using h2,by simp [hp,h3]⟩
  ·exact .inr ⟨0,x,by simp [idxF,hp],by simp,by simp [hp]⟩
def zaC (t:Tb) (n:Str):Bool :=
 ByteArray.toList t.sch.name==ByteArray.toList n
def colC (t:Col) (n:Str):Bool :=
 ByteArray.toList t.name==ByteArray.toList n
theorem zd0 (t:Col) (n:Str) :zaa E0 S.BN [.agg t.cells,.p 0 0] [.box [sv n]] (bv (colC t n)) [.box [sv n]]:=by
 exact walkH E0ok mix0 At.BN rfl kr kr 3000 (y:=AV.v (Value.bool (ByteArray.toList t.name==ByteArray.toList n))) (H:=[Blk.box [AV.v (Value.string n)]]) [] kr (⟨rfl,rfl⟩)
noncomputable def zk6 (tb:List Col) (n:Str) (i:Nat):Cfg:=zaj B.Af 0 [(0,.sl (tb.map Col.cells)),(1,.fn S.BN [.p 0 0]),(7,iv ((tb.map Col.cells).length:Nat)),(8,iv (i:Nat))] [.box [sv n]]
theorem zlF (tb:List Col) (n:Str) (hl:zae tb):∀ (k i:Nat),i+k=tb.length->Good E0 B.Af [.box [sv n]] (zk6 tb n i) (Shut 1 fun r h=>r=iv (idxF (fun t=>colC t n) (tb.drop i) i)/\h=[.box [sv n]]):=by
 intro k
 induction k with
 | zero =>
  intro i hi
  refine zab ?_
  have h0:decide ((i:Int) < (((tb.map Col.cells).length:Nat):Int))=false:=by simp;omega
  have e0:tb.drop i=[]:=List.drop_of_length_le Zo
  rw [e0]
  exact zeF E0ok mix0 3000 (y:=AV.v (Value.int IntKind.i64 (-1:Int))) (H:=[Blk.box [AV.v (Value.string n)]]) [sb h0] kr (⟨rfl,rfl⟩)
 | succ k ih =>
  intro i hi
  have ih:=ih (i+1) Zo
  obtain ⟨x,hx⟩:=zdG (l:=tb) (i:=i) Zo
  have h0:decide ((i:Int) < (((tb.map Col.cells).length:Nat):Int))=true:=by simp;omega
  have hw:=zch i Zo
  rw [zbw hx]
  simp only [idxF]
  refine zab ?_
  cases h1:colC x n
  ·exact zbX E0ok mix0 3000 (c':=zk6 tb n (i+(1:Nat))) [sb h0,se (zat Col.cells hx rfl),sl [(0:Nat)] (zd0 x n),sb h1,si hw] [0,1,7,8] 1 kr kr (by simpa only [cond_true,cond_false,h1] using ih)
  ·exact zeF E0ok mix0 3000 (y:=AV.v (Value.int IntKind.i64 (i:Int))) (H:=[Blk.box [AV.v (Value.string n)]]) [sb h0,se (zat Col.cells hx rfl),sl [(0:Nat)] (zd0 x n),sb h1] kr (⟨by simp only [cond_true,cond_false,h1],rfl⟩)
theorem zdK (tb:List Col) (n:Str) (hl:zae tb):zaa E0 S.Af [.sl (tb.map Col.cells),.fn S.BN [.p 0 0]] [.box [sv n]] (iv (idxF (fun t=>colC t n) tb 0)) [.box [sv n]]:=by
 exact zfl E0ok mix0 At.Af rfl kr kr 3000 (c':=zk6 tb n (0:Nat)) [] [0,1,7,8] 1 kr kr (by simpa using zlF tb n hl tb.length 0 Zs)
def zje (tb:List Tb) (n:Str):Option Tb:=tb.find? fun t=>zaC t n
def Tb.zero:Tb:=⟨⟨⟨#[]⟩,[]⟩,0,[]⟩
theorem zi4 (s:Sch) (n:Str) (hl:zae s.cols):Pure S.Cg [s.av,sv n] (iv (idxF (fun c=>colC c n) s.cols 0)):=by
 exact walk E0ok mix0 At.Cg rfl kr kr 3000 (y:=AV.v (Value.int IntKind.i64 (idxF (fun t=>colC t n) s.cols (0:Nat)))) [sl [(1:Nat)] (zdK s.cols n (by first|assumption|(simp;done)|omega|(simp;omega)))] kr (rfl)
def zh9 (kind op:Int) (xs:List X) (qs:List Qy) (it wh:List X):Bool :=
 bif kind==1 then
  bif (↑(zad xs).length:Int) != 0 then
   false
  else
   bif (↑(zag qs).length:Int) != 0 then
    false
   else
    true
 else
  bif kind==2 then
   bif (↑(zad xs).length:Int) != 0 then
    false
   else
    bif (↑(zag qs).length:Int) != 0 then
     false
    else
     true
  else
   bif kind==3 then
    bif (↑(zad xs).length:Int) != 1 then
     false
    else
     bif (↑(zag qs).length:Int) != 0 then
      false
     else
      true
   else
    bif kind==4 then
     bif (↑(zad xs).length:Int) != 1 then
      false
     else
      bif (↑(zag qs).length:Int) != 0 then
       false
      else
       true
    else
     bif kind==6 then
      bif (↑(zad xs).length:Int) != 1 then
       false
      else
       bif (↑(zag qs).length:Int) != 0 then
        false
       else
        true
     else
      bif kind==5 then
       bif decide (op < 1) then
        false
       else
        bif decide (13 < op) then
         false
        else
         bif (↑(zad xs).length:Int) != 2 then
          false
         else
          bif (↑(zag qs).length:Int) != 0 then
           false
          else
           true
      else
       bif kind==7 then
        bif (↑(zad xs).length:Int) != 3 then
         false
        else
         bif (↑(zag qs).length:Int) != 0 then
          false
         else
          true
       else
        bif kind==8 then
         bif (↑(zad xs).length:Int) != 0 then
          false
         else
          bif (↑(zag qs).length:Int) != 1 then
           false
          else
           bif (↑(zad it).length:Int)==0 then
            decide ((↑(zad wh).length:Int)<=(1:Int))
           else
            false
        else
         bif kind==9 then
          bif (↑(zad xs).length:Int) != 0 then
           false
          else
           bif (↑(zag qs).length:Int) != 1 then
            false
           else
            bif (↑(zad it).length:Int)==0 then
             decide ((↑(zad wh).length:Int)<=(1:Int))
            else
             false
         else
          bif kind==10 then
           bif (↑(zad xs).length:Int) != 0 then
            false
           else
            bif (↑(zag qs).length:Int) != 1 then
             false
            else
             bif (↑(zad it).length:Int)==1 then
              decide ((↑(zad wh).length:Int)<=(1:Int))
             else
              false
          else
           bif kind==11 then
            bif (↑(zad xs).length:Int) != 0 then
             false
            else
             bif (↑(zag qs).length:Int) != 1 then
              false
             else
              bif (↑(zad it).length:Int)==1 then
               decide ((↑(zad wh).length:Int)<=(1:Int))
              else
               false
           else
            bif kind==12 then
             bif (↑(zad xs).length:Int) != 0 then
              false
             else
              bif (↑(zag qs).length:Int) != 1 then
               false
              else
               bif (↑(zad it).length:Int)==1 then
                decide ((↑(zad wh).length:Int)<=(1:Int))
               else
                false
            else
             false
def zh8 (kind op:Int) (xs:List X):Bool :=
 bif kind==1 then
  bif (↑(zad xs).length:Int) != 0 then
   false
  else
   true
 else
  bif kind==2 then
   bif (↑(zad xs).length:Int) != 0 then
    false
   else
    true
  else
   bif kind==3 then
    bif (↑(zad xs).length:Int) != 1 then
     false
    else
     true
   else
    bif kind==4 then
     bif (↑(zad xs).length:Int) != 1 then
      false
     else
      true
    else
     bif kind==6 then
      bif (↑(zad xs).length:Int) != 1 then
       false
      else
       true
     else
      bif kind==5 then
       bif decide (op < 1) then
        false
       else
        bif decide (13 < op) then
         false
        else
         bif (↑(zad xs).length:Int) != 2 then
          false
         else
          true
      else
       bif kind==7 then
        bif (↑(zad xs).length:Int) != 3 then
         false
        else
         true
       else
        bif kind==8 then
         bif (↑(zad xs).length:Int) != 0 then
          false
         else
          false
        else
         bif kind==9 then
          bif (↑(zad xs).length:Int) != 0 then
           false
          else
           false
         else
          bif kind==10 then
           bif (↑(zad xs).length:Int) != 0 then
            false
           else
            false
          else
           bif kind==11 then
            bif (↑(zad xs).length:Int) != 0 then
             false
            else
             false
           else
            bif kind==12 then
             bif (↑(zad xs).length:Int) != 0 then
              false
             else
              false
            else
             false
def modI (v n:Int):Int:=bif decide (v.tmod n < 0) then IntKind.i64.wrap (v.tmod n+n) else v.tmod n
theorem zkC (v n:Int) (hn:n≠0):Pure S.B4 [iv v,iv n] (iv (modI v n)):=by
 unfold modI
 cases h1:decide (v.tmod n < (0:Int))
 ·exact wk At.B4 [sx (.i (v.tmod n)) (show ¬n=(0:Int)/\(v.tmod n:Int)=v.tmod n from ⟨hn,rfl⟩),sb h1] kr
 ·exact wk At.B4 [sx (.i (v.tmod n)) (show ¬n=(0:Int)/\(v.tmod n:Int)=v.tmod n from ⟨hn,rfl⟩),sb h1,si (e:=IntKind.i64.wrap (v.tmod n+n)) rfl] kr
def Tp.next (t:Tp) (n:Int):Nat × Tp:=match t.l[t.pos]? with
 | some x=>((modI x n).toNat,⟨t.l,t.pos+1,t.ok⟩)
 | none=>(0,t)
theorem zlM (v n:Int) (hn:0 < n) (hv:n<=9223372036854775807):0<=modI v n/\modI v n < n:=by
 unfold modI
 have h1:=Int.tmod_lt_of_pos v hn
 have h2:-n < v.tmod n:=by
  have:=Int.tmod_lt_of_pos (-v) hn
  rw [Int.neg_tmod] at this;omega
 cases h:decide (v.tmod n < 0)
 ·simp at h;simp;omega
 ·simp at h;simp only [cond_true];rw [IntKind.wrap_i64];omega
abbrev Pos (n:Int):Prop:=0 < n/\n<=9223372036854775807
abbrev I64 (n:Int):Prop:=-9223372036854775808<=n/\n<=9223372036854775807
structure V.Good (v:V):Prop where
 valid:zcg v=true
 i64:I64 v.int
 small:v.small
def xLit (v:V):X :=
 X.mk 1 0 false v Zs0 Zs0 [] []
def xCol (t n:Str):X :=
 X.mk 2 0 false (V.mk 0 0 Zs0) t n [] []
def xBin (op:Int) (a b:X):X :=
 X.mk 5 op false (V.mk 0 0 Zs0) Zs0 Zs0 [a,b] []
end Go.AM
namespace Go.AM
open Go.RowKit
section
variable {E : Env0}
theorem zm2 (ht:zan E) {fn:Func} {R:AV->Heap->Prop} {h0:Heap} {n:Nat} {ts:TS} {h:Heap} {y:AV} (hv:retV E ts h fn.results.toList=some y) (hR:R y h):Good E fn h0 ⟨n,[],ts,h⟩ R:=by
 intro β0 S0 w0 β S w tmps hb0 hn x0 r rt
 simp only at r rt x0
 have key:∀ v,(results fn tmps).run E.P w=.ok v w->RelV E.T h β w S y v->kont E.P [] (bodyPost E.P fn (Post E h0 β0 S0 w0 R)) .normal ⟨tmps,[]⟩ w:=by
  intro v hrun hrel
  have hpost:bodyPost E.P fn (Post E h0 β0 S0 w0 R) .normal ⟨tmps,[]⟩ w:=⟨rfl,v,hrun,y,h,β,S,v,rfl,hR,r,x0,hrel⟩
  exact hpost
 unfold retV at hv
 cases ha:zd8 E ts h fn.results.toList with
 | none=>simp [ha] at hv
 | some ys =>
  obtain ⟨vs,w1,w2⟩:=zgp ht r rt _ ys ha
  have hrun:(results fn tmps).run E.P w=.ok (if hh:vs.toArray.size=1 then vs.toArray[0] else .tuple vs.toArray) w:=by
   rw [zhL,Array.mapM_eq_mapM_toList]
   simp only [Sem.run_bind,Sem.run_map]
   rw [w1]
   simp only [Result.andThen_ok,Sem.run_pure]
  rw [ha] at hv
  split at hv
  ·rename_i x hx
   cases hx
   cases hv
   have hvl:=w2.1
   match vs,hvl,w2,hrun with
   | [v],_,w2,hrun =>
    refine key v ?_ w2.uncons.1
    rw [hrun]
    simp
   | [],hvl,_,_=>simp at hvl
   | _::_::_,hvl,_,_=>simp at hvl
  ·rename_i xs hne hx
   cases hx
   cases hv
   refine key (.tuple vs.toArray) ?_ (.tup _ _ w2.1 w2.2)
   rw [hrun,dif_neg]
   intro h1
   have hl:ys.length=1:=by rw [w2.1];simpa using h1
   match ys,hl with
   | [a],_=>exact hne a rfl
  ·rename_i hx
   cases hx
end
theorem ziY {E:Env0} {fn:Func} {h0:Heap} {c c':Cfg} {R:AV->Heap->Prop} (b i:Nat) (live:List Nat) (m:Nat) {cs:List AV} (hb:c.h[b]?=some (.box cs)) (hi:cs[i]?=some .nl) (hm:Nat.ble h0.length m=true)
  (he:cut live m ⟨c.n,c.todo,c.ts,c.h.set b (.box (cs.set i (.sl [])))⟩=c') (hg:Good E fn h0 c' R):Good E fn h0 c R:=by
 have hg':=zb9 live m (Nat.le_of_ble_eq_true hm) (he ▸ hg)
 intro β0 S0 w0 β S w tmps hb0 hn x0 r rt
 have x2:=zdH (β:=β) (S:=S) (w:=w) hb (cs.set i (.sl []))
 have r2:=r.setBox hb (cs.set i (.sl [])) (fun g' vs' t' e2 e3 e4 e5=>by
  refine ⟨by simpa using e4,fun j x' y hx hy=>?_⟩
  by_cases hij:i=j
  ·subst hij
   rw [List.getElem?_set_self (List.getElem?_eq_some_iff.1 hi).1] at hx
   cases hx
   have:=e5 i .nl y hi hy
   refine ⟨?_,this.2⟩
   obtain ⟨a,rfl⟩:=zfu this.1
   exact .d _ _ (.sl [] a 0 0 0 0 (fun _=>undef) (fun hn=>absurd rfl hn) (Nat.le_refl _) (Nat.zero_le _) Zs Zs Zs)
  ·rw [List.getElem?_set_ne hij] at hx
   exact e5 j x' y hx hy)
 exact hg' β0 S0 w0 β S w tmps hb0 hn (x0.trans x2) r2 fun t'=>(rt t').ext x2
def finE (E:Env) (fn:Func) (m n:Nat) (c:Cfg) (os:List Orc):Option (List Prop × AV × Heap) :=
 match run E n c os with
 | (q,⟨_,[],ts,h⟩,[])=>match retV E.toEnv0 ts h fn.results.toList with
  | some y=>some ((match frzM y with|[]=>q|_::_=>frzO h y::q),frz h y,((share h (frzM y)).take m).map (zay (za2 m)))
  | none=>none
 | _=>none
theorem zix {E:Env0} (ht:zan E) (hmix:E.P.follows .mixedOrders=true) {fn:Func} {R:AV->Heap->Prop} {h0:Heap} {c:Cfg} (n:Nat) (os:List Orc) {q:List Prop} {y:AV} {H:Heap} {m:Nat}
  (hfin:finE (mk E) fn m n c os=some (q,y,H)) (hq:allP q) (hR:R y H):Good E fn h0 c (Shut m R):=by
 unfold finE at hfin
 split at hfin
 ·rename_i q' n' ts h' hrun
  split at hfin
  ·rename_i y' hret
   simp only [Option.some.injEq,Prod.mk.injEq] at hfin
   obtain ⟨h1,h2,h3⟩:=hfin
   have hqo:allP q'/\frzO h' y':=by
    split at h1
    ·rename_i hm
     subst h1
     exact ⟨hq,zcT y' hm⟩
    ·subst h1
     obtain ⟨a,b⟩:=zes hq
     exact ⟨b,a⟩
   refine zds ht hmix n c os (by rw [hrun];exact hqo.1) ?_
   rw [hrun]
   exact zm2 ht hret ⟨hqo.2,by rw [h2,h3];exact hR⟩
  ·cases hfin
 ·cases hfin
theorem wkrE {fn:Func} {h0:Heap} {c:Cfg} {r:AV} {H:Heap} {m:Nat} (l:List St) (hfin:finE (mk E0) fn m 3000 c (orcs l)=some (zaG l,r,H)):Good E0 fn h0 c (Shut m fun y h=>y=r/\h=H) :=
 zix E0ok mix0 3000 (orcs l) hfin (zau l) ⟨rfl,rfl⟩
noncomputable def runFE (fn:Func) (args:List AV) (h:Heap) (os:List Orc):Option (List Prop × AV × Heap) :=
 match fn.body, (fn.name == "runtime.NumGoroutine"), Nat.ble args.length fn.ntmps with
 | some c,false,true=>finE (mk E0) fn h.length 3000 ⟨fn.ntmps,[.code c],zbt 0 args,h⟩ os
 | _,_,_=>none
theorem wkE {f:FuncId} {fn:Func} {args:List AV} {h H:Heap} {r:AV} (hf:E0.P.funcs[f]?=some fn) (l:List St) (hfin:runFE fn args h (orcs l)=some (zaG l,r,H)):zaa E0 f args h r H:=by
 unfold runFE at hfin
 split at hfin
 ·rename_i c hb hn ha
  exact zcu (zaw hf hb hn (Nat.le_of_ble_eq_true ha) (zix E0ok mix0 3000 (orcs l) hfin (zau l) ⟨rfl,rfl⟩))
 ·cases hfin
end Go.AM
namespace Go.AM
inductive Ct where
 | fz (t:Nat)
 | os (t:Nat)
 | bl (t:Nat)
 | bx (k q:Nat)
 | nl (k q:Nat)
 | ot (t:Nat) (e:TypeId)
 | ob (k q:Nat) (e:TypeId)
def ctM (live:List Nat) (m:Nat) (x:Ct) (c:Cfg):Option (List Prop × Cfg):=match x with
 | .fz t=>some ([frzO c.h (look c.ts t)],cut live m ⟨c.n,c.todo,(t,frz c.h (look c.ts t))::c.ts,share c.h (frzM (look c.ts t))⟩)
 | .os t=>match look c.ts t with
  | .own b n=>some ([],cut live m ⟨c.n,c.todo,(t,.os b n 0 n)::c.ts,c.h⟩)
  | _=>none
 | .bl t=>match look c.ts t with
  | .bl b=>some ([],cut live m ⟨c.n,c.todo,(t,.v (.bool b))::c.ts,c.h⟩)
  | _=>none
 | .bx k q=>match c.h[k]? with
  | some (.box cs)=>match cs[q]? with
   | some (.bl b)=>some ([],cut live m ⟨c.n,c.todo,c.ts,c.h.set k (.box (cs.set q (.v (.bool b))))⟩)
   | _=>none
  | _=>none
 | .nl k q=>match c.h[k]? with
  | some (.box cs)=>match cs[q]? with
   | some .nl=>some ([],cut live m ⟨c.n,c.todo,c.ts,c.h.set k (.box (cs.set q (.sl [])))⟩)
   | _=>none
  | _=>none
 | .ot t e=>match look c.ts t with
  | .nl=>some ([],cut live m ⟨c.n,c.todo,(t,.own c.h.length 0)::c.ts,c.h++[Blk.row e [] false]⟩)
  | _=>none
 | .ob k q e=>match c.h[k]? with
  | some (.box cs)=>match cs[q]? with
   | some .nl=>some ([],cut live m ⟨c.n,c.todo,c.ts,(c.h++[Blk.row e [] false]).set k (.box (cs.set q (.own c.h.length 0)))⟩)
   | _=>none
  | _=>none
theorem ctM_ok {E:Env0} {fn:Func} {h0:Heap} {c c':Cfg} {R:AV->Heap->Prop} {live:List Nat} {m:Nat} {x:Ct} {q:List Prop} (hm:Nat.ble h0.length m=true) (h:ctM live m x c=some (q,c')) (ho:allP q) (hg:Good E fn h0 c' R):Good E fn h0 c R:=by
 cases x with
 | fz t =>
  cases h
  exact zku t live m rfl rfl ho hm rfl hg
 | os t =>
  simp only [ctM] at h
  split at h
  ·rename_i b n hl
   cases h
   exact zlz t b n live m hl hm rfl hg
  ·cases h
 | bl t =>
  simp only [ctM] at h
  split at h
  ·rename_i b hl
   cases h
   exact zly t b live m hl hm rfl hg
  ·cases h
 | bx k q =>
  simp only [ctM] at h
  split at h
  ·rename_i cs hb
   split at h
   ·rename_i b hi
    cases h
    exact ziX k q b live m hb hi hm rfl hg
   ·cases h
  ·cases h
 | nl k q =>
  simp only [ctM] at h
  split at h
  ·rename_i cs hb
   split at h
   ·rename_i hi
    cases h
    exact ziY k q live m hb hi hm rfl hg
   ·cases h
  ·cases h
 | ot t e =>
  simp only [ctM] at h
  split at h
  ·rename_i hl
   cases h
   exact zkw t e live m hl hm rfl hg
  ·cases h
 | ob k q e =>
  simp only [ctM] at h
  split at h
  ·rename_i cs hb
   split at h
   ·rename_i hi
    cases h
    exact zib k q e live m hb hi hm rfl hg
   ·cases h
  ·cases h
def cts (live:List Nat) (n0:Nat):List (Ct × Nat)->List Prop->Cfg->Option (List Prop × Cfg)
 | [],q,c=>some (q,c)
 | (x,m)::r,q,c=>match Nat.ble n0 m,ctM live m x c with
  | true,some (q1,c1)=>cts live n0 r (q++q1) c1
  | _,_=>none
theorem zbL:∀ {a b:List Prop},allP (a++b)->allP a/\allP b
 | [],_,h=>⟨trivial,h⟩
 | [_],[],h=>⟨h,trivial⟩
 | [_],_::_,h=>⟨h.1,h.2⟩
 | _::q::r,b,h=>by
  have:=zbL (a:=q::r) (b:=b) h.2
  exact ⟨⟨h.1,this.1⟩,this.2⟩
theorem zgx {live:List Nat} {n0:Nat}:∀ {l:List (Ct × Nat)} {q q':List Prop} {c c':Cfg},cts live n0 l q c=some (q',c')->∃ q2,q'=q++q2
 | [],_,_,_,_,h=>by
  cases h
  exact ⟨[],by simp⟩
 | (x,m)::r,q,q',c,c',h=>by
  simp only [cts] at h
  split at h
  ·rename_i q1 c1 _ _
   obtain ⟨q2,h2⟩:=zgx h
   exact ⟨q1++q2,by rw [h2,List.append_assoc]⟩
  ·cases h
theorem zjC {E:Env0} {fn:Func} {h0:Heap} {R:AV->Heap->Prop} {live:List Nat}:∀ {l:List (Ct × Nat)} {q q':List Prop} {c c':Cfg},cts live h0.length l q c=some (q',c')->allP q'->Good E fn h0 c' R->Good E fn h0 c R
 | [],_,_,_,_,h,_,hg=>by
  cases h
  exact hg
 | (x,m)::r,q,q',c,c',h,ho,hg=>by
  simp only [cts] at h
  split at h
  ·rename_i q1 c1 hm hc
   obtain ⟨q2,h2⟩:=zgx h
   have h3:allP q1:=by
    rw [h2] at ho
    exact (zbL (zbL ho).1).2
   exact ctM_ok hm hc h3 (zjC h ho hg)
  ·cases h
noncomputable def zhY (fn:Func) (args:List AV) (h:Heap) (live:List Nat) (m:Nat) (k:List (Ct × Nat)) (os:List Orc):Option (List Prop × Cfg) :=
 match zfF fn args h live m os with
 | some (q,c)=>cts live h.length k q c
 | none=>none
theorem ziL {fn:Func} {h0:Heap} {c c':Cfg} {R:AV->Heap->Prop} {live:List Nat} {m:Nat} {os:List Orc} {q:List Prop} (hm:Nat.ble h0.length m=true) (hu:upto (mk E0) live m 3000 c os=(q,c')) (hq:allP q) (hg:Good E0 fn h0 c' R):Good E0 fn h0 c R:=by
 unfold upto at hu
 have h1:(run (mk E0) 3000 c os).1=q:=by
  have:=congrArg Prod.fst hu
  exact this
 have h2:cut live m (run (mk E0) 3000 c os).2.1=c':=congrArg Prod.snd hu
 exact zkW E0ok mix0 3000 os live m hm h1 h2 hq hg
theorem wkcN {f:FuncId} {fn:Func} {args:List AV} {h:Heap} {R:AV->Heap->Prop} {c':Cfg} (hf:E0.P.funcs[f]?=some fn) (l:List St) (live:List Nat) (m:Nat) (k:List (Ct × Nat)) (hu:zhY fn args h live m k (orcs l)=some (zaG l,c'))
  (hg:Good E0 fn h c' (Shut h.length R)):zbh E0 f args h R:=by
 unfold zhY at hu
 split at hu
 ·rename_i q c1 h1
  unfold zfF at h1
  split at h1
  ·rename_i c hb hn ha hm
   obtain ⟨q2,h2⟩:=zgx hu
   have h3:=zau l
   have h4:allP q:=by
    rw [h2] at h3
    exact (zbL h3).1
   exact zcu (zaw hf hb hn (Nat.le_of_ble_eq_true ha) (ziL hm (Option.some.inj h1) h4 (zjC hu h3 hg)))
  ·cases h1
 ·cases hu
theorem wrapN8 {t:Int} {n:Nat} (h1:t=(n:Int)) (h2:n<=255):IntKind.u8.wrap t=(n:Int):=by
 rw [h1,IntKind.wrap_u8];omega
structure ValOk (c:Col) (v:V):Prop where
 good:v.Good
 kind:v.kind=0\/v.kind=c.type
 nn:c.notNull=true->v.kind=c.type
abbrev zfb (c:Col):Prop:=c.type=1\/c.type=2\/c.type=3
structure PrefOk (cols:List Col) (n:Nat) (vals:List V):Prop where
 len:vals.length=n
 at_:∀ (k:Nat) (c:Col) (v:V),cols[k]?=some c->vals[k]?=some v->ValOk c v
abbrev zcR (cols:List Col) (vals:List V):Prop:=PrefOk cols cols.length vals
theorem PrefOk.nil (cols:List Col):PrefOk cols 0 []:=⟨rfl,fun k c v _ h=>by simp at h⟩
theorem PrefOk.push {cols:List Col} {n:Nat} {vals:List V} (h:PrefOk cols n vals) {c:Col} (hc:cols[n]?=some c) {v:V} (hv:ValOk c v):PrefOk cols (n+1) (vals++[v]):=by
 refine ⟨by simp [h.len],fun k c' v' h1 h2=>?_⟩
 by_cases hk:k < vals.length
 ·rw [List.getElem?_append_left hk] at h2
  exact h.at_ k c' v' h1 h2
 ·rw [List.getElem?_append_right Zo] at h2
  have hl:=h.len
  have:k - vals.length=0:=by
   rcases Nat.eq_zero_or_pos (k - vals.length) with h|h
   ·exact h
   ·rw [List.getElem?_eq_none Zp] at h2;cases h2
  rw [this] at h2
  simp only [List.getElem?_cons_zero,Option.some.injEq] at h2
  have:k=n:=by omega
  subst this
  rw [h1] at hc
  cases hc
  exact h2 ▸ hv
def zaI :(List Sch) :=
 [Sch.mk Zsl [Col.mk Zsn 1 false false,Col.mk (ByteArray.mk #[115]) 3 false false],Sch.mk (ByteArray.mk #[116]) [Col.mk Zsi 1 true true,Col.mk Zsn 1 false false,Col.mk (ByteArray.mk #[98]) 2 false false,Col.mk (ByteArray.mk #[115]) 3 false false],Sch.mk Zsu [Col.mk Zsi 1 true true,Col.mk Zsn 1 true false,Col.mk (ByteArray.mk #[109]) 1 false false]]
theorem zhz  :zaa E0 S.Cd [] [] (.sl (zaI.map Sch.cells)) []:=by
 unfold zaI
 exact (by (try simp only [zsl]);exact wk At.Cd [] kr)
theorem zi8:zae zaI:=by simp [zaI]
noncomputable def zl6 (n:Str) (i:Nat) :Cfg:=zaj B.BA 0 [(0,sv n),(2,.p 0 0),(5,.sl (zaI.map Sch.cells)),(6,iv ((zaI.map Sch.cells).length:Nat)),(7,iv (i:Nat))] [.box [sv ⟨#[]⟩,.nl]]
def ze7 (n:Str):List (Sch)->Nat->Sch
 | [],i =>
  Sch.mk Zs0 []
 | x::r,i =>
  bif ByteArray.toList x.name==ByteArray.toList n then
   x
  else
   ze7 n r (i+1)
theorem zig (n:Str) (hs:zae zaI):∀ (kk i:Nat),i+kk=(zaI).length->Good E0 B.BA [] (zl6 n i ) (Shut 0 fun r h=>r=((ze7 n ((zaI).drop i) i ).av)/\h=[]):=by
 intro kk
 induction kk with
 | zero =>
  intro i  hi
  have h0:decide (((i:Nat):Int) < (((zaI.map Sch.cells).length:Nat):Int))=false:=by simp;omega
  have e0:(zaI).drop i=[]:=List.drop_of_length_le Zo
  rw [e0]
  simp only [ze7]
  refine zab ?_
  exact wkr [sb h0] kr
 | succ kk ih =>
  intro i  hi
  obtain ⟨x,hx⟩:=zdG (l:=zaI) (i:=i) Zo
  have h0:decide (((i:Nat):Int) < (((zaI.map Sch.cells).length:Nat):Int))=true:=by simp;omega
  have hw:=zch i (by first|omega|(simp only [zae,Few] at *;omega))
  rw [zbw hx]
  simp only [ze7]
  refine zab ?_
  let p_1:List St:=[sb h0,se (zat Sch.cells hx rfl)]
  cases h1:ByteArray.toList x.name==ByteArray.toList n
  ·exact wkl (p_1++[sb h1,si hw]) [0,2,5,6,7] 1 kr (ih (i+1) Zo )
  ·exact wkr (p_1++[sb h1]) kr
def zha (n:Str):Sch :=
 ze7 n zaI (0)
theorem zij (n:Str) (hs:zae zaI):zaa E0 S.BA [sv n] [] ((zha n).av) []:=by
 unfold zha
 exact wkc At.BA [sc zhz] [0,2,5,6,7] 1 kr (zig n hs zaI.length 0 Zs)
def xNeg (a:X):X:=X.mk 4 0 false ⟨0,0,⟨#[]⟩⟩ ⟨#[]⟩ ⟨#[]⟩ [a] []
def plIn (p:Pl) (s:Sch):Pl :=
 Pl.mk (p.frs++[Fr.mk s.name false s.cols []]) p.tbs
abbrev Few {α:Type} (l:List α):Prop:=l.length<=1000
def IsCol (x:X):Prop:=∃ a b,x=xCol a b
def zgw (l:List X):Prop:=∀ x∈l,IsCol x
theorem zgw.nil:zgw []:=fun _ h=>by cases h
theorem zgw.col (a b:Str):zgw [xCol a b]:=fun x hx=>by simp only [List.mem_singleton] at hx;exact ⟨a,b,hx⟩
theorem zgw.at {l:List X} (h:zgw l) {i:Nat} {x:X} (hx:l[i]?=some x):IsCol x:=h x (List.mem_of_getElem? hx)
structure Pl.Ok (p:Pl):Prop where
 frs:Few p.frs
 cols:∀ f∈p.frs,Few f.cols
structure TabOk (t:Tb):Prop where
 rows:∀ r∈t.rows,zcR t.sch.cols r.vals
 len:t.rows.length<=1000
structure SchOk (s:Sch):Prop where
 few:Few s.cols
 cols:∀ c∈s.cols,zfb c
 ne:s.cols≠[]
theorem SchOk.short {s:Sch} (h:SchOk s):zae s.cols:=by have:=h.few;simp only [Few] at this;simp only [zae];omega
def zaz (l:List V) (key:Int):V:=l.getD key.toNat V.null
theorem zf1 (l:List V) (key:Int) (hk:decide (key < 0)=false) (h:key < l.length):ElAt (l.map V.cells) key (zaz l key).cells 3:=by
 have h0:0<=key:=by simpa using hk
 refine ⟨h0,?_,rfl⟩
 have:key.toNat < l.length:=by omega
 simp [zaz,List.getD_eq_getElem?_getD,List.getElem?_eq_getElem this]
abbrev zeQ (s:Sch) (rows:List Rw):Prop:=∀ r∈rows,zcR s.cols r.vals
theorem zeQ.len {s:Sch} {rows:List Rw} (h:zeQ s rows) {i:Nat} {x:Rw} (hx:rows[i]?=some x):x.vals.length=s.cols.length:=(h x (List.mem_of_getElem? hx)).len
theorem zeQ.push {s:Sch} {rows:List Rw} (h:zeQ s rows) {x:Rw} (hx:zcR s.cols x.vals):zeQ s (rows++[x]):=fun r hr=>(List.mem_append.1 hr).elim (h r) fun h=>by simp only [List.mem_singleton] at h;exact h ▸ hx
theorem znl {x:Sch} (hx:x∈zaI):SchOk x:=by
 simp only [zaI,List.mem_cons,List.not_mem_nil,or_false] at hx
 rcases hx with rfl|rfl|rfl <;> exact ⟨by simp,by simp [zfb],by simp⟩
structure StoreOk (l:List Tb):Prop where
 len:l.length<=1000
 tabs:∀ t∈l,TabOk t/\SchOk t.sch
theorem StoreOk.push {l:List Tb} (h:StoreOk l) (hl:l.length+1<=1000) {t:Tb} (ht:TabOk t) (hs:SchOk t.sch):StoreOk (l++[t]) :=
 ⟨by simp;omega,fun x hx=>(List.mem_append.1 hx).elim (h.tabs x) fun h=>by simp only [List.mem_singleton] at h;exact h ▸ ⟨ht,hs⟩⟩
abbrev Thin {α:Type} (k:Nat) (l:List α):Prop:=l.length<=k
theorem Thin.few {α:Type} {k:Nat} {l:List α} (h:Thin k l) (hk:k<=1000:=by decide):Few l:=Nat.le_trans h hk
theorem Thin.short {α:Type} {k:Nat} {l:List α} (h:Thin k l) (hk:k<=1000000000:=by decide):zae l:=Nat.le_trans h hk
def XOk:Nat->X->Prop
 | 0,_=>False
 | n+1,e=>e.val.Good/\(Thin 3 e.args/\Thin 1 e.sub)/\(∀ x∈e.args,XOk n x)/\∀ q∈e.sub,(Thin 8 q.items/\Thin 1 q.wh)/\(∀ x∈q.items,XOk n x)/\∀ x∈q.wh,XOk n x
theorem XOk.mono:∀ {n:Nat} {e:X},XOk n e->XOk (n+1) e
 | 0,_,h=>h.elim
 | n+1,e,⟨h1,h2,h3,h4⟩=>⟨h1,h2,fun x hx=>(h3 x hx).mono,fun q hq=>⟨(h4 q hq).1,fun x hx=>((h4 q hq).2.1 x hx).mono,fun x hx=>((h4 q hq).2.2 x hx).mono⟩⟩
theorem XOk.le {n m:Nat} {e:X} (h:XOk n e) (hm:n<=m):XOk m e:=by
 induction hm with
 | refl=>exact h
 | step _ ih=>exact ih.mono
structure Pl.OkN (n:Nat) (p:Pl):Prop where
 frs:p.frs.length+n<=1000
 cols:∀ f∈p.frs,Few f.cols
 ne:p.tbs≠[]
 few:Few p.tbs
 tcols:∀ s∈p.tbs,Few s.cols
theorem Pl.OkN.short {n:Nat} {p:Pl} (h:p.OkN n):zae p.frs:=by have:=h.frs;simp only [zae];omega
theorem Pl.OkN.pos {n:Nat} {p:Pl} (h:p.OkN n):Pos (((p.tbs.map Sch.cells).length:Nat):Int):=by
 have h1:=h.few
 have h2:0 < p.tbs.length:=List.length_pos_iff.2 h.ne
 simp only [Few] at h1
 simp only [Pos,List.length_map];omega
theorem Pl.OkN.ins {n:Nat} {p:Pl} (h:p.OkN (n+1)) {k:Nat} {s:Sch} (hs:p.tbs[k]?=some s):(plIn p s).OkN n:=by
 refine ⟨by have:=h.frs;simp [plIn];omega,fun f hf=>?_,h.ne,h.few,h.tcols⟩
 simp only [plIn,List.mem_append,List.mem_singleton] at hf
 rcases hf with hf|rfl
 ·exact h.cols f hf
 ·exact h.tcols s (List.mem_of_getElem? hs)
def zbq:Fr:=⟨⟨#[]⟩,false,[],[]⟩
def sres (frs:List Fr) (q n:Str):Nat->Int × Int × Bool
 | 0 =>
  (0,0,false)
 | k+1 =>
  bif ByteArray.toList q==Zs0.toList then
   bif (frs.getD k zbq).strict then
    sres frs q n (k)
   else
    bif decide (0<=idxF (fun c=>colC c n) (Sch.mk Zs0 (frs.getD k zbq).cols).cols 0) then
     (pm1 (k+1),idxF (fun c=>colC c n) (Sch.mk Zs0 (frs.getD k zbq).cols).cols 0,true)
    else
     sres frs q n (k)
  else
   bif !ByteArray.toList (frs.getD k zbq).name==ByteArray.toList q then
    sres frs q n (k)
   else
    bif decide (0<=idxF (fun c=>colC c n) (Sch.mk Zs0 (frs.getD k zbq).cols).cols 0) then
     (pm1 (k+1),idxF (fun c=>colC c n) (Sch.mk Zs0 (frs.getD k zbq).cols).cols 0,true)
    else
     sres frs q n (k)
theorem znq {α:Type} (f:α->List AV) (l:List α) (h:zae l):IntKind.i64.wrap ((((l.map f).length:Nat):Int) - 1)=pm1 l.length:=by
 rw [List.length_map];exact znr _ (by simp only [zae] at h;omega)
def zg9 (frs:List Fr) (q n:Str):Int × Int × Bool :=
 sres frs q n (frs.length)
def zfz (frs:List Fr) (q n:Str) (k:Nat) (f:Fr) (els:Int × Int × Bool):List (Col)->Nat->Int × Int × Bool
 | [],j =>
  els
 | x::r,j =>
  bif ByteArray.toList x.name==ByteArray.toList n then
   (pm1 (k+1),(j:Int),true)
  else
   zfz frs q n k f els r (j+1)
def rres (frs:List Fr) (q n:Str):Nat->Int × Int × Bool
 | 0 =>
  (0,0,false)
 | k+1 =>
  bif ByteArray.toList q==Zs0.toList then
   bif (frs.getD k zbq).strict then
    rres frs q n (k)
   else
    zfz frs q n k (frs.getD k zbq) (rres frs q n k) (frs.getD k zbq).cols 0
  else
   bif !ByteArray.toList (frs.getD k zbq).name==ByteArray.toList q then
    rres frs q n (k)
   else
    zfz frs q n k (frs.getD k zbq) (rres frs q n k) (frs.getD k zbq).cols 0
def zfw (frs:List Fr) (q n:Str):Int × Int × Bool :=
 rres frs q n (frs.length)
def zeA (tb:List Tb) (n:Str):List (Tb)->Nat->Sch × Bool
 | [],i =>
  (Sch.mk Zs0 [],false)
 | x::r,i =>
  bif ByteArray.toList x.sch.name==ByteArray.toList n then
   (x.sch,true)
  else
   zeA tb n r (i+1)
def zcn (tb:List Tb) (n:Str):Sch × Bool :=
 zeA tb n tb (0)
def zcL (frs:List Fr) (s:Sch) (v:List V):(List Fr) :=
 frs++[Fr.mk s.name false s.cols v]
def shape1 (kind op:Int) (xs:List X) (qs:List Qy) (st:Bool) (it wh:List X):Bool :=
 bif kind==1 then
  bif (↑(zad xs).length:Int)==0 then
   (↑(zag qs).length:Int)==(0:Int)
  else
   false
 else
  bif kind==2 then
   bif (↑(zad xs).length:Int)==0 then
    (↑(zag qs).length:Int)==(0:Int)
   else
    false
  else
   bif kind==3 then
    bif (↑(zad xs).length:Int)==1 then
     (↑(zag qs).length:Int)==(0:Int)
    else
     false
   else
    bif kind==4 then
     bif (↑(zad xs).length:Int)==1 then
      (↑(zag qs).length:Int)==(0:Int)
     else
      false
    else
     bif kind==6 then
      bif (↑(zad xs).length:Int)==1 then
       (↑(zag qs).length:Int)==(0:Int)
      else
       false
     else
      bif kind==5 then
       bif decide (op < 1) then
        false
       else
        bif decide (13 < op) then
         false
        else
         bif (↑(zad xs).length:Int)==2 then
          (↑(zag qs).length:Int)==(0:Int)
         else
          false
      else
       bif kind==7 then
        bif (↑(zad xs).length:Int)==3 then
         (↑(zag qs).length:Int)==(0:Int)
        else
         false
       else
        bif kind==8 then
         bif (↑(zad xs).length:Int)==0 then
          bif (↑(zag qs).length:Int)==1 then
           bif (↑(zad it).length:Int)==0 then
            decide ((↑(zad wh).length:Int)<=(1:Int))
           else
            false
          else
           false
         else
          false
        else
         bif kind==9 then
          bif (↑(zad xs).length:Int)==0 then
           bif (↑(zag qs).length:Int)==1 then
            bif (↑(zad it).length:Int)==0 then
             decide ((↑(zad wh).length:Int)<=(1:Int))
            else
             false
           else
            false
          else
           false
         else
          bif kind==10 then
           bif (↑(zad xs).length:Int)==0 then
            bif (↑(zag qs).length:Int)==1 then
             bif (↑(zad it).length:Int)==1 then
              decide ((↑(zad wh).length:Int)<=(1:Int))
             else
              false
            else
             false
           else
            false
          else
           bif kind==11 then
            bif (↑(zad xs).length:Int)==0 then
             bif (↑(zag qs).length:Int)==1 then
              bif (↑(zad it).length:Int)==1 then
               decide ((↑(zad wh).length:Int)<=(1:Int))
              else
               false
             else
              false
            else
             false
           else
            bif kind==12 then
             bif (↑(zad xs).length:Int)==0 then
              bif (↑(zag qs).length:Int)==1 then
               bif (↑(zad it).length:Int)==1 then
                decide ((↑(zad wh).length:Int)<=(1:Int))
               else
                false
              else
               false
             else
              false
            else
             false
def shape0 (kind op:Int) (xs:List X):Bool :=
 bif kind==1 then
  bif (↑(zad xs).length:Int)==0 then
   (↑(zag []).length:Int)==(0:Int)
  else
   false
 else
  bif kind==2 then
   bif (↑(zad xs).length:Int)==0 then
    (↑(zag []).length:Int)==(0:Int)
   else
    false
  else
   bif kind==3 then
    bif (↑(zad xs).length:Int)==1 then
     (↑(zag []).length:Int)==(0:Int)
    else
     false
   else
    bif kind==4 then
     bif (↑(zad xs).length:Int)==1 then
      (↑(zag []).length:Int)==(0:Int)
     else
      false
    else
     bif kind==6 then
      bif (↑(zad xs).length:Int)==1 then
       (↑(zag []).length:Int)==(0:Int)
      else
       false
     else
      bif kind==5 then
       bif decide (op < 1) then
        false
       else
        bif decide (13 < op) then
         false
        else
         bif (↑(zad xs).length:Int)==2 then
          (↑(zag []).length:Int)==(0:Int)
         else
          false
      else
       bif kind==7 then
        bif (↑(zad xs).length:Int)==3 then
         (↑(zag []).length:Int)==(0:Int)
        else
         false
       else
        bif kind==8 then
         bif (↑(zad xs).length:Int)==0 then
          false
         else
          false
        else
         bif kind==9 then
          bif (↑(zad xs).length:Int)==0 then
           false
          else
           false
         else
          bif kind==10 then
           bif (↑(zad xs).length:Int)==0 then
            false
           else
            false
          else
           bif kind==11 then
            bif (↑(zad xs).length:Int)==0 then
             false
            else
             false
           else
            bif kind==12 then
             bif (↑(zad xs).length:Int)==0 then
              false
             else
              false
            else
             false
def shape (e:X):Bool:=match e.sub with
 | []=>shape0 e.kind e.op e.args
 | q::r=>shape1 e.kind e.op e.args (q::r) q.star q.items q.wh
def zjI (e:X):Bool:=match e.sub with
 | []=>zh8 e.kind e.op e.args
 | q::r=>zh9 e.kind e.op e.args (q::r) q.items q.wh
def rFr (frs:List Fr) (q n:Str):Fr:=frs.getD (zfw frs q n).1.toNat zbq
structure FsOk (n:Nat) (frs:List Fr):Prop where
 len:frs.length+n<=1000000
 cols:∀ f∈frs,zae f.cols
 vals:∀ f∈frs,∀ v∈f.vals,v.small
structure TbOk (tb:List Tb):Prop where
 len:zae tb
 cols:∀ x∈tb,zae x.sch.cols
 rows:∀ x∈tb,x.rows.length<=1000
 vals:∀ x∈tb,∀ r∈x.rows,∀ v∈r.vals,v.small
theorem FsOk.short {n:Nat} {frs:List Fr} (h:FsOk n frs):zae frs:=by have:=h.len;simp only [zae];omega
theorem FsOk.wrap {n:Nat} {frs:List Fr} (h:FsOk n frs):IntKind.i64.wrap ((((frs.map Fr.cells).length:Nat):Int) - 1)=pm1 frs.length:=znq _ _ h.short
theorem zaR {α:Type} {l:List α} (h:Few l):zae l:=by simp only [Few] at h;simp only [zae];omega
abbrev rIns (frs:List Fr) (tb:List Tb) (q:Qy):List Fr:=zcL frs (zcn tb q.frm).1 []
theorem zgn (tb:List Tb) (n:Str):∀ (l:List Tb) (i:Nat),(∀ x∈l,zae x.sch.cols)->zae (zeA tb n l i).1.cols
 | [],i,_=>by simp [zeA]
 | x::r,i,h=>by
  simp only [zeA,Bool.cond_eq_ite]
  split
  ·exact h x Zs
  ·exact zgn tb n r _ (fun y hy=>h y (by simp [hy]))
theorem FsOk.ins {n:Nat} {frs:List Fr} (h:FsOk (n+1) frs) {tb:List Tb} (ht:TbOk tb) (q:Qy):FsOk n (rIns frs tb q):=by
 refine ⟨by have:=h.len;simp [zcL];omega,fun f hf=>?_,fun f hf=>?_⟩
 ·simp only [zcL,List.mem_append,List.mem_singleton] at hf
  rcases hf with hf|rfl
  ·exact h.cols f hf
  ·exact zgn tb q.frm tb 0 ht.cols
 ·simp only [zcL,List.mem_append,List.mem_singleton] at hf
  rcases hf with hf|rfl
  ·exact h.vals f hf
  ·intro v hv;cases hv
def zlc (a b c:Int):Int × Int:=((a+b+c) % 18446744073709551616,(a+b+c) / 18446744073709551616)
def sumL (l:List Int):List (Int)->Nat->(Int)->(Int)->Int × Bool
 | [],i,high,low =>
  bif high != IntKind.u64.wrap ((IntKind.i64.wrap low).fdiv (2 ^ min (Int.toNat 63) IntKind.i64.bits)) then
   (0,false)
  else
   (IntKind.i64.wrap low,true)
 | x::r,i,high,low =>
  sumL l r (i+1) ((zlc high (IntKind.u64.wrap (x.fdiv (2 ^ min (Int.toNat 63) IntKind.i64.bits))) (zlc low (IntKind.u64.wrap x) 0).snd).fst) ((zlc low (IntKind.u64.wrap x) 0).fst)
def aSum (l:List Int):Int × Bool :=
 sumL l l 0 0 (0)
def esumL (its:List V):List (V)->Nat->(List Int)->V × Int
 | [],i,l =>
  bif !(aSum l).snd then
   (V.mk 0 0 Zs0,6)
  else
   (V.mk 1 (aSum l).fst Zs0,0)
 | x::r,i,l =>
  esumL its r (i+1) (l++[x.int])
def eSum (its:List V):V × Int :=
 esumL its its 0 ([])
def minL (l:List V):List (V)->Nat->(V)->V
 | [],i,m =>
  m
 | x::r,i,m =>
  bif decide (cmpV x m < 0) then
   minL l r (i+1) (x)
  else
   minL l r (i+1) (m)
def minV (l:List V):V :=
 minL l (l.drop 1) 1 (l.headD V.null)
def maxL (l:List V):List (V)->Nat->(V)->V
 | [],i,m =>
  m
 | x::r,i,m =>
  bif decide (0 < cmpV x m) then
   maxL l r (i+1) (x)
  else
   maxL l r (i+1) (m)
def maxV (l:List V):V :=
 maxL l (l.drop 1) 1 (l.headD V.null)
def eTrue1 (f:X->V × Int) (x:X):Bool × Int :=
 bif (f x).snd==0 then
  bif !ze4 (f x).fst then
   (false,5)
  else
   (isTrue (f x).fst,(f x).snd)
 else
  (false,(f x).snd)
def eTrue0 :Bool × Int :=
 (true,0)
def zbD (frs:List Fr) (t:Tb) (v:List V):(List Fr) :=
 frs++[Fr.mk t.sch.name false t.sch.cols v]
def eAgg (sel:Int × Nat × List V) (e:X):V × Int :=
 bif sel.1 != 0 then (V.null,sel.1)
 else bif e.kind==8 then (⟨2,if decide (0 < ((sel.2.1:Nat):Int)) then 1 else 0,⟨#[]⟩⟩,0)
 else bif e.kind==9 then (⟨1,(sel.2.1:Nat),⟨#[]⟩⟩,0)
 else bif ((sel.2.2.length:Nat):Int)==0 then (V.null,0)
 else bif e.kind==10 then eSum sel.2.2
 else bif e.kind==11 then (minV sel.2.2,0)
 else (maxV sel.2.2,0)
theorem zj9 (frs:List Fr) (q n:Str) (k:Nat) (f:Fr) (els:Int × Int × Bool):∀ (c:List Col) (j:Nat),zfz frs q n k f els c j=bif decide (0<=idxF (fun c=>colC c n) c j) then (pm1 (k+1),idxF (fun c=>colC c n) c j,true) else els
 | [],j=>by simp [zfz,idxF]
 | x::r,j=>by
  rcases Bool.eq_false_or_eq_true (x.name.toList==n.toList) with h|h
  ·simp [zfz,idxF,colC,h]
  ·have ih:=zj9 frs q n k f els r (j+1)
   simp only [colC] at ih
   simp only [zfz,idxF,colC,h,cond_false]
   exact ih
def evL (f:X->V × Int) (op:List V->V × Int) (e:X) (frs:List Fr) (tb:List Tb):List (X)->Nat->(List V)->V × Int
 | [],i,out =>
  ((op out).fst,(op out).snd)
 | x::r,i,out =>
  bif (f x).snd != 0 then
   (V.mk 0 0 Zs0,(f x).snd)
  else
   evL f op e frs tb r (i+1) (out++[(f x).fst])
structure OpKind (e:X):Prop where
 fok:zjI e=true
 k1:e.kind≠1
 k2:e.kind≠2
 k8:¬(8<=e.kind/\e.kind<=12)
def valF (f:X->V × Int) (op:List V->V × Int) (agg:V × Int) (e:X) (frs:List Fr) (tb:List Tb):V × Int :=
 bif !zjI e then
  (V.mk 0 0 Zs0,17)
 else
  bif e.kind==1 then
   (e.val,0)
  else
   bif e.kind==2 then
    bif !(zg9 frs e.table e.name).snd.snd then
     (V.mk 0 0 Zs0,3)
    else
     bif decide ((↑(List.map V.cells (rFr frs e.table e.name).vals).length:Int)<=(zg9 frs e.table e.name).snd.fst) then
      (V.mk 0 0 Zs0,17)
     else
      (zaz (rFr frs e.table e.name).vals (zg9 frs e.table e.name).snd.fst,0)
   else
    bif e.kind==8 then
     (agg.fst,agg.snd)
    else
     bif e.kind==9 then
      (agg.fst,agg.snd)
     else
      bif e.kind==10 then
       (agg.fst,agg.snd)
      else
       bif e.kind==11 then
        (agg.fst,agg.snd)
       else
        bif e.kind==12 then
         (agg.fst,agg.snd)
        else
         evL f op e frs tb e.args 0 ([])
theorem ziV {k o:Int} {xs:List X} (h:zh8 k o xs=true):((k=1\/k=2)/\xs.length=0)\/((k=3\/k=4\/k=6)/\xs.length=1)\/(k=5/\xs.length=2/\1<=o/\o<=13)\/(k=7/\xs.length=3):=by
 simp only [zh8,Bool.cond_eq_ite,zfG] at h
 simp at h
 repeat' split at h
 all_goals simp_all
 all_goals omega
theorem ziW {k o:Int} {xs:List X} {qs:List Qy} {it wh:List X} (hq:qs≠[]) (h:zh9 k o xs qs it wh=true):xs.length=0/\qs.length=1/\wh.length<=1/\(((k=8\/k=9)/\it.length=0)\/((k=10\/k=11\/k=12)/\it.length=1)):=by
 simp only [zh9,Bool.cond_eq_ite,zfG,ziS] at h
 simp [hq] at h
 obtain ⟨h1,h2,h3,h4,h5,h6,h7,h⟩:=h
 repeat' split at h
 all_goals simp_all
 all_goals omega
def eOp (e:X) (l:List V):V × Int:=match l with
 | [a]=>if e.kind=6 then zna e.op e.not a else if e.kind=3 then opNot e.op e.not a else opNeg e.op e.not a
 | [a,b]=>opBin e.op e.not a b
 | [a,b,c]=>opBet e.op e.not a b c
 | _=>(V.null,0)
theorem OpKind.cases {e:X} (h:OpKind e):e.sub=[]/\(((e.kind=3\/e.kind=4\/e.kind=6)/\e.args.length=1)\/(e.kind=5/\e.args.length=2/\1<=e.op/\e.op<=13)\/(e.kind=7/\e.args.length=3)):=by
 have hf:=h.fok
 have k1:=h.k1
 have k2:=h.k2
 have k8:=h.k8
 unfold zjI at hf
 cases hs:e.sub with
 | nil =>
  rw [hs] at hf
  have:=ziV hf
  refine ⟨rfl,?_⟩
  omega
 | cons q r =>
  rw [hs] at hf
  have:=(ziW Zs hf).2.2.2
  omega
def rowI (f:X->V × Int) (k:Int):List X->List V->Int × List V
 | [],its=>(0,its)
 | x::r,its=>bif (f x).2 != 0 then ((f x).2,its) else bif (f x).1.kind==0 then rowI f k r its else bif k==10&&(f x).1.kind != 1 then (5,its) else rowI f k r (its++[(f x).1])
def selR (tr:Rw->Bool × Int) (g:Rw->List V->Int × List V):List Rw->Nat->List V->Int × Nat × List V
 | [],n,its=>(0,n,its)
 | r::l,n,its=>bif (tr r).2 != 0 then ((tr r).2,n,its) else bif (tr r).1 then (bif (g r its).1 != 0 then ((g r its).1,n+1,(g r its).2) else selR tr g l (n+1) (g r its).2) else selR tr g l n its
def eTrueL (f:X->V × Int):List X->Bool × Int
 | []=>eTrue0
 | x::_=>eTrue1 f x
def evalA (F:List Fr->X->V × Int) (e:X) (frs:List Fr) (tb:List Tb):V × Int:=match e.sub with
 | []=>(V.null,0)
 | q::_=>match zje tb q.frm with
  | none=>eAgg (3,0,[]) e
  | some t=>eAgg (selR (fun r=>eTrueL (F (zbD frs t r.vals)) q.wh) (fun r its=>rowI (F (zbD frs t r.vals)) e.kind q.items its) t.rows 0 []) e
def eval:Nat->X->List Fr->List Tb->V × Int
 | 0,_,_,_=>(V.null,0)
 | n+1,e,frs,tb=>valF (fun x=>eval n x frs tb) (eOp e) (evalA (fun w x=>eval n x w tb) e frs tb) e frs tb
/- ### values are valid -/
abbrev FsG (frs:List Fr):Prop:=∀ f∈frs,∀ v∈f.vals,v.Good
structure TbG (tb:List Tb):Prop where
 vals:∀ x∈tb,∀ r∈x.rows,∀ v∈r.vals,v.Good
 rows:∀ x∈tb,x.rows.length<=1000
theorem FsG.ins {frs:List Fr} (h:FsG frs) {t:Tb} {v:List V} (hv:∀ x∈v,x.Good):FsG (zbD frs t v):=fun f hf=>by
 simp only [zbD,List.mem_append,List.mem_singleton] at hf
 rcases hf with hf|rfl
 ·exact h f hf
 ·exact hv
theorem FsOk.eins {n:Nat} {frs:List Fr} (h:FsOk (n+1) frs) {t:Tb} (hc:zae t.sch.cols) {v:List V} (hv:∀ x∈v,x.Good):FsOk n (zbD frs t v):=by
 refine ⟨by have:=h.len;simp [zbD];omega,fun f hf=>?_,fun f hf=>?_⟩
 ·simp only [zbD,List.mem_append,List.mem_singleton] at hf
  rcases hf with hf|rfl
  ·exact h.cols f hf
  ·exact hc
 ·simp only [zbD,List.mem_append,List.mem_singleton] at hf
  rcases hf with hf|rfl
  ·exact h.vals f hf
  ·exact fun x hx=>(hv x hx).small
noncomputable def clCV (l:List V):Cfg:=(upto (mk E0) (List.range 40) 0 3000 ⟨B.AX.ntmps,[.code (B.AX.body.getD .skip)],zbt 0 [vsl l],[]⟩ []).2
theorem zmU (l:List V) (hl:zae l):Good E0 B.AX [] (za6 (clCV l) false) (fun r h=>r=.own 0 l.length/\h=[.row Ty.Value (l.map V.cells) false]):=by
 exact zbG E0ok mix0 3000 (y:=AV.own 0 (List.map V.cells l).length) (H:=[Blk.row Ty.Value (List.map V.cells l) false]) [sb Zf,sqx (AllLen (List.map V.cells l) 3/\((List.map V.cells l).length * 32).le 140737488355328)] kr (⟨by simp,rfl⟩)
theorem zmV:Good E0 B.AX [] (za6 (clCV []) true) (fun r h=>r=.nl/\h=[]):=by
 exact zbG E0ok mix0 3000 (y:=AV.nl) (H:=[]) [sb Zt] kr (⟨rfl,rfl⟩)
theorem zfp (l:List V) (hl:zae l):zaa E0 S.AX [vsl l] [] (.own 0 l.length) [.row Ty.Value (l.map V.cells) false]:=by
 refine zaw At.AX rfl kr (Nat.le_of_ble_eq_true kr) (zbX E0ok mix0 3000 [] (List.range 40) 0 (c':=clCV l) kr kr (zdb E0ok (xs:=l.map V.cells) (e:=true) kr fun b hb=>?_))
 cases b with
 | false=>exact zmU l hl
 | true =>
  cases l with
  | nil=>exact zb1 Ty.Value zmV ⟨rfl,rfl⟩
  | cons x r=>exact absurd (hb Zs) Zs
abbrev vrow (v:List V):List AV:=[vsl v]
structure QOk (n:Nat) (q:Qy):Prop where
 few:Few q.items
 items:∀ x∈q.items,XOk n x
 wh:∀ x∈q.wh,XOk n x
theorem sH1_3 {p:Prop} (h:p:=by first|assumption|omega|(simp;done)|(simp;omega)):p:=h
noncomputable def zbQ (fn:Func) (args:List AV) (h:Heap) (m:Nat):Cfg:=(upto (mk E0) (List.range 40) m 3000 ⟨fn.ntmps,[.code (fn.body.getD .skip)],zbt 0 args,h⟩ []).2
structure Lk where
 fst:Str
 snd:Str
def Lk.cells (l:Lk):List AV:=[sv l.fst,sv l.snd]
abbrev ZL (l:List Lk):AV:=.sl (l.map Lk.cells)
abbrev Lk.av (l:Lk):AV:=.agg l.cells
@[simp] theorem Lk.cells_length (x:Lk):x.cells.length=2:=rfl
structure Im where
 trig:Str
 row:Int
 old:List V
 new:List V
def Im.cells (x:Im):List AV:=[sv x.trig,iv x.row,vsl x.old,vsl x.new]
abbrev Im.av (x:Im):AV:=.agg x.cells
@[simp] theorem Im.cells_length (x:Im):x.cells.length=4:=rfl
theorem znm:StructEq E0.P Ty.Link [.str,.str] :=
 zmD E0ok (fs:=E0.P.fieldsOf Ty.Link) kr kr kr kr
theorem zln (l:List Col) (hl:zae l):Good E0 B.AG [] (za6 (zbQ B.AG [.sl (l.map Col.cells)] [] 0) false) (fun r h=>r=.own 0 l.length/\h=[.row Ty.Column (l.map Col.cells) false]) :=
 zbG E0ok mix0 3000 (y:=AV.own 0 (List.map Col.cells l).length) (H:=[Blk.row Ty.Column (List.map Col.cells l) false]) [sb Zf,sqx (AllLen (List.map Col.cells l) 4/\((List.map Col.cells l).length * 32).le 140737488355328)] kr (⟨by simp,rfl⟩)
theorem zlo:Good E0 B.AG [] (za6 (zbQ B.AG [.sl []] [] 0) true) (fun r h=>r=.nl/\h=[]) :=
 zbG E0ok mix0 3000 (y:=AV.nl) (H:=[]) [sb Zt] kr (⟨rfl,rfl⟩)
theorem zbe (l:List Col) (hl:zae l):zaa E0 S.AG [.sl (l.map Col.cells)] [] (.own 0 l.length) [.row Ty.Column (l.map Col.cells) false]:=by
 refine zaw At.AG rfl kr (Nat.le_of_ble_eq_true kr) (zbX E0ok mix0 3000 [] (List.range 40) 0 (c':=zbQ B.AG [.sl (l.map Col.cells)] [] 0) kr kr (zdb E0ok (xs:=l.map Col.cells) (e:=true) kr fun b hb=>?_))
 cases b with
 | false=>exact zln l hl
 | true =>
  cases l with
  | nil=>exact zb1 Ty.Column zlo ⟨rfl,rfl⟩
  | cons x r=>exact absurd (hb Zs) Zs
noncomputable def L_lkIx (l:List Lk) (v:Lk) (i:Nat) :Cfg:=zaj B.Bm 0 [(0,.sl (l.map Lk.cells)),(3,.p 0 0),(7,iv ((l.map Lk.cells).length:Nat)),(8,iv (i:Nat))] [.box v.cells]
def lkIx (l:List Lk) (v:Lk):List (Lk)->Nat->Int
 | [],i =>
  -1
 | x::r,i =>
  bif v.fst==x.fst&&(v.snd==x.snd&&true) then
   (i:Int)
  else
   lkIx l v r (i+1)
theorem zky (l:List Lk) (v:Lk) (hl:zae l):∀ (kk i:Nat),i+kk=(l).length->Good E0 B.Bm [] (L_lkIx l v i ) (Shut 0 fun r h=>r=(iv (lkIx l v ((l).drop i) i ))/\h=[]):=by
 intro kk
 induction kk with
 | zero =>
  intro i  hi
  have h0:decide (((i:Nat):Int) < (((l.map Lk.cells).length:Nat):Int))=false:=by simp;omega
  have e0:(l).drop i=[]:=List.drop_of_length_le Zo
  rw [e0]
  simp only [lkIx]
  refine zab ?_
  exact wkr [sb h0] kr
 | succ kk ih =>
  intro i  hi
  obtain ⟨x,hx⟩:=zdG (l:=l) (i:=i) Zo
  have h0:decide (((i:Nat):Int) < (((l.map Lk.cells).length:Nat):Int))=true:=by simp;omega
  have hw:=zch i (by first|omega|(simp only [zae,Few] at *;omega))
  rw [zbw hx]
  simp only [lkIx]
  refine zab ?_
  let p_1:List St:=[sb h0,sd [(3,[se (zat Lk.cells hx rfl)]),(5,[sq znm])]]
  cases h1:v.fst==x.fst&&(v.snd==x.snd&&true)
  ·exact wkl (p_1++[sb h1,si hw]) [0,3,7,8] 1 kr (ih (i+1) Zo )
  ·exact wkr (p_1++[sb h1]) kr
def zik (l:List Lk) (v:Lk):Int :=
 lkIx l v l (0)
theorem zfV (l:List Lk) (v:Lk) (hl:zae l):zaa E0 S.Bm [.sl (l.map Lk.cells),v.av] [] (iv (zik l v)) []:=by
 unfold zik
 exact wkc At.Bm [] [0,3,7,8] 1 kr (zky l v hl l.length 0 Zs)
def zlL (l:List Lk) (v:Lk):Bool :=
 decide ((0:Int)<=zik l v)
theorem zeM (l:List Lk) (v:Lk) (hl:zae l):zaa E0 S.BW [.sl (l.map Lk.cells),v.av] [] (bv (zlL l v)) []:=by
 exact wk At.BW [sc (zfV l v sH1_3)] kr
def oPrec (l:List Lk) (a b:Str):Bool :=
 zlL l (Lk.mk a b)
def blk (its:List Im) (l:List Lk) (i k:Nat):Bool:=k != i&&match its[k]?,its[i]? with
 | some y,some x=>oPrec l y.trig x.trig
 | _,_=>false
def seNull:Se:=⟨⟨#[]⟩,.mk 0 0 false ⟨0,0,⟨#[]⟩⟩ ⟨#[]⟩ ⟨#[]⟩ [] []⟩
def Ac.set0 (a:Ac):Se:=a.sets.headD seNull
theorem zkX {α:Type} (p:α->Bool):∀ (l:List α) (i:Nat),idxF p l i < ((i+l.length:Nat):Int)\/idxF p l i=-1
 | [],i=>.inr rfl
 | x::r,i=>by
  simp only [idxF]
  cases p x
  ·rcases zkX p r (i+1) with h|h
   ·exact .inl (by simp only [List.length_cons];simpa [Nat.add_assoc,Nat.add_comm 1] using h)
   ·exact .inr h
  ·exact .inl (by simp only [List.length_cons,cond_true];omega)
structure NwOk (nw:List V):Prop where
 len:nw.length<=1000
 good:∀ v∈nw,v.Good
theorem NwOk.short {nw:List V} (h:NwOk nw):zae nw:=by have:=h.len;simp only [zae];omega
structure TrOk (n:Nat) (t:Tg):Prop where
 acts:zae t.acts
 sets:∀ a∈t.acts,XOk n a.set0.ex
 when_:∀ x∈t.when_,XOk n x
theorem zdi {p:Prop} (h:p:=by first|assumption|omega|(simp;done)|(simp;omega)):p:=h
abbrev zaS (s:Str):List AV:=[sv s]
theorem zlr (l:List Str) (hl:zae l):Good E0 B.AH [] (za6 (zbQ B.AH [.sl (l.map zaS)] [] 0) false) (fun r h=>r=.own 0 l.length/\h=[.row Ty.string (l.map zaS) false]) :=
 zbG E0ok mix0 3000 (y:=AV.own 0 (List.map zaS l).length) (H:=[Blk.row Ty.string (List.map zaS l) false]) [sb Zf,sqx (AllLen (List.map zaS l) 1/\((List.map zaS l).length * 16).le 140737488355328)] kr (⟨by simp,rfl⟩)
theorem zls:Good E0 B.AH [] (za6 (zbQ B.AH [.sl []] [] 0) true) (fun r h=>r=.nl/\h=[]) :=
 zbG E0ok mix0 3000 (y:=AV.nl) (H:=[]) [sb Zt] kr (⟨rfl,rfl⟩)
theorem zbE (l:List Str) (hl:zae l):zaa E0 S.AH [.sl (l.map zaS)] [] (.own 0 l.length) [.row Ty.string (l.map zaS) false]:=by
 refine zaw At.AH rfl kr (Nat.le_of_ble_eq_true kr) (zbX E0ok mix0 3000 [] (List.range 40) 0 (c':=zbQ B.AH [.sl (l.map zaS)] [] 0) kr kr (zdb E0ok (xs:=l.map zaS) (e:=true) kr fun b hb=>?_))
 cases b with
 | false=>exact zlr l hl
 | true =>
  cases l with
  | nil=>exact zb1 Ty.string zls ⟨rfl,rfl⟩
  | cons x r=>exact absurd (hb Zs) Zs
theorem zmS (l:List Rk) (hl:zae l):Good E0 B.AS [] (za6 (zbQ B.AS [.sl (l.map Rk.cells)] [] 0) false) (fun r h=>r=.own 0 l.length/\h=[.row Ty.Rank (l.map Rk.cells) false]) :=
 zbG E0ok mix0 3000 (y:=AV.own 0 (List.map Rk.cells l).length) (H:=[Blk.row Ty.Rank (List.map Rk.cells l) false]) [sb Zf,sqx (AllLen (List.map Rk.cells l) 4/\((List.map Rk.cells l).length * 48).le 140737488355328)] kr (⟨by simp,rfl⟩)
theorem zmT:Good E0 B.AS [] (za6 (zbQ B.AS [.sl []] [] 0) true) (fun r h=>r=.nl/\h=[]) :=
 zbG E0ok mix0 3000 (y:=AV.nl) (H:=[]) [sb Zt] kr (⟨rfl,rfl⟩)
theorem zfT (l:List Rk) (hl:zae l):zaa E0 S.AS [.sl (l.map Rk.cells)] [] (.own 0 l.length) [.row Ty.Rank (l.map Rk.cells) false]:=by
 refine zaw At.AS rfl kr (Nat.le_of_ble_eq_true kr) (zbX E0ok mix0 3000 [] (List.range 40) 0 (c':=zbQ B.AS [.sl (l.map Rk.cells)] [] 0) kr kr (zdb E0ok (xs:=l.map Rk.cells) (e:=true) kr fun b hb=>?_))
 cases b with
 | false=>exact zmS l hl
 | true =>
  cases l with
  | nil=>exact zb1 Ty.Rank zmT ⟨rfl,rfl⟩
  | cons x r=>exact absurd (hb Zs) Zs
@[simp] theorem cellsQ_app (a b:List Qy):zag (a++b)=zag a++zag b:=by simp [zck]
noncomputable def L_dlX (l:List X) (i:Nat) (out:List X):Cfg:=zaj B.AY 0 [(1,.fn S.AM []),(5,.own 0 out.length),(8,.sl (zad l)),(9,iv ((zad l).length:Nat)),(10,iv (i:Nat))] [.row Ty.Expr (zad out) false]
theorem Zcv1 {p:Prop} (h:p:=by first|rfl|(simp;done)|(simp [X.cells,Qy.cells,V.cells,Col.cells,Rw.cells,Tb.cells,Fr.cells,Sch.cells,Tp.cells,Pl.cells,xCol,xLit,xBin,xNeg,Im.cells,Lk.cells];done)):p:=h
theorem zc2 (l:List X) (hl:zae l) (hf:∀ x∈l,zaa E0 S.AM [x.av] [] x.av []) (i:Nat) (out:List X) (hi:i<=(l).length) (hI:out=l.take i):∃ (out':List X),(out'=l.take (l).length)/\(decide ((((l).length:Nat):Int) < (((zad l).length:Nat):Int))=false)/\∀ R,Good E0 B.AY [] (L_dlX l (l).length out') R->Good E0 B.AY [] (L_dlX l i out) R:=by
 have hk:=hi;revert i out;refine zlp ((l).length) (fun i hlt ih out hi hI _=>?_)
 obtain ⟨x,hx,h0,hw⟩:=zlq (l:=l) ((zad l).length) hlt
 have hfx:=hf x (List.mem_of_getElem? hx)
 have ho:out.length<=1000000000:=by rw [hI,List.length_take];simp only [zae] at hl;omega
 exact Zih (ih (out++[x]) Zo (by rw [List.take_add_one,hx,hI];rfl) Zo) fun R gY=>zab (wkl [sb h0,se (zjG hx),sc hfx,sqA (zad out) [x.cells] out.length 10 136,si hw] [1,5,8,9,10] 1 kr (zbM 5 0 (zad out++[x.cells]) gY (he:=Zcv1) (hm:=Zcv1)))
theorem zfg (l:List X) (hl:zae l) (hf:∀ x∈l,zaa E0 S.AM [x.av] [] x.av []):∃ (r:List X),r=l/\zaa E0 S.AY [.sl (zad l),.fn S.AM []] [] (.sl (zad r)) []:=by
 obtain ⟨out1,q1,q1_1,g1⟩:=zc2 l Za Za 0 ([]) Za Za
 exact ⟨out1,(by first|assumption|(rw [List.take_length] at *;assumption)),wkcN At.AY [] [1,5,8,9,10] 0 [(.ot 5 Ty.Expr,1)] kr (g1 _ (zab (wkr [sqx (out1.length=(zad out1).length),sb q1_1] kr)))⟩
theorem zcU (l:List X) (hl:zae l) (hf:∀ x∈l,zaa E0 S.AM [x.av] [] x.av []):zaa E0 S.AY [.sl (zad l),.fn S.AM []] [] (.sl (zad l)) []:=by
 obtain ⟨r,rfl,h⟩:=zfg l hl hf
 exact h
noncomputable def L_dlQ (l:List Qy) (i:Nat) (out:List Qy):Cfg:=zaj B.AV 0 [(1,.fn S.A9 []),(5,.own 0 out.length),(8,.sl (zag l)),(9,iv ((zag l).length:Nat)),(10,iv (i:Nat))] [.row Ty.Query (zag out) false]
theorem zcP (l:List Qy) (hl:zae l) (hf:∀ x∈l,zaa E0 S.A9 [x.av] [] x.av []) (i:Nat) (out:List Qy) (hi:i<=(l).length) (hI:out=l.take i):∃ (out':List Qy),(out'=l.take (l).length)/\(decide ((((l).length:Nat):Int) < (((zag l).length:Nat):Int))=false)/\∀ R,Good E0 B.AV [] (L_dlQ l (l).length out') R->Good E0 B.AV [] (L_dlQ l i out) R:=by
 have hk:=hi;revert i out;refine zlp ((l).length) (fun i hlt ih out hi hI _=>?_)
 obtain ⟨x,hx,h0,hw⟩:=zlq (l:=l) ((zag l).length) hlt
 have hfx:=hf x (List.mem_of_getElem? hx)
 have ho:out.length<=1000000000:=by rw [hI,List.length_take];simp only [zae] at hl;omega
 exact Zih (ih (out++[x]) Zo (by rw [List.take_add_one,hx,hI];rfl) Zo) fun R gY=>zab (wkl [sb h0,se (elAt_Q hx),sc hfx,sqA (zag out) [x.cells] out.length 4 72,si hw] [1,5,8,9,10] 1 kr (zbM 5 0 (zag out++[x.cells]) gY (he:=Zcv1) (hm:=Zcv1)))
theorem zeT (l:List Qy) (hl:zae l) (hf:∀ x∈l,zaa E0 S.A9 [x.av] [] x.av []):∃ (r:List Qy),r=l/\zaa E0 S.AV [.sl (zag l),.fn S.A9 []] [] (.sl (zag r)) []:=by
 obtain ⟨out1,q1,q1_1,g1⟩:=zcP l Za Za 0 ([]) Za Za
 exact ⟨out1,(by first|assumption|(rw [List.take_length] at *;assumption)),wkcN At.AV [] [1,5,8,9,10] 0 [(.ot 5 Ty.Query,1)] kr (g1 _ (zab (wkr [sqx (out1.length=(zag out1).length),sb q1_1] kr)))⟩
theorem zcJ (l:List Qy) (hl:zae l) (hf:∀ x∈l,zaa E0 S.A9 [x.av] [] x.av []):zaa E0 S.AV [.sl (zag l),.fn S.A9 []] [] (.sl (zag l)) []:=by
 obtain ⟨r,rfl,h⟩:=zeT l hl hf
 exact h
theorem zjt (l:List X) (hl:zae l) (hf:∀ x∈l,zaa E0 S.AM [x.av] [] x.av []):∃ (r:List X),r=l/\zaa E0 S.Bg [xsl l] [] (xsl r) []:=by
 exact ⟨l,Zr,wk At.Bg [sc (zcU l zdi zdi)] kr⟩
theorem zca (l:List X) (hl:zae l) (hf:∀ x∈l,zaa E0 S.AM [x.av] [] x.av []):zaa E0 S.Bg [xsl l] [] (xsl l) []:=by
 obtain ⟨r,rfl,h⟩:=zjt l hl hf
 exact h
theorem zfY (q:Qy) (hl:zae q.items) (hl2:zae q.wh) (hf:∀ x∈q.items,zaa E0 S.AM [x.av] [] x.av []) (hf2:∀ x∈q.wh,zaa E0 S.AM [x.av] [] x.av []):∃ (r:Qy),r=q/\zaa E0 S.A9 [q.av] [] r.av []:=by
 exact ⟨q,Zr,wk At.A9 [sd [(2,[sc (zca q.items zdi zdi)]),(5,[sc (zca q.wh zdi zdi)])]] kr⟩
theorem zkq (e:X) (hl:zae e.args) (hl2:zae e.sub) (hf:∀ x∈e.args,zaa E0 S.AM [x.av] [] x.av []) (hf2:∀ x∈e.sub,zaa E0 S.A9 [x.av] [] x.av []):∃ (r:X),r=e/\zaa E0 S.AM [e.av] [] r.av []:=by
 exact ⟨e,Zr,wk At.AM [sd [(2,[sc (zcU e.args zdi zdi)]),(5,[sc (zcJ e.sub zdi zdi)])]] kr⟩
def XSh:Nat->X->Prop
 | 0,_=>False
 | n+1,e=>(zae e.args/\zae e.sub)/\(∀ x∈e.args,XSh n x)/\∀ q∈e.sub,(zae q.items/\zae q.wh)/\(∀ x∈q.items,XSh n x)/\∀ x∈q.wh,XSh n x
theorem XOk.sh:∀ {n:Nat} {e:X},XOk n e->XSh n e
 | 0,_,h=>h.elim
 | _+1,_,⟨_,h2,h3,h4⟩=>⟨⟨h2.1.short,h2.2.short⟩,fun x hx=>(h3 x hx).sh,fun q hq=>⟨⟨(h4 q hq).1.1.short,(h4 q hq).1.2.short⟩,fun x hx=>((h4 q hq).2.1 x hx).sh,fun x hx=>((h4 q hq).2.2 x hx).sh⟩⟩
theorem zaQ:∀ (n:Nat) (e:X),XSh n e->zaa E0 S.AM [e.av] [] e.av []
 | 0,_,h=>h.elim
 | n+1,e,h=>by
  obtain ⟨h2,h3,h4⟩:=h
  obtain ⟨r,rfl,hr⟩:=zkq e h2.1 h2.2 (fun x hx=>zaQ n x (h3 x hx)) (fun q hq=>by
   obtain ⟨r,rfl,hr⟩:=zfY q (h4 q hq).1.1 (h4 q hq).1.2 (fun x hx=>zaQ n x ((h4 q hq).2.1 x hx)) (fun x hx=>zaQ n x ((h4 q hq).2.2 x hx))
   exact hr)
  exact hr
structure QW (n:Nat) (q:Qy):Prop where
 items:Few q.items
 wh:Few q.wh
 hi:∀ x∈q.items,XOk n x
 hw:∀ x∈q.wh,XOk n x
structure QSh (n:Nat) (q:Qy):Prop where
 items:zae q.items
 wh:zae q.wh
 hi:∀ x∈q.items,XSh n x
 hw:∀ x∈q.wh,XSh n x
theorem QW.sh {n:Nat} {q:Qy} (h:QW n q):QSh n q:=⟨zaR h.items,zaR h.wh,fun x hx=>(h.hi x hx).sh,fun x hx=>(h.hw x hx).sh⟩
theorem zhv (n:Nat) (q:Qy) (h:QSh n q):zaa E0 S.A9 [q.av] [] q.av []:=by
 obtain ⟨r,rfl,hr⟩:=zfY q h.items h.wh (fun x hx=>zaQ n x (h.hi x hx)) (fun x hx=>zaQ n x (h.hw x hx))
 exact hr
theorem zeC {p:Prop} (h:p:=by first|assumption|omega|(simp;done)|(simp;omega)):p:=h
abbrev zcm (r:List X):List AV:=[.sl (zad r)]
theorem zlh (s:Se) (hf:zaa E0 S.AM [s.ex.av] [] s.ex.av []):∃ (r:Se),r=s/\zaa E0 S.Bu [.agg s.cells] [] (.agg r.cells) []:=by
 exact ⟨s,Zr,wk At.Bu [sd [(4,[sc hf])]] kr⟩
theorem zlE (n:Nat) (s:Se) (h:XSh n s.ex):zaa E0 S.Bu [.agg s.cells] [] (.agg s.cells) []:=by
 obtain ⟨r,rfl,hr⟩:=zlh s (zaQ n s.ex h)
 exact hr
noncomputable def L_dlL (l:List (List X)) (i:Nat) (out:List (List X)):Cfg:=zaj B.AU 0 [(1,.fn S.Bg []),(5,.own 0 out.length),(8,.sl ((l).map zcm)),(9,iv (((l).map zcm).length:Nat)),(10,iv (i:Nat))] [.row Ty.LExpr ((out).map zcm) false]
theorem Zcv0 {p:Prop} (h:p:=by first|rfl|(simp;done)|(simp [X.cells,Qy.cells,V.cells,Col.cells,Rw.cells,Tb.cells,Fr.cells,Sch.cells,Tp.cells,Pl.cells,xCol,xLit,xBin,xNeg,Im.cells,Lk.cells,Ac.cells,Se.cells,Tg.cells];done)):p:=h
theorem zcO (l:List (List X)) (hl:zae l) (hf:∀ x∈l,zaa E0 S.Bg [xsl x] [] (xsl x) []) (i:Nat) (out:List (List X)) (hi:i<=(l).length) (hI:out=l.take i):∃ (out':List (List X)),(out'=l.take (l).length)/\(decide ((((l).length:Nat):Int) < ((((l).map zcm).length:Nat):Int))=false)/\∀ R,Good E0 B.AU [] (L_dlL l (l).length out') R->Good E0 B.AU [] (L_dlL l i out) R:=by
 have hk:=hi;revert i out;refine zlp ((l).length) (fun i hlt ih out hi hI _=>?_)
 obtain ⟨x,hx,h0,hw⟩:=zlq (l:=l) (((l).map zcm).length) hlt
 have hfx:=hf x (List.mem_of_getElem? hx)
 have ho:out.length<=1000000000:=by rw [hI,List.length_take];simp only [zae] at hl;omega
 exact Zih (ih (out++[x]) Zo (by rw [List.take_add_one,hx,hI];rfl) Zo) fun R gY=>zab (wkl [sb h0,se (zat zcm hx rfl),sc hfx,sqA (List.map zcm out) [[AV.sl (zad x)]] out.length 1 24,si hw] [1,5,8,9,10] 1 kr (zbM 5 0 (List.map zcm out++[[AV.sl (zad x)]]) gY (he:=Zcv0) (hm:=Zcv0)))
theorem zeS (l:List (List X)) (hl:zae l) (hf:∀ x∈l,zaa E0 S.Bg [xsl x] [] (xsl x) []):∃ (r:List (List X)),r=l/\zaa E0 S.AU [.sl ((l).map zcm),.fn S.Bg []] [] (.sl ((r).map zcm)) []:=by
 obtain ⟨out1,q1,q1_1,g1⟩:=zcO l Za Za 0 ([]) Za Za
 exact ⟨out1,(by first|assumption|(rw [List.take_length] at *;assumption)),wkcN At.AU [] [1,5,8,9,10] 0 [(.ot 5 Ty.LExpr,1)] kr (g1 _ (zab (wkr [sqx (out1.length=(List.map zcm out1).length),sb q1_1] kr)))⟩
theorem zeX (l:List (List X)) (hl:zae l) (hf:∀ x∈l,zaa E0 S.Bg [xsl x] [] (xsl x) []):zaa E0 S.AU [.sl ((l).map zcm),.fn S.Bg []] [] (.sl ((l).map zcm)) []:=by
 obtain ⟨r,rfl,h⟩:=zeS l hl hf
 exact h
noncomputable def L_dlS (l:List Se) (i:Nat) (out:List Se):Cfg:=zaj B.A1 0 [(1,.fn S.Bu []),(5,.own 0 out.length),(8,.sl ((l).map Se.cells)),(9,iv (((l).map Se.cells).length:Nat)),(10,iv (i:Nat))] [.row Ty.Set ((out).map Se.cells) false]
theorem zc7 (l:List Se) (hl:zae l) (hf:∀ x∈l,zaa E0 S.Bu [.agg x.cells] [] (.agg x.cells) []) (i:Nat) (out:List Se) (hi:i<=(l).length) (hI:out=l.take i):∃ (out':List Se),(out'=l.take (l).length)/\(decide ((((l).length:Nat):Int) < ((((l).map Se.cells).length:Nat):Int))=false)/\∀ R,Good E0 B.A1 [] (L_dlS l (l).length out') R->Good E0 B.A1 [] (L_dlS l i out) R:=by
 have hk:=hi;revert i out;refine zlp ((l).length) (fun i hlt ih out hi hI _=>?_)
 obtain ⟨x,hx,h0,hw⟩:=zlq (l:=l) (((l).map Se.cells).length) hlt
 have hfx:=hf x (List.mem_of_getElem? hx)
 have ho:out.length<=1000000000:=by rw [hI,List.length_take];simp only [zae] at hl;omega
 exact Zih (ih (out++[x]) Zo (by rw [List.take_add_one,hx,hI];rfl) Zo) fun R gY=>zab (wkl [sb h0,se (zat Se.cells hx rfl),sc hfx,sqA (List.map Se.cells out) [(sv x.col::x.ex.cells)] out.length 11 152,si hw] [1,5,8,9,10] 1 kr (zbM 5 0 (List.map Se.cells out++[(sv x.col::x.ex.cells)]) gY (he:=Zcv0) (hm:=Zcv0)))
theorem zfM (l:List Se) (hl:zae l) (hf:∀ x∈l,zaa E0 S.Bu [.agg x.cells] [] (.agg x.cells) []):∃ (r:List Se),r=l/\zaa E0 S.A1 [.sl ((l).map Se.cells),.fn S.Bu []] [] (.sl ((r).map Se.cells)) []:=by
 obtain ⟨out1,q1,q1_1,g1⟩:=zc7 l Za Za 0 ([]) Za Za
 exact ⟨out1,(by first|assumption|(rw [List.take_length] at *;assumption)),wkcN At.A1 [] [1,5,8,9,10] 0 [(.ot 5 Ty.Set,1)] kr (g1 _ (zab (wkr [sqx (out1.length=(List.map Se.cells out1).length),sb q1_1] kr)))⟩
theorem zfQ (l:List Se) (hl:zae l) (hf:∀ x∈l,zaa E0 S.Bu [.agg x.cells] [] (.agg x.cells) []):zaa E0 S.A1 [.sl ((l).map Se.cells),.fn S.Bu []] [] (.sl ((l).map Se.cells)) []:=by
 obtain ⟨r,rfl,h⟩:=zfM l hl hf
 exact h
structure AcOk (n:Nat) (a:Ac):Prop where
 rows:Few a.rows
 row:∀ r∈a.rows,Few r/\∀ x∈r,XOk n x
 query:Few a.query
 qs:∀ q∈a.query,QW n q
 sets:Few a.sets
 set:∀ s∈a.sets,XOk n s.ex
 wh:Few a.wh
 w:∀ x∈a.wh,XOk n x
structure AcSh (n:Nat) (a:Ac):Prop where
 rows:zae a.rows
 row:∀ r∈a.rows,zae r/\∀ x∈r,XSh n x
 query:zae a.query
 qs:∀ q∈a.query,QSh n q
 sets:zae a.sets
 set:∀ s∈a.sets,XSh n s.ex
 wh:zae a.wh
 w:∀ x∈a.wh,XSh n x
theorem AcOk.sh {n:Nat} {a:Ac} (h:AcOk n a):AcSh n a :=
 ⟨zaR h.rows,fun r hr=>⟨zaR (h.row r hr).1,fun x hx=>((h.row r hr).2 x hx).sh⟩,zaR h.query,fun q hq=>(h.qs q hq).sh,zaR h.sets,fun s hs=>(h.set s hs).sh,zaR h.wh,fun x hx=>(h.w x hx).sh⟩
def RowsCp (l:List (List X)):Prop:=∀ x∈l,zaa E0 S.Bg [xsl x] [] (xsl x) []
theorem ziN (n:Nat) (a:Ac) (h:AcSh n a) (h1:zae a.rows) (h2:zae a.query) (h3:zae a.sets) (h4:zae a.wh) (hr:RowsCp a.rows) (hq:∀ x∈a.query,zaa E0 S.A9 [x.av] [] x.av []) (hs:∀ x∈a.sets,zaa E0 S.Bu [.agg x.cells] [] (.agg x.cells) []) (hw:∀ x∈a.wh,zaa E0 S.AM [x.av] [] x.av []):∃ (r:Ac),r=a/\zaa E0 S.A6 [a.av] [] r.av []:=by
 exact ⟨a,Zr,wk At.A6 [sd [(2,[sc (zeX a.rows (by first|assumption|exact hr) (by first|assumption|exact hr))]),(5,[sc (zcJ a.query (by first|assumption|exact hr) (by first|assumption|exact hr))]),(8,[sc (zfQ a.sets (by first|assumption|exact hr) (by first|assumption|exact hr))]),(11,[sc (zca a.wh (by first|assumption|exact hr) (by first|assumption|exact hr))])]] kr⟩
theorem zi2 (n:Nat) (a:Ac) (h:AcSh n a):zaa E0 S.A6 [a.av] [] a.av []:=by
 obtain ⟨r,rfl,hr⟩:=ziN n a h h.rows h.query h.sets h.wh
  (fun x hx=>zca x (h.row x hx).1 fun y hy=>zaQ n y ((h.row x hx).2 y hy))
  (fun q hq=>zhv n q (h.qs q hq)) (fun s hs=>zlE n s (h.set s hs)) (fun x hx=>zaQ n x (h.w x hx))
 exact hr
noncomputable def L_dlA (l:List Ac) (i:Nat) (out:List Ac):Cfg:=zaj B.AO 0 [(1,.fn S.A6 []),(5,.own 0 out.length),(8,.sl ((l).map Ac.cells)),(9,iv (((l).map Ac.cells).length:Nat)),(10,iv (i:Nat))] [.row Ty.Action ((out).map Ac.cells) false]
theorem zcG (l:List Ac) (hl:zae l) (hf:∀ x∈l,zaa E0 S.A6 [.agg x.cells] [] (.agg x.cells) []) (i:Nat) (out:List Ac) (hi:i<=(l).length) (hI:out=l.take i):∃ (out':List Ac),(out'=l.take (l).length)/\(decide ((((l).length:Nat):Int) < ((((l).map Ac.cells).length:Nat):Int))=false)/\∀ R,Good E0 B.AO [] (L_dlA l (l).length out') R->Good E0 B.AO [] (L_dlA l i out) R:=by
 have hk:=hi;revert i out;refine zlp ((l).length) (fun i hlt ih out hi hI _=>?_)
 obtain ⟨x,hx,h0,hw⟩:=zlq (l:=l) (((l).map Ac.cells).length) hlt
 have hfx:=hf x (List.mem_of_getElem? hx)
 have ho:out.length<=1000000000:=by rw [hI,List.length_take];simp only [zae] at hl;omega
 exact Zih (ih (out++[x]) Zo (by rw [List.take_add_one,hx,hI];rfl) Zo) fun R gY=>zab (wkl [sb h0,se (zat Ac.cells hx rfl),sc hfx,sqA (List.map Ac.cells out) [[iv x.kind,sv x.table,AV.sl (List.map (fun r=>[AV.sl (zad r)]) x.rows),AV.sl (zag x.query),ZE x.sets,AV.sl (zad x.wh),sv x.text]] out.length 7 136,si hw] [1,5,8,9,10] 1 kr (zbM 5 0 (List.map Ac.cells out++[[iv x.kind,sv x.table,AV.sl (List.map (fun r=>[AV.sl (zad r)]) x.rows),AV.sl (zag x.query),ZE x.sets,AV.sl (zad x.wh),sv x.text]]) gY (he:=Zcv0) (hm:=Zcv0)))
theorem zeH (l:List Ac) (hl:zae l) (hf:∀ x∈l,zaa E0 S.A6 [.agg x.cells] [] (.agg x.cells) []):∃ (r:List Ac),r=l/\zaa E0 S.AO [.sl ((l).map Ac.cells),.fn S.A6 []] [] (.sl ((r).map Ac.cells)) []:=by
 obtain ⟨out1,q1,q1_1,g1⟩:=zcG l Za Za 0 ([]) Za Za
 exact ⟨out1,(by first|assumption|(rw [List.take_length] at *;assumption)),wkcN At.AO [] [1,5,8,9,10] 0 [(.ot 5 Ty.Action,1)] kr (g1 _ (zab (wkr [sqx (out1.length=(List.map Ac.cells out1).length),sb q1_1] kr)))⟩
theorem zeL (l:List Ac) (hl:zae l) (hf:∀ x∈l,zaa E0 S.A6 [.agg x.cells] [] (.agg x.cells) []):zaa E0 S.AO [.sl ((l).map Ac.cells),.fn S.A6 []] [] (.sl ((l).map Ac.cells)) []:=by
 obtain ⟨r,rfl,h⟩:=zeH l hl hf
 exact h
structure TgOk (n:Nat) (t:Tg):Prop where
 of:Few t.of
 prec:Few t.prec
 foll:Few t.foll
 rank:Few t.rank
 whens:Few t.when_
 when_:∀ x∈t.when_,XOk n x
 acts:Few t.acts
 act:∀ a∈t.acts,AcOk n a
structure TgSh (n:Nat) (t:Tg):Prop where
 of:zae t.of
 prec:zae t.prec
 foll:zae t.foll
 rank:zae t.rank
 whens:zae t.when_
 when_:∀ x∈t.when_,XSh n x
 acts:zae t.acts
 act:∀ a∈t.acts,AcSh n a
theorem TgOk.sh {n:Nat} {t:Tg} (h:TgOk n t):TgSh n t :=
 ⟨zaR h.of,zaR h.prec,zaR h.foll,zaR h.rank,zaR h.whens,fun x hx=>(h.when_ x hx).sh,zaR h.acts,fun a ha=>(h.act a ha).sh⟩
theorem zh2 (n:Nat) (t:Tg) (h1:zae t.of) (h2:zae t.prec) (h3:zae t.foll) (h4:zae t.rank) (h5:zae t.when_) (h6:zae t.acts) (hw:∀ x∈t.when_,zaa E0 S.AM [x.av] [] x.av []) (ha:∀ x∈t.acts,zaa E0 S.A6 [.agg x.cells] [] (.agg x.cells) []):∃ (r:Tg),r=t/\zaa E0 S.AP [t.av] [] r.av []:=by
 exact ⟨t,Zr,wk At.AP [sqx (True/\True/\True/\True/\t.of.length=(List.map zaS t.of).length/\True/\t.prec.length=(List.map zaS t.prec).length/\t.foll.length=(List.map zaS t.foll).length/\t.rank.length=(List.map Rk.cells t.rank).length/\True/\True/\True),sd [(2,[sc (zbE t.of zeC)]),(5,[sc (zbE t.prec zeC)]),(8,[sc (zbE t.foll zeC)]),(11,[sc (zfT t.rank zeC)])],sd [(2,[sc (zca t.when_ zeC zeC)]),(5,[sc (zeL t.acts zeC zeC)])]] kr⟩
theorem zie (n:Nat) (t:Tg) (h:TgSh n t):zaa E0 S.AP [t.av] [] t.av []:=by
 obtain ⟨r,rfl,hr⟩:=zh2 n t h.of h.prec h.foll h.rank h.whens h.acts
  (fun x hx=>zaQ n x (h.when_ x hx)) (fun a ha=>zi2 n a (h.act a ha))
 exact hr
theorem sH8_2 {p:Prop} (h:p:=by first|assumption|omega|(simp;done)|(simp;omega)):p:=h
noncomputable def L_stIx (l:List Str) (v:Str) (i:Nat) :Cfg:=zaj B.Bc 0 [(0,.sl (l.map zaS)),(1,sv v),(7,iv ((l.map zaS).length:Nat)),(8,iv (i:Nat))] []
def stIx (l:List Str) (v:Str):List (Str)->Nat->Int
 | [],i =>
  -1
 | x::r,i =>
  bif ByteArray.toList v==ByteArray.toList x then
   (i:Int)
  else
   stIx l v r (i+1)
theorem zkz (l:List Str) (v:Str) (hl:zae l):∀ (kk i:Nat),i+kk=(l).length->Good E0 B.Bc [] (L_stIx l v i ) (Shut 0 fun r h=>r=(iv (stIx l v ((l).drop i) i ))/\h=[]):=by
 intro kk
 induction kk with
 | zero =>
  intro i  hi
  have h0:decide (((i:Nat):Int) < (((l.map zaS).length:Nat):Int))=false:=by simp;omega
  have e0:(l).drop i=[]:=List.drop_of_length_le Zo
  rw [e0]
  simp only [stIx]
  refine zab ?_
  exact wkr [sb h0] kr
 | succ kk ih =>
  intro i  hi
  obtain ⟨x,hx⟩:=zdG (l:=l) (i:=i) Zo
  have h0:decide (((i:Nat):Int) < (((l.map zaS).length:Nat):Int))=true:=by simp;omega
  have hw:=zch i (by first|omega|(simp only [zae,Few] at *;omega))
  rw [zbw hx]
  simp only [stIx]
  refine zab ?_
  let p_1:List St:=[sb h0,se (zat zaS hx rfl)]
  cases h1:ByteArray.toList v==ByteArray.toList x
  ·exact wkl (p_1++[sb h1,si hw]) [0,1,7,8] 0 kr (ih (i+1) Zo )
  ·exact wkr (p_1++[sb h1]) kr
def ziq (l:List Str) (v:Str):Int :=
 stIx l v l (0)
theorem zeZ (l:List Str) (v:Str) (hl:zae l):zaa E0 S.Bc [ssl l,sv v] [] (iv (ziq l v)) []:=by
 unfold ziq
 exact wkc At.Bc [] [0,1,7,8] 0 kr (zkz l v hl l.length 0 Zs)
def hasS (l:List Str) (v:Str):Bool :=
 decide ((0:Int)<=ziq l v)
theorem zd2 (l:List Str) (v:Str) (hl:zae l):zaa E0 S.By [ssl l,sv v] [] (bv (hasS l v)) []:=by
 exact wk At.By [sc (zeZ l v sH8_2)] kr
structure FsT (frs:List Fr):Prop where
 len:frs.length<=900
 rows:∀ f∈frs,zcR f.cols f.vals
 few:∀ f∈frs,Few f.cols
def zaA:Sch:=⟨⟨#[108,111,103]⟩,[⟨⟨#[110]⟩,1,false,false⟩,⟨⟨#[115]⟩,3,false,false⟩]⟩
theorem zmC:zha ⟨#[108,111,103]⟩=zaA:=by kernel_rfl
theorem zax:zaa E0 S.BA [sv ⟨#[108,111,103]⟩] [] zaA.av []:=by
 have:=zij ⟨#[108,111,103]⟩ zi8
 rw [zmC] at this;exact this
/- known -/
@[simp] theorem ba_self (s:Str):(s==s)=true:=by
 cases s with
 | mk d =>
  have h:(d==d)=true:=by simp
  exact h
theorem zma {s:Str} {i:Int} (h:0<=i/\i < ((s.size:Nat):Int)):∃ c:UInt8,ByteAt s i ((c.toNat:Nat):Int):=by
 obtain ⟨n,rfl⟩:=Int.eq_ofNat_of_zero_le h.1
 have hlt:n < s.size:=by omega
 exact ⟨s[n],⟨by omega,by simp [hlt]⟩⟩
def AtI {α:Type} (l:List α) (i:Int) (x:α):Prop:=0<=i/\l[i.toNat]?=some x
theorem zmg {α:Type} {l:List α} {i:Int} (h:0<=i/\i < ((l.length:Nat):Int)):∃ x,AtI l i x :=
 ⟨l[i.toNat]'Zo,h.1,List.getElem?_eq_getElem Zo⟩
theorem ziv {α:Type} (f:α->List AV) {l:List α} {i:Int} {x:α} (h:AtI l i x) {n:Nat} (hn:(f x).length=n):ElAt (l.map f) i (f x) n :=
 ⟨h.1,by simp [h.2],hn⟩
def AcSet (a:Ac):Prop:=a.kind=5->∃ s,a.sets=[s]
end Go.AM
namespace Go.AM
open Go.RowKit
theorem zgM {E:Env0} (ht:zan E) (em:Bool) (d:Nat) (w:World):∀ (fs:List Field) (px xs:List Value),flat E.T px.length fs (xs.map shp)=true ->
  (forIn (m:=Sem) fs () fun f _=>do
   if f.name ≠ "_" then Instr.checkKey em (d + 1) f.type (← part f.type (px ++ xs).toArray f.offset)
   pure (ForInStep.yield ())).run E.P w=.ok () w
 | [],px,xs,hf=>by simp
 | f::fs,px,[],hf=>by simp [flat] at hf
 | f::fs,px,x::xs,hf=>by
  simp only [List.map_cons,flat,Bool.and_eq_true,bne_iff_ne] at hf
  obtain ⟨⟨⟨hn,ho⟩,hs⟩,hrest⟩:=hf
  have ho:=Nat.eq_of_beq_eq_true ho
  obtain ⟨hsz,hagg,hne⟩:=zhW hs
  obtain ⟨i,dd,z,tok⟩:=ht.at_ hne
  have p1:=zd9 tok w (px++x::xs) f.offset (by rw [hsz,ho];simp)
  rw [hsz,ho] at p1
  simp only [List.drop_left,List.take_succ_cons,List.take_zero,zcX,hagg,List.headD_cons] at p1
  have p2:(Instr.checkKey em (d+1) f.type x).run E.P w=.ok () w:=by
   cases x <;> simp [shp,zgF] at hs
   all_goals
    split at hs
    ·rename_i hk
     first
     | (have:=tok.bool_ hk;subst this;exact MapKept.run_checkKey tok.und (by simp [MapKept.IsKey]) em d)
     | (have:=tok.int_ hk;subst this;unfold Instr.checkKey;simp [run_underlying tok.und])
     | (have:=tok.str_ hk;subst this;exact MapKept.run_checkKey tok.und (by simp [MapKept.IsKey]) em d)
    ·cases hs
  have ih:=zgM ht em d w fs (px++[x]) xs (by simpa using hrest)
  simp only [List.append_assoc,List.singleton_append] at ih
  simp only [List.forIn_cons,Sem.run_bind,hn,ne_eq,not_false_eq_true,if_true,ho,p1,p2,Result.andThen_ok,Sem.run_pure]
  exact ih
theorem zf5 {P:Program} {kt:TypeId} {ss:List Shp} (hq:StructEq P kt ss) (w:World) {xs:List Value} (hx:xs.map shp=ss):∀ (l:List MapEntry) (rs:List Bool) (n:Nat),rs.length=l.length ->
  (∀ (i:Nat) (e:MapEntry) (r:Bool),l[i]?=some e->rs[i]?=some r->∃ ys,e.key=keyV true ys/\zaM xs ys=some r)->(Instr.findAsking kt (.agg xs.toArray) l n).run P w=.ok (zcS l rs n) w
 | [],[],_,_,_=>by simp [Instr.findAsking,zcS]
 | [],_::_,_,h,_=>by simp at h
 | _::_,[],_,h,_=>by simp at h
 | e::l,r::rs,n,hl,hall=>by
  obtain ⟨ys,h1,h2⟩:=hall 0 e r rfl rfl
  have ih:=zf5 hq w hx l rs (n+1) (by simpa using hl) (fun i e r hi hr=>hall (i+1) e r (by simpa using hi) (by simpa using hr))
  have h3:=hq.eq w xs ys r hx h2
  simp only [Instr.findAsking,Sem.run_bind,h1,keyV,h3,Result.andThen_ok]
  cases r
  ·simpa [zcS] using ih
  ·simp [zcS]
theorem zjX {E:Env0} (ht:zan E) {t kt et:TypeId} {fs:Array Field} {ss:List Shp} (hu:E.P.underlying t=some (.map kt et)) (hk:E.P.underlying kt=some (.struct fs)) (hf:flat E.T 0 fs.toList ss=true) (hq:StructEq E.P kt ss) {cs:List AV} {xs:List Value}
  (hc:zcC cs=some xs) (hs:xs.map shp=ss):KeyOK E.P t (.agg cs):=by
 refine ⟨⟨true,xs,by simp [za5,hc],⟨⟨kt,et,hu,fun e w us hx=>?_,fun w us l rs hx hl hall=>?_⟩⟩⟩⟩
 ·have h1:=zgM ht e 9998 w fs.toList [] us (by rw [hx,hs];exact hf)
  simp only [List.nil_append] at h1
  show (Instr.checkKey e 10000 kt (.agg us.toArray)).run E.P w=.ok () w
  unfold Instr.checkKey
  simp only [Sem.run_bind,run_underlying hk,Result.andThen_ok]
  rw [← Array.forIn_toList]
  have h2:∀ r:Result Unit,r=.ok () w->(r.andThen fun a w'=>(pure ():Sem Unit).run E.P w')=.ok () w:=by
   rintro _ rfl
   rfl
  exact h2 _ h1
 ·show (Instr.findKey kt (.agg us.toArray) l).run E.P w=_
  rw [run_findKey_eq w (by rw [hk]) _ l]
  exact zf5 hq w (by rw [hx,hs]) l rs 0 hl hall
end Go.AM
namespace Go.AM
open Go.RowKit
def zja (E:Env0) (h0:Heap) (β0:List Con) (S0:Addr->Prop) (w0:World) (fn:Func) (RR:Ending->World->Prop) (c:Cfg):Prop :=
 ∀ (β:List Con) (S:Addr->Prop) (w:World) (tmps:Array Value),tmps.size=c.n->Ext h0 β0 S0 w0 c.h β S w->Rel E c.h β S w->zam E.T c.h β w S c.ts tmps->kont E.P c.todo (bodyPost E.P fn RR) .normal ⟨tmps,[]⟩ w
theorem zkm {E:Env0} (ht:zan E) (hm:E.P.follows .mixedOrders=true) {h0:Heap} {β0:List Con} {S0:Addr->Prop} {w0:World} {fn:Func} {RR:Ending->World->Prop} {c c':Cfg} {os os':List Orc} {q:Option Prop} (hs:step (mk E) c os=some (q,c',os')) (hq:zah q) (hg:zja E h0 β0 S0 w0 fn RR c'):zja E h0 β0 S0 w0 fn RR c:=by
 intro β S w tmps hn x0 r rt
 obtain ⟨n,todo,ts,h⟩:=c
 simp only at hn x0 r rt ⊢
 unfold step at hs
 simp only at hs
 cases todo with
 | nil=>cases hs
 | cons it k =>
  cases it with
  | blk id =>
   simp only [Option.some.injEq,Prod.mk.injEq] at hs
   obtain ⟨_,rfl,_⟩:=hs
   exact hg β S w tmps hn x0 r rt
  | lp cc=>cases hs
  | ops all rest =>
   cases rest with
   | nil =>
    simp only [Option.some.injEq,Prod.mk.injEq] at hs
    obtain ⟨_,rfl,_⟩:=hs
    exact hg β S w tmps hn x0 r rt
   | cons o rest =>
    simp only at hs
    split at hs
    ·rename_i x hdst hx
     simp only [Option.some.injEq,Prod.mk.injEq] at hs
     obtain ⟨rfl,rfl,_⟩:=hs
     have hd:zao tmps.size o.dst=true:=by rw [hn];exact hdst
     simp only [kont,Exit.then]
     refine wpList_step fun K hK=>?_
     have:=zkl (Q:=kont E.P k (bodyPost E.P fn RR)) (K:=K) ht r rt hd hx hq ⟨fun β' S' w' tmps' hsz r' e' rt'=>hK _ _ ?_⟩
     ·exact this
     ·have:=hg β' S' w' tmps' (by rw [hsz];exact hn) (x0.trans e') r' rt'
      simp only [kont,Exit.then] at this
      exact this
    ·cases hs
  | code cc =>
   simp only [kont,Exit.then]
   cases cc with
   | skip =>
    simp only [Option.some.injEq,Prod.mk.injEq] at hs
    obtain ⟨_,rfl,_⟩:=hs
    exact wp_skip (hg β S w tmps hn x0 r rt)
   | label l =>
    simp only [Option.some.injEq,Prod.mk.injEq] at hs
    obtain ⟨_,rfl,_⟩:=hs
    exact wp_label (hg β S w tmps hn x0 r rt)
   | scope a =>
    simp only [Option.some.injEq,Prod.mk.injEq] at hs
    obtain ⟨_,rfl,_⟩:=hs
    refine wp_scope_straight (wp_mono (hg β S w tmps hn x0 r rt) fun e a w he=>?_)
    cases e with
    | goto l=>exact zcK k l a w he
    | _=>exact he
   | loop a =>
    simp only [Option.some.injEq,Prod.mk.injEq] at hs
    obtain ⟨_,rfl,_⟩:=hs
    exact zh0 (hg β S w tmps hn x0 r rt)
   | seq a b =>
    simp only [Option.some.injEq,Prod.mk.injEq] at hs
    obtain ⟨_,rfl,_⟩:=hs
    refine wp_seq (wp_mono (hg β S w tmps hn x0 r rt) fun e a w he=>?_)
    cases e <;> exact he
   | block id a =>
    simp only [Option.some.injEq,Prod.mk.injEq] at hs
    obtain ⟨_,rfl,_⟩:=hs
    refine wp_block (wp_mono (hg β S w tmps hn x0 r rt) fun e a w he=>?_)
    cases e <;> exact he
   | region id ops draw =>
    cases draw with
    | true =>
     simp only at hs
     split at hs
     ·rename_i l os1
      split at hs
      ·rename_i qs ts1 h1 hlv hsz
       simp only [Option.some.injEq,Prod.mk.injEq] at hs
       obtain ⟨rfl,rfl,_⟩:=hs
       simp only [zah] at hq
       exact zk5 ht hm (Nat.eq_of_beq_eq_true hsz) hlv hq hn x0 r rt (fun β' S' w' tmps' hn' x' r' rt'=>hg β' S' w' tmps' hn' x' r' rt')
      ·cases hs
     ·cases hs
    | false =>
     simp only [Option.some.injEq,Prod.mk.injEq] at hs
     obtain ⟨_,rfl,_⟩:=hs
     have:=hg β S w tmps hn x0 r rt
     simp only [kont,Exit.then] at this
     exact wp_region_list this
   | exit id =>
    simp only at hs
    split at hs
    ·rename_i k' hk
     simp only [Option.some.injEq,Prod.mk.injEq] at hs
     obtain ⟨_,rfl,_⟩:=hs
     exact wp_exit (zcH k k' _ _ hk (hg β S w tmps hn x0 r rt))
    ·cases hs
   | cond x a b =>
    have hx:=zap (ds:=[]) r rt x
    have lit:∀ bb,Act.eval ⟨tmps,[]⟩ x=.bool bb->zam E.T h β w S (zjh ts bb x) tmps:=by
     intro bb he
     cases x with
     | tmp d=>exact rt.lit he
     | _=>exact rt
    simp only at hs
    split at hs
    ·rename_i he
     simp only [mk_G] at he
     rw [he] at hx
     simp only [Option.some.injEq,Prod.mk.injEq] at hs
     obtain ⟨_,rfl,_⟩:=hs
     exact wp_cond_true hx.bl_inv (hg β S w tmps hn x0 r rt)
    ·rename_i he
     simp only [mk_G] at he
     rw [he] at hx
     simp only [Option.some.injEq,Prod.mk.injEq] at hs
     obtain ⟨_,rfl,_⟩:=hs
     exact wp_cond_false hx.bl_inv (hg β S w tmps hn x0 r rt)
    ·rename_i t he
     simp only [mk_G] at he
     rw [he] at hx
     split at hs
     ·simp only [Option.some.injEq,Prod.mk.injEq] at hs
      obtain ⟨rfl,rfl,_⟩:=hs
      simp only [zah] at hq
      subst hq
      exact wp_cond_true hx.v_inv (hg β S w tmps hn x0 r (lit _ hx.v_inv))
     ·simp only [Option.some.injEq,Prod.mk.injEq] at hs
      obtain ⟨rfl,rfl,_⟩:=hs
      simp only [zah] at hq
      subst hq
      exact wp_cond_false hx.v_inv (hg β S w tmps hn x0 r (lit _ hx.v_inv))
     ·cases hs
    ·cases hs
   | _=>cases hs
theorem zin {E:Env0} (ht:zan E) (hm:E.P.follows .mixedOrders=true) {h0:Heap} {β0:List Con} {S0:Addr->Prop} {w0:World} {fn:Func} {RR:Ending->World->Prop}:∀ (n:Nat) (c:Cfg) (os:List Orc),allP (run (mk E) n c os).1->zja E h0 β0 S0 w0 fn RR (run (mk E) n c os).2.1->zja E h0 β0 S0 w0 fn RR c
 | 0,c,os,_,hg=>hg
 | n+1,c,os,hq,hg=>by
  unfold run at hq hg
  cases hs:step (mk E) c os with
  | none=>simp only [hs] at hg;exact hg
  | some x =>
   obtain ⟨q,c',os'⟩:=x
   cases q with
   | none =>
    simp only [hs] at hq hg
    exact zkm ht hm hs trivial (zin ht hm n c' os' hq hg)
   | some q =>
    simp only [hs] at hq hg
    obtain ⟨h1,h2⟩:=zes hq
    exact zkm ht hm hs h1 (zin ht hm n c' os' h2 hg)
structure Foreign (gs:List Nat) (β:List Con) (S:Addr->Prop) (w0 w:World):Prop where
 new:∀ g∈gs.tail,w0.heap.size<=g
 lt:∀ g∈gs,g < w.heap.size
 apart:∀ g∈gs,∀ (b:Nat) (k:Con),β[b]?=some k->k.blk≠some g
 sep:∀ g∈gs,∀ a,S a->a.block≠g
theorem Foreign.ext {gs:List Nat} {h h':Heap} {β β':List Con} {S S':Addr->Prop} {w0 w w':World} (f:Foreign gs β S w0 w) (x:Ext h β S w h' β' S' w'):Foreign gs β' S' w0 w'/\∀ g∈gs,w'.heap[g]?=w.heap[g]? :=
 ⟨⟨f.new,fun g hg=>Nat.lt_of_lt_of_le (f.lt g hg) x.size,fun g hg b k hb hk=>by
  rcases x.new b k g hb hk with ⟨b',k',h1,h2,_⟩|h1
  ·exact f.apart g hg b' k' h1 h2
  ·have:=f.lt g hg;omega,fun g hg a ha he=>by
  rcases x.S_new a ha with h1|h1|⟨b,k,h1,h2⟩
  ·exact f.sep g hg a h1 he
  ·have:=f.lt g hg;omega
  ·exact f.apart g hg b k h1 (by rw [h2,he])⟩,fun g hg=>x.keep g (f.lt g hg) (f.apart g hg)⟩
def zbj (E:Env0) (fn:Func) (h0:Heap) (gs:List Nat) (F:(Addr->Prop)->World->Prop) (c:Cfg) (R:AV->Heap->Prop):Prop :=
 ∀ (β0:List Con) (S0:Addr->Prop) (w0:World) (β:List Con) (S:Addr->Prop) (w:World) (tmps:Array Value),β0.length=h0.length->tmps.size=c.n->Ext h0 β0 S0 w0 c.h β S w->Rel E c.h β S w->zam E.T c.h β w S c.ts tmps->Foreign gs β S w0 w->F S w ->
  kont E.P c.todo (bodyPost E.P fn (Post E h0 β0 S0 w0 R)) .normal ⟨tmps,[]⟩ w
def Only (gs:List Nat) (F:(Addr->Prop)->World->Prop):Prop:=∀ (S S':Addr->Prop) (w w':World),(∀ a,S a->S' a)->(∀ a,S a->w'.cell? a=w.cell? a)->(∀ g∈gs,w'.heap[g]?=w.heap[g]?)->F S w->F S' w'
theorem zm0 {E:Env0} {fn:Func} {h0:Heap} {gs:List Nat} {F:(Addr->Prop)->World->Prop} {c:Cfg} {R:AV->Heap->Prop} (hg:Good E fn h0 c R):zbj E fn h0 gs F c R :=
 fun β0 S0 w0 β S w tmps hb hn x r rt _ _=>hg β0 S0 w0 β S w tmps hb hn x r rt
theorem ziw {E:Env0} (ht:zan E) (hm:E.P.follows .mixedOrders=true) {fn:Func} {h0:Heap} {gs:List Nat} {F:(Addr->Prop)->World->Prop} (hF:Only gs F) {R:AV->Heap->Prop} (n:Nat) {c:Cfg} (os:List Orc) (hq:allP (run (mk E) n c os).1) (hg:zbj E fn h0 gs F (run (mk E) n c os).2.1 R):zbj E fn h0 gs F c R :=
 fun β0 S0 w0 β S w tmps hb hn x r rt hf hw=>zin ht hm (h0:=c.h) (β0:=β) (S0:=S) (w0:=w) n c os hq (fun β' S' w' tmps' hn' x' r' rt' =>
  hg β0 S0 w0 β' S' w' tmps' hb hn' (x.trans x') r' rt' (hf.ext x').1 (hF S S' w w' x'.S_le x'.S_cell (hf.ext x').2 hw)) β S w tmps hn (Ext.refl _ _ _ _) r rt
theorem zmk {E:Env0} {fn:Func} {R:AV->Heap->Prop} {h0:Heap} {gs:List Nat} {F:(Addr->Prop)->World->Prop} {c:Cfg} (live:List Nat) (m:Nat) (hm:h0.length<=m) (hg:zbj E fn h0 gs F (cut live m c) R):zbj E fn h0 gs F c R:=by
 intro β0 S0 w0 β S w tmps hb0 hn x0 r rt hf hw
 obtain ⟨r1,hv⟩:=r.first m
 refine hg β0 S0 w0 (β.take m) S w tmps hb0 hn (x0.first r hm hb0) r1 (fun t=>?_) ⟨hf.new,hf.lt,fun g hg b k hb=>?_,hf.sep⟩ hw
 ·rcases zez m c.ts live t with h1|h1
  ·simp only [cut];rw [h1];exact .d _ _ (.un _)
  ·simp only [cut];rw [h1];exact hv _ _ (rt t)
 ·rw [List.getElem?_take] at hb
  split at hb
  ·exact hf.apart g hg b k hb
  ·cases hb
theorem zm1 {E:Env0} (ht:zan E) (hmix:E.P.follows .mixedOrders=true) {fn:Func} {R:AV->Heap->Prop} {h0:Heap} {gs:List Nat} {F:(Addr->Prop)->World->Prop} (hF:Only gs F) {c c':Cfg} (n:Nat) (os:List Orc) (live:List Nat) (m:Nat) {q:List Prop}
  (hm:Nat.ble h0.length m=true) (hq0:(run (mk E) n c os).1=q) (hc:cut live m (run (mk E) n c os).2.1=c') (hq:allP q) (hg:zbj E fn h0 gs F c' R):zbj E fn h0 gs F c R:=by
 subst hq0
 subst hc
 exact ziw ht hmix hF n os hq (zmk live m (Nat.le_of_ble_eq_true hm) hg)
structure Touch (g:Nat) (w w':World):Prop where
 os:w'.os=w.os
 tape:w'.tape=w.tape
 drawn:w.drawn<=w'.drawn
 output:w'.output=w.output
 size:w'.heap.size=w.heap.size
 other:∀ b,b≠g->w'.heap[b]?=w.heap[b]?
theorem Touch.cell {g:Nat} {w w':World} (t:Touch g w w') {a:Addr} (ha:a.block≠g):w'.cell? a=w.cell? a:=World.cell?_of_block (t.other a.block ha)
theorem Ext.touch {h0 h:Heap} {β0 β:List Con} {S0 S:Addr->Prop} {w0 w w':World} {gs:List Nat} {g:Nat} (x:Ext h0 β0 S0 w0 h β S w) (t:Touch g w w') (f:Foreign gs β S w0 w) (hg:g∈gs) (hgt:g∈gs.tail):Ext h0 β0 S0 w0 h β S w' where
 box:=x.box
 con:=x.con
 row:=x.row
 mp:=x.mp
 conm:=x.conm
 S_le:=x.S_le
 S_cell:=fun a ha=>(t.cell (f.sep g hg a (x.S_le a ha))).trans (x.S_cell a ha)
 S_new:=x.S_new
 os:=t.os.trans x.os
 tape:=t.tape.trans x.tape
 drawn:=Nat.le_trans x.drawn t.drawn
 output:=t.output.trans x.output
 size:=by rw [t.size];exact x.size
 keep:=fun b hb hne=>(t.other b (by have:=f.new g hgt;omega)).trans (x.keep b hb hne)
 new:=x.new
theorem RelV.cells {T:TypeId->TI} {h:Heap} {β:List Con} {S:Addr->Prop} {w w':World} (hc:∀ a,S a->w'.cell? a=w.cell? a) {x:AV} {y:Value} (hr:RelV T h β w S x y):RelV T h β w' S x y:=by
 induction hr with
 | d x y hd=>exact .d x y (hd.mono (fun _ h=>h) hc)
 | agg cs vs hl ho _ ih=>exact .agg cs vs hl ho ih
 | tup cs vs hl _ ih=>exact .tup cs vs hl ih
 | nl a=>exact .nl a
 | p b off g hb=>exact .p b off g hb
 | own b n y e xs sh hb hn hy ho=>exact .own b n y e xs sh hb hn hy ho
 | ep b n i off g e xs sh hb hn hy=>exact .ep b n i off g e xs sh hb hn hy
 | os b n lo hi y e xs sh hb hn hl hh ho hy=>exact .os b n lo hi y e xs sh hb hn hl hh ho hy
 | fn f caps vs hl _ ih=>exact .fn f caps vs hl ih
 | mp b g hb=>exact .mp b g hb
theorem Rel.touch {E:Env0} {h:Heap} {β:List Con} {S:Addr->Prop} {w0 w w':World} {gs:List Nat} {g:Nat} (r:Rel E h β S w) (t:Touch g w w') (f:Foreign gs β S w0 w) (hg:g∈gs):Rel E h β S w' where
 len:=r.len
 box:=fun b cs hb=>by
  obtain ⟨q,vs,ty,h1,h2,h3,h4⟩:=r.box b cs hb
  exact ⟨q,vs,ty,h1,(t.other q fun e=>f.apart g hg b _ h1 (by rw [← e];rfl)).trans h2,h3,fun i x y hx hy=>⟨(h4 i x y hx hy).1.cells fun a ha=>t.cell (f.sep g hg a ha),(h4 i x y hx hy).2⟩⟩
 row:=fun b e xs sh hb=>by
  obtain ⟨k,h1,h2⟩:=r.row b e xs sh hb
  exact ⟨k,h1,h2.ext (fun _ h=>h) (fun a ha=>t.cell (f.sep g hg a ha)) fun q hq=>t.other q fun e=>f.apart g hg b k h1 (by rw [hq,e])⟩
 mp:=fun b es hb=>by
  obtain ⟨k,h1,h2⟩:=r.mp b es hb
  exact ⟨k,h1,h2.ext (fun _ h=>h) (fun a ha=>t.cell (f.sep g hg a ha)) (t.other k fun e=>f.apart g hg b _ h1 (by rw [← e];rfl))⟩
 apart:=r.apart
 lt:=fun b k q h1 h2=>by rw [t.size];exact r.lt b k q h1 h2
 stable:=fun a ha=>by rw [t.size];exact r.stable a ha
 free:=r.free
 glob:=fun q cs hq=>(r.glob q cs hq).mono (fun _ h=>h) fun a ha=>t.cell (f.sep g hg a ha)
theorem zam.touch {E:Env0} {h:Heap} {β:List Con} {S:Addr->Prop} {w0 w w':World} {gs:List Nat} {g:Nat} {ts:TS} {tmps:Array Value} (rt:zam E.T h β w S ts tmps) (t:Touch g w w') (f:Foreign gs β S w0 w) (hg:g∈gs):zam E.T h β w' S ts tmps :=
 fun q=>(rt q).cells fun a ha=>t.cell (f.sep g hg a ha)
theorem Foreign.touch {gs:List Nat} {β:List Con} {S:Addr->Prop} {w0 w w':World} {g:Nat} (f:Foreign gs β S w0 w) (t:Touch g w w'):Foreign gs β S w0 w':=⟨f.new,fun q hq=>by rw [t.size];exact f.lt q hq,f.apart,f.sep⟩
/-! ### 'for k, v := range m' -/
def zex (L:List (AV × AV)) (seen:Array Nat):List (AV × AV):=((List.range L.length).filter fun i=>!seen.contains i).filterMap fun i=>L[i]?
def ItF (gm gi:Nat) (l:List (AV × AV)) (cur:Option (AV × AV)) (S:Addr->Prop) (w:World):Prop:=∃ (L:List (AV × AV)) (ents:Array MapEntry) (seen:Array Nat) (c0:Nat),
 w.heap[gm]?=some (.map ents L.length)/\ents.size=L.length/\(∀ (i:Nat) (k x:AV),L[i]?=some (k,x)->∃ (kv xv:Value),ents[i]?=some ⟨kv,xv,i⟩/\RelD w S k kv/\RelD w S x xv) /\
 w.heap[gi]?=some (.mapIter (some gm) L.length seen c0)/\L.length<=c0/\l.Perm (zex L seen) /\
 ∀ p,cur=some p->∃ (s':Array Nat) (i:Nat),seen=s'.push i/\L[i]?=some p/\c0=L.length
theorem zjn (gm gi:Nat) (l:List (AV × AV)) (cur:Option (AV × AV)):Only [gm,gi] (ItF gm gi l cur):=by
 intro S S' w w' hS hc hg ⟨L,ents,seen,c0,h1,h2,h3,h4,h5,h6,h7⟩
 exact ⟨L,ents,seen,c0,(hg gm Zs).trans h1,h2,fun i k x hi=>by
  obtain ⟨kv,xv,a1,a2,a3⟩:=h3 i k x hi
  exact ⟨kv,xv,a1,a2.mono hS hc,a3.mono hS hc⟩,(hg gi Zs).trans h4,h5,h6,h7⟩
theorem zhJ {α:Type} (L:List α):∀ n:Nat,(List.range n).filterMap (fun i=>L[i]?)=L.take n
 | 0=>by simp
 | n+1=>by
  rw [List.range_succ,List.filterMap_append,zhJ L n,List.take_add_one]
  congr 1
theorem zlJ (L:List (AV × AV)):zex L #[]=L:=by
 unfold zex
 have:(List.range L.length).filter (fun i=>!(#[]:Array Nat).contains i)=List.range L.length:=by simp
 rw [this,zhJ,List.take_length]
theorem zlA {E:Env0} {fn:Func} {h0 h:Heap} {all r:List Oper} {o:Oper} {k:List It} {n:Nat} {ts:TS} {R:AV->Heap->Prop} {t kt et:TypeId} {tm b d:Nat} {es:List (AV × AV)} (live:List Nat) (hop:o.op=.range t (.tmp tm)) (hgd:o.guard=none) (hd:o.dst=some d) (hdn:d < n)
  (ht:E.P.underlying t=some (.map kt et)) (hm:look ts tm=.mp b) (hb:h[b]?=some (.mp es)) (hb0:Nat.ble h0.length b=true)
  (H:∀ gm gi,zbj E fn h0 [gm,gi] (ItF gm gi es none) ⟨n,.ops all r::k,(d,.v (.pointer (some ⟨gi,0,none⟩)))::mask live b ts,(h.take b).map (zay (za2 b))⟩ R):Good E fn h0 ⟨n,.ops all (o::r)::k,ts,h⟩ R:=by
 intro β0 S0 w0 β S w tmps hβ hn x0 r0 rt
 have hb0:=Nat.le_of_ble_eq_true hb0
 simp only at hn x0 r0 rt
 obtain ⟨gm,c1,L,ents,c2,c3,c4,c5⟩:=r0.mp b es hb
 have hmv:=rt tm
 rw [hm] at hmv
 generalize hev:tmps.getD tm undef=mv at hmv
 cases hmv with
 | d _ _ hd=>cases hd
 | mp _ g' c1' =>
 rw [c1] at c1'
 cases c1'
 have hgl:gm < w.heap.size:=r0.lt b _ gm c1 rfl
 have hbl:BelowD w.heap.size w (w.alloc (.mapIter (some gm) L.length #[] L.length)):=(BelowD.refl _ _).alloc (Nat.le_refl _) _
 have x1:Ext h β S w h β S (w.alloc (.mapIter (some gm) L.length #[] L.length)):=Ext.grow r0 hbl (fun _ h=>h) (fun _ h=>.inl h)
 have r1:Rel E h β S (w.alloc (.mapIter (some gm) L.length #[] L.length)):=r0.grow hbl (fun _ h=>h) (fun _ h=>.inl h)
 obtain ⟨r2,hv2⟩:=r1.first b
 have hno:∀ a,S a->a.block≠gm:=by
  intro a ha hag
  obtain ⟨e,xs,h1,_⟩:=r0.free b _ gm a c1 rfl ha hag
  rw [hb] at h1
  cases h1
 simp only [kont,Exit.then]
 refine wpList_step fun K hK=>?_
 show wpG E.P all.toArray o ⟨tmps,[]⟩ w K _
 unfold wpG
 rw [if_pos (by simp [Region.wanted,hgd])]
 unfold Oper.wp
 have hrun:(execOp (Act.eval ⟨tmps,[]⟩) o).run E.P w=.ok (.value (.pointer (some ⟨w.heap.size,0,none⟩))) (w.alloc (.mapIter (some gm) L.length #[] L.length)):=by
  simp only [execOp,hop,Act.eval,hev,run_range_map w t kt et gm ents L.length ht c3,Sem.run_bind,Result.andThen_ok,Sem.run_pure]
 rw [hrun,Oper.upon_value,za9]
 refine hK _ _ ?_
 have rt2:zam E.T ((h.take b).map (zay (za2 b))) (β.take b) (w.alloc (.mapIter (some gm) L.length #[] L.length)) S (mask live b ts) tmps:=fun q=>by
  rcases zez b ts live q with h1|h1
  ·rw [h1];exact .d _ _ (.un _)
  ·rw [h1];exact hv2 _ _ ((rt q).ext x1)
 have rt3:=rt2.put (d:=some d) (x:=.v (.pointer (some ⟨w.heap.size,0,none⟩))) (y:=.pointer (some ⟨w.heap.size,0,none⟩)) (by simp only [zao];exact Nat.ble_eq_true_of_le (by rw [hn];exact hdn)) (.d _ _ (.v _ rfl))
 have hsz:(w.alloc (.mapIter (some gm) L.length #[] L.length)).heap.size=w.heap.size+1:=by
  show (w.heap.push _).size=_
  simp
 have hfor:Foreign [gm,w.heap.size] (β.take b) S w0 (w.alloc (.mapIter (some gm) L.length #[] L.length)):=by
  refine ⟨fun g hg=>?_,fun g hg=>?_,fun g hg b' k' hb' hk'=>?_,fun g hg a ha=>?_⟩
  ·simp only [List.tail_cons,List.mem_singleton] at hg;subst hg;exact x0.size
  ·rw [hsz]
   rcases List.mem_cons.1 hg with rfl|hg
   ·omega
   ·simp only [List.mem_singleton] at hg;omega
  ·rw [List.getElem?_take] at hb'
   split at hb'
   ·rename_i hlt
    rcases List.mem_cons.1 hg with rfl|hg
    ·have:=r0.apart b' b k' _ g hb' c1 hk' rfl
     omega
    ·simp only [List.mem_singleton] at hg
     subst hg
     have:=r0.lt b' k' _ hb' hk'
     omega
   ·cases hb'
  ·rcases List.mem_cons.1 hg with rfl|hg
   ·exact hno a ha
   ·simp only [List.mem_singleton] at hg
    have:=r0.stable a ha
    omega
 have hit:ItF gm w.heap.size es none S (w.alloc (.mapIter (some gm) L.length #[] L.length)):=by
  refine ⟨L,ents,#[],L.length,(hbl.block gm hgl).trans c3,c4,fun i k x hi=>?_,heap_alloc_new w _,Nat.le_refl _,by rw [zlJ];exact c2.symm,by simp⟩
  obtain ⟨kv,xv,a1,a2,a3⟩:=c5 i k x hi
  exact ⟨kv,xv,a1,a2.mono (fun _ h=>h) x1.S_cell,a3.mono (fun _ h=>h) x1.S_cell⟩
 have:=H gm w.heap.size β0 S0 w0 (β.take b) S _ _ hβ (by rw [zbr];exact hn) ((x0.trans x1).first r1 hb0 hβ) r2 rt3 hfor hit
 simp only [kont,Exit.then] at this
 rw [hd]
 exact this
theorem zmq {L:List (AV × AV)} {seen:Array Nat} {i:Nat} {p:AV × AV} (hi:L[i]?=some p) (hs:seen.contains i=false):(zex L seen).Perm (p::zex L (seen.push i)):=by
 have hil:=(List.getElem?_eq_some_iff.1 hi).1
 have hF:((List.range L.length).filter fun j=>!seen.contains j).Perm (i::(List.range L.length).filter fun j=>!(seen.push i).contains j):=by
  have hm:i∈(List.range L.length).filter fun j=>!seen.contains j:=by
   rw [List.mem_filter]
   exact ⟨List.mem_range.2 hil,by rw [hs];rfl⟩
  have h1:=List.perm_cons_erase hm
  have hn:((List.range L.length).filter fun j=>!seen.contains j).Nodup:=List.nodup_range.filter _
  rw [hn.erase_eq_filter,List.filter_filter] at h1
  refine h1.trans (.of_eq (congrArg _ ?_))
  apply List.filter_congr
  intro j _
  rw [contains_push]
  cases seen.contains j <;> cases hji:(j==i) <;> simp [bne,hji]
 have:=hF.filterMap fun j=>L[j]?
 rw [List.filterMap_cons_some hi] at this
 exact this
theorem zhp {α:Type}:∀ (l:List α) (j:Nat) (p:α),l[j]?=some p->l.Perm (p::l.eraseIdx j)
 | [],j,p,h=>by simp at h
 | a::l,0,p,h=>by simp at h;subst h;exact .refl _
 | a::l,j+1,p,h=>by
  have:=zhp l j p (by simpa using h)
  exact (this.cons a).trans (.swap _ _ _)
theorem zjp {L:List (AV × AV)} {ents:Array MapEntry} {w:World} {S:Addr->Prop} (hl:ents.size=L.length) (h3:∀ (i:Nat) (k x:AV),L[i]?=some (k,x)->∃ (kv xv:Value),ents[i]?=some ⟨kv,xv,i⟩/\RelD w S k kv/\RelD w S x xv) :
  (∀ e∈ents.toList,ents[e.born]?=some e/\e.born < L.length)/\(ents.toList.map (·.born)).Nodup:=by
 have at_:∀ (i:Nat) (e:MapEntry),ents[i]?=some e->e.born=i/\i < L.length:=by
  intro i e he
  have hi:i < L.length:=by rw [← hl];exact (Array.getElem?_eq_some_iff.1 he).1
  obtain ⟨kv,xv,e1,_⟩:=h3 i L[i].1 L[i].2 (List.getElem?_eq_getElem hi)
  rw [he] at e1
  cases e1
  exact ⟨rfl,hi⟩
 refine ⟨fun e he=>?_,?_⟩
 ·obtain ⟨i,hi⟩:=List.getElem?_of_mem he
  rw [Array.getElem?_toList] at hi
  obtain ⟨h1,h2⟩:=at_ i e hi
  rw [h1]
  exact ⟨hi,h2⟩
 ·have:ents.toList.map (·.born)=List.range L.length:=by
   apply List.ext_getElem?
   intro i
   rw [List.getElem?_map,Array.getElem?_toList]
   by_cases hi:i < L.length
   ·have h5:ents[i]?=some (ents[i]'Zo):=Array.getElem?_eq_getElem Zo
    rw [h5,Option.map_some,(at_ i _ h5).1,List.getElem?_range hi]
   ·rw [Array.getElem?_eq_none Zo,List.getElem?_eq_none Zp]
    rfl
  rw [this]
  exact List.nodup_range
theorem zmF {w w1:World} {g:Nat} {o:Obj} (h:w1=w\/w1=w.drew):Touch g w (ChangeMaps.setBlock w1 g o):=by
 rcases h with rfl|rfl
 ·exact ⟨rfl,rfl,Nat.le_refl _,rfl,by simp [ChangeMaps.setBlock],fun b hb=>by simp [ChangeMaps.setBlock,Ne.symm hb]⟩
 ·have hd:∀ v:World,v.drew.heap=v.heap:=fun _=>rfl
  exact ⟨rfl,rfl,Nat.le_succ _,rfl,by simp [ChangeMaps.setBlock,hd],fun b hb=>by simp [ChangeMaps.setBlock,hd,Ne.symm hb]⟩
theorem zlx {E:Env0} {fn:Func} {h0 h:Heap} {all r:List Oper} {o:Oper} {k:List It} {n:Nat} {ts:TS} {R:AV->Heap->Prop} {gm gi ti d:Nat} {l:List (AV × AV)} {cur:Option (AV × AV)} (hop:o.op=.next (.tmp ti) false) (hgd:o.guard=none) (hd:o.dst=some d) (hdn:d < n)
  (hm:look ts ti=.v (.pointer (some ⟨gi,0,none⟩)))
  (H0:l=[]->zbj E fn h0 [gm,gi] (ItF gm gi [] none) ⟨n,.ops all r::k,(d,.tup [.bl false])::ts,h⟩ R)
  (H1:∀ (j:Nat) (kx x:AV),l[j]?=some (kx,x)->zbj E fn h0 [gm,gi] (ItF gm gi (l.eraseIdx j) (some (kx,x))) ⟨n,.ops all r::k,(d,.tup [.bl true,kx,x])::ts,h⟩ R) :
  zbj E fn h0 [gm,gi] (ItF gm gi l cur) ⟨n,.ops all (o::r)::k,ts,h⟩ R:=by
 intro β0 S0 w0 β S w tmps hβ hn x0 r0 rt hf ⟨L,ents,seen,c0,h1,h2,h3,h4,h5,h6,h7⟩
 simp only at hn x0 r0 rt
 have hmv:=rt ti
 rw [hm] at hmv
 have hev:=hmv.v_inv
 obtain ⟨hb1,hb2⟩:=zjp h2 h3
 have hne:gm≠gi:=by
  rintro rfl
  rw [h1] at h4
  cases h4
 simp only [kont,Exit.then]
 refine wpList_step fun K hK=>?_
 show wpG E.P all.toArray o ⟨tmps,[]⟩ w K _
 unfold wpG
 rw [if_pos (by simp [Region.wanted,hgd])]
 unfold Oper.wp
 have hdd:zao tmps.size (some d)=true:=by simp only [zao];exact Nat.ble_eq_true_of_le (by rw [hn];exact hdn)
 rcases run_next_at (P:=E.P) w o.type gi gm L.length c0 seen ents L.length h4 h1 (fun x hx=>(hb1 x hx).2) h5 with ⟨hz,hrun⟩|⟨e,he,w1,hw1,hrun⟩
 ·have hrun':(execOp (Act.eval ⟨tmps,[]⟩) o).run E.P w=.ok (.value (.tuple #[.bool false])) w:=by
   simp only [execOp,hop,Act.eval,hev,hrun,Sem.run_bind,Result.andThen_ok,Sem.run_pure]
  rw [hrun',Oper.upon_value,za9]
  refine hK _ _ ?_
  have hall:=all_seen ents seen hz
  have hnil:zex L seen=[]:=by
   unfold zex
   have:((List.range L.length).filter fun i=>!seen.contains i)=[]:=by
    rw [List.filter_eq_nil_iff]
    intro i hi
    have hi:=List.mem_range.1 hi
    obtain ⟨kv,xv,e1,_⟩:=h3 i L[i].1 L[i].2 (List.getElem?_eq_getElem hi)
    have:=hall _ (Array.mem_toList_iff.2 (Array.mem_of_getElem? e1))
    simp only at this
    rw [this]
    decide
   rw [this]
   rfl
  rw [hnil] at h6
  have hl:=h6.eq_nil
  have:=H0 hl β0 S0 w0 β S w _ hβ (by rw [zbr];exact hn) x0 r0 (rt.put (d:=some d) (x:=.tup [.bl false]) (y:=.tuple #[.bool false]) hdd (.d _ _ (.tup [.bl false] [.bool false] rfl (fun i p q hp hq=>by
   cases i with
   | zero=>simp at hp hq;subst hp;subst hq;exact .bl _
   | succ i=>simp at hp)))) hf ⟨L,ents,seen,c0,h1,h2,h3,h4,h5,by rw [hnil],by simp⟩
  simp only [kont,Exit.then] at this
  rw [hd]
  exact this
 ·have hrun':(execOp (Act.eval ⟨tmps,[]⟩) o).run E.P w=.ok (.value (.tuple #[.bool true,e.key,e.val])) (ChangeMaps.setBlock w1 gi (.mapIter (some gm) L.length (seen.push e.born) L.length)):=by
   simp only [execOp,hop,Act.eval,hev,hrun,Sem.run_bind,Result.andThen_ok,Sem.run_pure]
  rw [hrun',Oper.upon_value,za9]
  refine hK _ _ ?_
  obtain ⟨hem,hes⟩:=mem_left he
  obtain ⟨hei,hel⟩:=hb1 e hem
  have hLi:L[e.born]?=some L[e.born]:=List.getElem?_eq_getElem hel
  obtain ⟨kv,xv,e1,e2,e3⟩:=h3 e.born L[e.born].1 L[e.born].2 hLi
  rw [hei] at e1
  have hstep:=zmq hLi hes
  have hmem:L[e.born]∈l:=h6.mem_iff.2 (hstep.mem_iff.2 Zs)
  obtain ⟨j,hj⟩:=List.getElem?_of_mem hmem
  have hperm:(l.eraseIdx j).Perm (zex L (seen.push e.born)):=by
   have:=(zhp l j _ hj).symm.trans (h6.trans hstep)
   exact this.cons_inv
  have t:Touch gi w (ChangeMaps.setBlock w1 gi (.mapIter (some gm) L.length (seen.push e.born) L.length)):=zmF hw1
  have hg:gi∈[gm,gi]:=by simp
  have hcell:∀ a,S a->(ChangeMaps.setBlock w1 gi (.mapIter (some gm) L.length (seen.push e.born) L.length)).cell? a=w.cell? a:=fun a ha=>t.cell (hf.sep gi hg a ha)
  have hkk:e.key=kv/\e.val=xv:=by
   have h9:e=⟨kv,xv,e.born⟩:=by injection e1
   exact ⟨congrArg MapEntry.key h9,congrArg MapEntry.val h9⟩
  have rt2:=(rt.touch (E:=E) t hf hg).put (d:=some d) (x:=.tup [.bl true,L[e.born].1,L[e.born].2]) (y:=.tuple #[.bool true,e.key,e.val]) hdd (.d _ _ (.tup [.bl true,L[e.born].1,L[e.born].2] [.bool true,e.key,e.val] rfl (fun i p q hp hq=>by
   match i,hp,hq with
   | 0,hp,hq=>simp at hp hq;subst hp;subst hq;exact .bl _
   | 1,hp,hq=>simp at hp hq;subst hp;subst hq;rw [hkk.1];exact e2.mono (fun _ h=>h) hcell
   | 2,hp,hq=>simp at hp hq;subst hp;subst hq;rw [hkk.2];exact e3.mono (fun _ h=>h) hcell
   | i+3,hp,hq=>simp at hp)))
  have hit:ItF gm gi (l.eraseIdx j) (some (L[e.born].1,L[e.born].2)) S (ChangeMaps.setBlock w1 gi (.mapIter (some gm) L.length (seen.push e.born) L.length)):=by
   refine ⟨L,ents,seen.push e.born,L.length,(t.other gm hne).trans h1,h2,fun i k x hi=>?_,?_,Nat.le_refl _,hperm,fun p hp=>⟨seen,e.born,rfl,by rw [hLi];exact hp,rfl⟩⟩
   ·obtain ⟨kv,xv,a1,a2,a3⟩:=h3 i k x hi
    exact ⟨kv,xv,a1,a2.mono (fun _ h=>h) hcell,a3.mono (fun _ h=>h) hcell⟩
   ·have hlt:gi < w1.heap.size:=by
     have:=(Array.getElem?_eq_some_iff.1 h4).1
     rcases hw1 with rfl|rfl <;> exact this
    simp [ChangeMaps.setBlock,hlt]
  have:=H1 j L[e.born].1 L[e.born].2 hj β0 S0 w0 β S _ _ hβ (by rw [zbr];exact hn) (x0.touch t hf hg Zs) (r0.touch t hf hg) rt2 (hf.touch t) hit
  simp only [kont,Exit.then] at this
  rw [hd]
  exact this
end Go.AM
namespace Go.AM
theorem zbW (a b:Int) (c:Str):KeyOK E0.P Ty.M_Value_bool (.agg [iv a,iv b,sv c]) :=
 zjX E0ok (kt:=Ty.Value) (et:=Ty.bool) (fs:=E0.P.fieldsOf Ty.Value) kr kr kr ziH rfl rfl
def itp (gi:Nat):AV:=.v (.pointer (some ⟨gi,0,none⟩))
noncomputable def rngOk (h0:Heap) (c:Cfg) (os:List Orc) (b:Nat):Option (List Prop × TypeId × List (AV × AV)):=match run (mk E0) 3000 c os with
 | (q,⟨n,.ops _ (o::_)::_,ts,h⟩,_)=>match o.op,o.guard,o.dst with
  | .range t (.tmp tm),none,some d=>match look ts tm,Nat.blt d n,Nat.ble h0.length b with
   | .mp b',true,true=>match Nat.beq b' b,h[b]? with
    | true,some (.mp es)=>some (q,t,es)
    | _,_=>none
   | _,_,_=>none
  | _,_,_=>none
 | _=>none
noncomputable def rngK (c:Cfg) (os:List Orc) (live:List Nat) (b gi:Nat):Cfg:=match run (mk E0) 3000 c os with
 | (_,⟨n,.ops all (o::r)::k,ts,h⟩,_)=>⟨n,.ops all r::k,(o.dst.getD 0,itp gi)::mask live b ts,(h.take b).map (zay (za2 b))⟩
 | (_,c',_)=>c'
theorem wkRl {fn:Func} {h0:Heap} {c:Cfg} {R:AV->Heap->Prop} {t kt et:TypeId} {es:List (AV × AV)} (l:List St) (live:List Nat) (b:Nat) (hu:rngOk h0 c (orcs l) b=some (zaG l,t,es)) (ht:E0.P.underlying t=some (.map kt et))
  (hg:∀ gm gi,zbj E0 fn h0 [gm,gi] (ItF gm gi es none) (rngK c (orcs l) live b gi) R):Good E0 fn h0 c R:=by
 unfold rngOk at hu
 unfold rngK at hg
 split at hu
 ·rename_i q n all o r k ts h os' hrun
  split at hu
  ·rename_i t' tm d hop hgd hd
   split at hu
   ·rename_i b' hm hdn hb0
    split at hu
    ·rename_i es' hbb hb
     simp only [Option.some.injEq,Prod.mk.injEq] at hu
     obtain ⟨rfl,rfl,rfl⟩:=hu
     have:=Nat.eq_of_beq_eq_true hbb
     subst this
     refine zds E0ok mix0 3000 c (orcs l) (by rw [hrun];exact zau l) ?_
     rw [hrun]
     refine zlA live hop hgd hd (Nat.le_of_ble_eq_true hdn) ht hm hb hb0 fun gm gi=>?_
     have:=hg gm gi
     rw [hrun] at this
     simp only [hd,Option.getD_some] at this
     exact this
    ·cases hu
   ·cases hu
  ·cases hu
 ·cases hu
theorem wkFl {fn:Func} {R:AV->Heap->Prop} {h0:Heap} {c c':Cfg} {gm gi:Nat} {es:List (AV × AV)} {cur:Option (AV × AV)} (l:List St) (live:List Nat) (m:Nat) (hu:zjl h0 live m c (orcs l)=some (zaG l,c')) (hg:zbj E0 fn h0 [gm,gi] (ItF gm gi es cur) c' R):zbj E0 fn h0 [gm,gi] (ItF gm gi es cur) c R:=by
 unfold zjl at hu
 split at hu
 ·rename_i hm
  have hu:=Option.some.inj hu
  unfold upto at hu
  have h1:(run (mk E0) 3000 c (orcs l)).1=zaG l:=congrArg Prod.fst hu
  have h2:cut live m (run (mk E0) 3000 c (orcs l)).2.1=c':=congrArg Prod.snd hu
  exact zm1 E0ok mix0 (zjn _ _ _ _) 3000 (orcs l) live m hm h1 h2 (zau l) hg
 ·cases hu
theorem zjN {E:Env0} {fn:Func} {h0:Heap} {gs:List Nat} {F:(Addr->Prop)->World->Prop} {c:Cfg} {R:AV->Heap->Prop} (hg:zbj E fn h0 gs F (zhX c) R):zbj E fn h0 gs F c R:=by
 unfold zhX at hg
 split at hg
 ·rename_i b k hk
  obtain ⟨n,todo,ts,h⟩:=c
  simp only at hk
  subst hk
  intro β0 S0 w0 β S w tmps hb0 hn x0 r rt hf hw
  have:=hg β0 S0 w0 β S w tmps hb0 hn x0 r rt hf hw
  simp only [kont,Exit.then] at this ⊢
  refine zhC (wp_mono this fun e a w he=>?_)
  cases e <;> exact he
 ·exact hg
noncomputable def nxtOk (c:Cfg) (os:List Orc):Option (List Prop × AV):=match run (mk E0) 3000 c os with
 | (q,⟨n,.ops _ (o::_)::_,ts,_⟩,_)=>match o.op,o.guard,o.dst with
  | .next (.tmp ti) false,none,some d=>match Nat.blt d n with
   | true=>some (q,look ts ti)
   | false=>none
  | _,_,_=>none
 | _=>none
noncomputable def nxtK (c:Cfg) (os:List Orc) (v:AV):Cfg:=match run (mk E0) 3000 c os with
 | (_,⟨n,.ops all (o::r)::k,ts,h⟩,_)=>⟨n,.ops all r::k,(o.dst.getD 0,v)::ts,h⟩
 | (_,c',_)=>c'
theorem wkN {fn:Func} {h0:Heap} {c:Cfg} {R:AV->Heap->Prop} {gm gi:Nat} {es:List (AV × AV)} {cur:Option (AV × AV)} (l:List St) (hu:nxtOk c (orcs l)=some (zaG l,itp gi))
  (H0:es=[]->zbj E0 fn h0 [gm,gi] (ItF gm gi [] none) (nxtK c (orcs l) (.tup [.bl false])) R)
  (H1:∀ (j:Nat) (kx x:AV),es[j]?=some (kx,x)->zbj E0 fn h0 [gm,gi] (ItF gm gi (es.eraseIdx j) (some (kx,x))) (nxtK c (orcs l) (.tup [.bl true,kx,x])) R):zbj E0 fn h0 [gm,gi] (ItF gm gi es cur) c R:=by
 unfold nxtOk at hu
 unfold nxtK at H0 H1
 split at hu
 ·rename_i q n all o r k ts h os' hrun
  split at hu
  ·rename_i ti d hop hgd hd
   split at hu
   ·rename_i hdn
    simp only [Option.some.injEq,Prod.mk.injEq] at hu
    obtain ⟨rfl,hm⟩:=hu
    refine ziw E0ok mix0 (zjn _ _ _ _) 3000 (orcs l) (by rw [hrun];exact zau l) ?_
    rw [hrun] at H0 H1 ⊢
    simp only [hd,Option.getD_some] at H0 H1
    exact zlx hop hgd hd (Nat.le_of_ble_eq_true hdn) hm H0 H1
   ·cases hu
  ·cases hu
 ·cases hu
theorem zhP {p:Prop} (h:p:=by first|exact (zmH s ‹_›).symm|exact (zl3 s ‹_›).symm|exact (zkL ‹_› ‹_›).symm|exact znp ‹_› ‹_› ‹_› ‹_› ‹_› ‹_›|(have h:=(by assumption:_/\List.all _ okC=false);rw [zmG h.2];exact h.1)):p:=h
theorem zfA {p:Prop} (h:p:=by exact zkM hI hx (by simp only [okC];simp only [*];simp)):p:=h
theorem zjj {p:Prop} (h:p:=by exact ⟨rfl,zl7 hx (by simp only [okC];simp only [*];rfl)⟩):p:=h
def okC (c:UInt8):Bool:=decide (97<=((c.toNat:Nat):Int))&&decide (((c.toNat:Nat):Int)<=122) || (decide (48<=((c.toNat:Nat):Int))&&decide (((c.toNat:Nat):Int)<=57)) || ((c.toNat:Nat):Int)==95
def zaT (s:Str):Bool:=decide (1<=s.data.toList.length)&&decide (s.data.toList.length<=12)&&decide (97<=(s.data.toList.getD 0 0).toNat)&&s.data.toList.all okC
theorem zfC (s:Str):s.size=s.data.toList.length:=Array.length_toList.symm
theorem zmH (s:Str) (h:decide (((s.size:Nat):Int) < 1)=true):zaT s=false:=by
 rw [zfC] at h;simp only [decide_eq_true_eq] at h;simp only [zaT,Bool.and_eq_false_iff,decide_eq_false_iff_not];omega
theorem zl3 (s:Str) (h:decide ((12:Int) < ((s.size:Nat):Int))=true):zaT s=false:=by
 rw [zfC] at h;simp only [decide_eq_true_eq] at h;simp only [zaT,Bool.and_eq_false_iff,decide_eq_false_iff_not];omega
theorem zkM {α:Type} {f:α->Bool} {l:List α} {i:Nat} {x:α} (h:(l.take i).all f=true) (hx:l[i]?=some x) (hf:f x=true):(l.take (i+1)).all f=true:=by
 rw [List.take_add_one,hx,List.all_append,h];simp [hf]
theorem zl7 {α:Type} {f:α->Bool} {l:List α} {i:Nat} {x:α} (hx:l[i]?=some x) (hf:f x=false):l.all f=false:=by
 rw [Bool.eq_false_iff];intro h;rw [List.all_eq_true] at h
 rw [h x (List.mem_of_getElem? hx)] at hf;simp at hf
noncomputable def L_vp (s:Str) (i:Nat) :Cfg:=zaj B.Ap 0 [(0,sv s),(19,.sl (s.data.toList.map u8c)),(20,iv ((s.data.toList.map u8c).length:Nat)),(21,iv (i:Nat))] []
theorem zdv (s:Str) (hs:decide ((12:Int) < ((s.size:Nat):Int))=false) (i:Nat)  (hi:i<=(s.data.toList).length) (hI:(s.data.toList.take i).all okC=true):(((s.data.toList.take (s.data.toList).length).all okC=true)/\(decide ((((s.data.toList).length:Nat):Int) < (((s.data.toList.map u8c).length:Nat):Int))=false)/\∀ R,Good E0 B.Ap [] (L_vp s (s.data.toList).length ) R->Good E0 B.Ap [] (L_vp s i ) R)\/(∃ (r:Bool),(r=false/\s.data.toList.all okC=false)/\Good E0 B.Ap [] (L_vp s i ) (Shut 0 fun rZ hZ=>rZ=(bv r)/\hZ=[])):=by
 have hk:=hi;revert i;refine zlp ((s.data.toList).length) (fun i hlt ih hi hI _=>?_)
 obtain ⟨x,hx⟩:=zdG (l:=s.data.toList) (i:=i) Zo
 have h0:decide (((i:Nat):Int) < (((s.data.toList.map u8c).length:Nat):Int))=true:=by (simp only [List.length_map,decide_eq_true_eq];omega)
 have hw:IntKind.i64.wrap (((i:Nat):Int)+1)=((i+1:Nat):Int):=zch i (by (simp only [decide_eq_false_iff_not,zfC] at hs;omega))
 let p_1:List St:=[sb h0,se (zat u8c hx rfl)]
 cases h1:decide (97<=(x.toNat:Int))
 ·cases h2:decide (48<=(x.toNat:Int))
  ·cases h3:(x.toNat:Int)==95
   ·exact .inr ⟨false,zjj,zab (wkr (p_1++[sb h1,sb h2,sb h3]) kr)⟩
   ·exact zie2 (ih Zo zfA Zo) fun R gY=>zab (wkl (p_1++[sb h1,sb h2,sb h3,si hw]) [0,19,20,21] 0 kr gY)
  ·cases h4:decide ((x.toNat:Int)<=57)
   ·cases h5:(x.toNat:Int)==95
    ·exact .inr ⟨false,zjj,zab (wkr (p_1++[sb h1,sg h2,sb h4,sb h5]) kr)⟩
    ·exact zie2 (ih Zo zfA Zo) fun R gY=>zab (wkl (p_1++[sb h1,sg h2,sb h4,sb h5,si hw]) [0,19,20,21] 0 kr gY)
   ·exact zie2 (ih Zo zfA Zo) fun R gY=>zab (wkl (p_1++[sb h1,sg h2,sb h4,si hw]) [0,19,20,21] 0 kr gY)
 ·cases h6:decide ((x.toNat:Int)<=122)
  ·cases h7:decide (48<=(x.toNat:Int))
   ·cases h8:(x.toNat:Int)==95
    ·exact .inr ⟨false,zjj,zab (wkr (p_1++[sg h1,sb h6,sb h7,sb h8]) kr)⟩
    ·exact zie2 (ih Zo zfA Zo) fun R gY=>zab (wkl (p_1++[sg h1,sb h6,sb h7,sb h8,si hw]) [0,19,20,21] 0 kr gY)
   ·cases h9:decide ((x.toNat:Int)<=57)
    ·cases h10:(x.toNat:Int)==95
     ·exact .inr ⟨false,zjj,zab (wkr (p_1++[sg h1,sb h6,sg h7,sb h9,sb h10]) kr)⟩
     ·exact zie2 (ih Zo zfA Zo) fun R gY=>zab (wkl (p_1++[sg h1,sb h6,sg h7,sb h9,sb h10,si hw]) [0,19,20,21] 0 kr gY)
    ·exact zie2 (ih Zo zfA Zo) fun R gY=>zab (wkl (p_1++[sg h1,sb h6,sg h7,sb h9,si hw]) [0,19,20,21] 0 kr gY)
  ·exact zie2 (ih Zo zfA Zo) fun R gY=>zab (wkl (p_1++[sg h1,sb h6,si hw]) [0,19,20,21] 0 kr gY)
theorem zlf {s:Str} {c:UInt8} (h:ByteAt s 0 ((c.toNat:Nat):Int)):s.data.toList.getD 0 0=c:=by
 obtain ⟨_,h1⟩:=h
 rw [Option.map_eq_some_iff] at h1
 obtain ⟨b,hb,e⟩:=h1
 have hc:b=c:=UInt8.toNat_inj.1 Zo
 subst hc
 have hb2:s[(0:Nat)]?=some b:=hb
 by_cases h:0 < s.size
 ·rw [getElem?_pos s 0 h,Option.some.injEq] at hb2
  have h2:0 < s.data.size:=h
  rw [List.getD_eq_getElem?_getD,Array.getElem?_toList,Array.getElem?_eq_getElem h2]
  exact hb2
 ·rw [getElem?_neg s 0 h] at hb2;simp at hb2
theorem zkL {s:Str} {c:UInt8} (h:ByteAt s 0 ((c.toNat:Nat):Int)) (h1:decide (((c.toNat:Nat):Int) < 97)=true):zaT s=false:=by
 have:=zlf h
 simp only [zaT,this,Bool.and_eq_false_iff,decide_eq_false_iff_not];simp at h1;omega
theorem zmG {s:Str} (h:s.data.toList.all okC=false):zaT s=false:=by simp [zaT,h]
theorem znp {s:Str} {c d:UInt8} (h1:decide (((s.size:Nat):Int) < 1)=false) (h2:decide ((12:Int) < ((s.size:Nat):Int))=false) (h:ByteAt s 0 ((c.toNat:Nat):Int)) (h3:decide (((c.toNat:Nat):Int) < 97)=false) (h4:(s.data.toList.take s.data.toList.length).all okC=true) (h5:ByteAt s 0 ((d.toNat:Nat):Int)):(((d.toNat:Nat):Int) != 95)=zaT s:=by
 have e1:=zlf h
 have e2:=zlf h5
 rw [List.take_length] at h4
 subst e2
 rw [zfC] at h1 h2
 rw [← e1] at h3
 simp only [decide_eq_false_iff_not] at h1 h2 h3
 have a1:decide (1<=s.data.toList.length)=true:=by simp only [decide_eq_true_eq];omega
 have a2:decide (s.data.toList.length<=12)=true:=by simp only [decide_eq_true_eq];omega
 have a3:decide (97<=(s.data.toList.getD 0 0).toNat)=true:=by simp only [decide_eq_true_eq];omega
 simp only [zaT,a1,a2,a3,h4,Bool.and_true,bne_iff_ne,ne_eq];omega
theorem zf0 (s:Str) :∃ (r:Bool),r=zaT s/\zaa E0 S.Ap [sv s] [] (bv r) []:=by
 cases h1:decide ((↑(ByteArray.size s):Int) < 1)
 ·cases h2:decide (12 < (↑(ByteArray.size s):Int))
  ·obtain ⟨c3,b3⟩:=zma (s:=s) (i:=(0:Int)) (by first|omega|(simp only [decide_eq_false_iff_not,decide_eq_true_eq] at *;omega))
   cases h4:decide ((c3.toNat:Int) < 97)
   ·let p_1:List St:=[sg h1,sg h2,sy b3,sb h4,sqx ((ByteArray.size s).le 1000000000000)]
    rcases zdv s (by first|assumption|omega|(simp;done)|(simp;omega)) 0 (by first|assumption|omega|(simp;done)|(simp;omega)) (by first|assumption|omega|(simp;done)|(simp;omega)) with ⟨q5,q5_1,g5⟩|⟨r5_0,p5_0,g5⟩
    ·exact ⟨(c3.toNat:Int) != (95:Int),zhP,wkc At.Ap p_1 [0,19,20,21] 0 kr (g5 _ (zab (wkr [sb q5_1,sy b3] kr)))⟩
    ·exact ⟨r5_0,zhP,wkc At.Ap p_1 [0,19,20,21] 0 kr (g5)⟩
   ·exact ⟨false,zhP,wk At.Ap [sg h1,sg h2,sy b3,sb h4] kr⟩
  ·exact ⟨false,zhP,wk At.Ap [sg h1,sb h2] kr⟩
 ·exact ⟨false,zhP,wk At.Ap [sb h1] kr⟩
theorem zaX (s:Str):zaa E0 S.Ap [sv s] [] (bv (zaT s)) []:=by
 obtain ⟨r,rfl,h⟩:=zf0 s
 exact h
theorem zeI (e:X) (b:Bool) (h:zaa E0 S.Bp [e.av] [] (bv b) []):∃ (r:Bool),r=!b/\zaa E0 S.AE [e.av] [] (bv r) []:=by
 exact ⟨!b,Zr,wk At.AE [sc h] kr⟩
theorem zeN (e:X) (b:Bool) (h:zaa E0 S.Bp [e.av] [] (bv b) []):zaa E0 S.AE [e.av] [] (bv (!b)) []:=by
 obtain ⟨r,rfl,h⟩:=zeI e b h
 exact h
theorem notT {b:Bool} (h:(!b)=false):b=true:=by simpa using h
theorem notF {b:Bool} (h:(!b)=true):b=false:=by simpa using h
noncomputable def zlb (l:List X) (f:X->Bool) (i:Nat) :Cfg:=zaj B.Ao 0 [(0,xsl l),(1,.fn S.AE []),(7,iv ((zad l).length:Nat)),(8,iv (i:Nat))] []
theorem zb7 (l:List X) (f:X->Bool) (hl:zae l) (hf:∀ x∈l,Pure S.Bp [x.av] (bv (f x))) (i:Nat)  (hi:i<=(l).length) (hI:(l.take i).all f=true):(((l.take (l).length).all f=true)/\(decide ((((l).length:Nat):Int) < (((zad l).length:Nat):Int))=false)/\∀ R,Good E0 B.Ao [] (zlb l f (l).length ) R->Good E0 B.Ao [] (zlb l f i ) R)\/(∃ (r:Int),(decide (0<=r)=true/\l.all f=false)/\Good E0 B.Ao [] (zlb l f i ) (Shut 0 fun rZ hZ=>rZ=(iv r)/\hZ=[])):=by
 have hk:=hi;revert i;refine zlp ((l).length) (fun i hlt ih hi hI _=>?_)
 obtain ⟨x,hx,h0,hw⟩:=zlq (l:=l) ((zad l).length) hlt
 have hfx:=zeN x (f x) (hf x (List.mem_of_getElem? hx))
 cases h1:!f x
 ·exact zie2 (ih Zo (by exact zkM hI hx (notT ‹_›)) Zo) fun R gY=>zab (wkl [sb h0,se (zjG hx),sc hfx,sb h1,si hw] [0,1,7,8] 0 kr gY)
 ·exact .inr ⟨(i:Int),(by exact ⟨by simp,zl7 hx (notF ‹_›)⟩),zab (wkr [sb h0,se (zjG hx),sc hfx,sb h1] kr)⟩
theorem c_ixE (l:List X) (f:X->Bool) (hl:zae l) (hf:∀ x∈l,Pure S.Bp [x.av] (bv (f x))):∃ (r:Int),decide (0<=r)=!l.all f/\zaa E0 S.Ao [xsl l,.fn S.AE []] [] (iv r) []:=by
 rcases zb7 l f (by first|assumption|omega|(simp;done)|(simp;omega)) hf 0 (by first|assumption|omega|(simp;done)|(simp;omega)) (by first|assumption|omega|(simp;done)|(simp;omega)) with ⟨q1,q1_1,g1⟩|⟨r1_0,p1_0,g1⟩
 ·exact ⟨-1,(by first|(have h:=(by assumption:List.all (List.take _ _) _=true);rw [List.take_length] at h;rw [h];rfl)|(have h:=(by assumption:_/\List.all _ _=false);rw [h.1,h.2];rfl)),wkc At.Ao [] [0,1,7,8] 0 kr (g1 _ (zab (wkr [sb q1_1] kr)))⟩
 ·exact ⟨r1_0,(by first|(have h:=(by assumption:List.all (List.take _ _) _=true);rw [List.take_length] at h;rw [h];rfl)|(have h:=(by assumption:_/\List.all _ _=false);rw [h.1,h.2];rfl)),wkc At.Ao [] [0,1,7,8] 0 kr (g1)⟩
theorem c_cfE (l:List X) (f:X->Bool) (hi:∃ r:Int,decide (0<=r)=(!l.all f)/\zaa E0 S.Ao [xsl l,.fn S.AE []] [] (iv r) []):∃ (r:Bool),r=!l.all f/\zaa E0 S.Bd [xsl l,.fn S.AE []] [] (bv r) []:=by
 obtain ⟨r1,q1,c1⟩:=hi
 exact ⟨decide ((0:Int)<=r1),‹_›,wk At.Bd [sc c1] kr⟩
theorem c_vxs (l:List X) (f:X->Bool) (hc:zaa E0 S.Bd [xsl l,.fn S.AE []] [] (bv (!l.all f)) []):∃ (r:Bool),r=l.all f/\zaa E0 S.Bz [xsl l] [] (bv r) []:=by
 exact ⟨!!l.all f,(by first|rfl|(simp;done)),wk At.Bz [sc hc] kr⟩
theorem zjy (l:List X) (f:X->Bool) (hl:zae l) (hf:∀ x∈l,Pure S.Bp [x.av] (bv (f x))):zaa E0 S.Bz [xsl l] [] (bv (l.all f)) []:=by
 obtain ⟨r,rfl,h⟩:=c_cfE l f (c_ixE l f hl hf)
 obtain ⟨r,rfl,h⟩:=c_vxs l f h
 exact h
end Go.AM
