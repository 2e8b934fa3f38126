/-
  Contracts of the program's functions, part 2.
-/
import Derived.Test.YtdofdnfkldbooaaGreatDoorFpB
import Derived.Test.YtdofdnfkldbooaaGreatDoorProg
import Derived.KernelRfl
import Derived.Laws.StructEq
import Derived.Laws.Externs
import Derived.Lib.Bytealg
set_option maxRecDepth 100000
set_option maxHeartbeats 40000000
set_option linter.unusedSimpArgs false
set_option linter.unusedVariables false
namespace Go.AM
theorem kr {p : Prop} (h : p := by kernel_rfl) : p := h
theorem Zo {p:Prop} (h:p:=by omega):p:=h
theorem Zf:false=false:=rfl
theorem Zt:true=true:=rfl
abbrev Zs0:ByteArray:=ByteArray.mk #[]
abbrev ZsO:ByteArray:=ByteArray.mk #[79,76,68]
abbrev ZsN:ByteArray:=ByteArray.mk #[78,69,87]
abbrev ZsI:ByteArray:=ByteArray.mk #[73,78,83,69,82,84,69,68]
abbrev ZsD:ByteArray:=ByteArray.mk #[68,69,76,69,84,69,68]
abbrev Zsi:ByteArray:=ByteArray.mk #[105,100]
abbrev Zsn:ByteArray:=ByteArray.mk #[110]
abbrev Zsu:ByteArray:=ByteArray.mk #[117]
abbrev Zsl:ByteArray:=ByteArray.mk #[108,111,103]
theorem Zs {p:Prop} (h:p:=by simp):p:=h
theorem Za {p:Prop} (h:p:=by first|assumption|rfl|omega):p:=h
theorem Zp {p:Prop} (h:p:=by simp;omega):p:=h
theorem Zr {p:Prop} (h:p:=by rfl):p:=h
theorem Zb {p:Prop} (h:p:=by first|assumption|omega):p:=h
theorem Zj {p:Prop} (h:p:=by exact ⟨rfl,rfl⟩):p:=h
theorem Zd {p:Prop} (h:p:=by decide):p:=h
theorem Zg {p:Prop} (h:p:=by first|rfl|assumption):p:=h
namespace S
abbrev AI:FuncId:=3
abbrev C3:FuncId:=6
abbrev Bm:FuncId:=7
abbrev Cd:FuncId:=8
abbrev AS:FuncId:=9
abbrev B9:FuncId:=10
abbrev A6:FuncId:=11
abbrev Bg:FuncId:=12
abbrev BC:FuncId:=13
abbrev Bn:FuncId:=14
abbrev BT:FuncId:=15
abbrev A0:FuncId:=16
abbrev Cp:FuncId:=17
abbrev Am:FuncId:=18
abbrev CX:FuncId:=19
abbrev B6:FuncId:=27
abbrev Ct:FuncId:=29
abbrev An:FuncId:=31
abbrev AD:FuncId:=32
abbrev Cc:FuncId:=33
abbrev BU:FuncId:=34
abbrev AG:FuncId:=35
abbrev Ap:FuncId:=36
abbrev A5:FuncId:=37
abbrev Cj:FuncId:=38
abbrev BY:FuncId:=39
abbrev CN:FuncId:=40
abbrev CE:FuncId:=41
abbrev BO:FuncId:=42
abbrev AL:FuncId:=43
abbrev BH:FuncId:=44
abbrev Ca:FuncId:=45
abbrev CO:FuncId:=46
abbrev CT:FuncId:=47
abbrev Ak:FuncId:=48
abbrev Ad:FuncId:=49
abbrev AV:FuncId:=50
abbrev AE:FuncId:=51
abbrev Cu:FuncId:=52
abbrev Ce:FuncId:=53
abbrev CU:FuncId:=54
abbrev As:FuncId:=55
abbrev Cm:FuncId:=56
abbrev AW:FuncId:=57
abbrev AH:FuncId:=58
abbrev B7:FuncId:=59
abbrev BP:FuncId:=60
abbrev AX:FuncId:=61
abbrev C4:FuncId:=62
abbrev Cn:FuncId:=63
abbrev BI:FuncId:=64
abbrev Bx:FuncId:=65
abbrev CC:FuncId:=66
abbrev Ay:FuncId:=67
abbrev AF:FuncId:=68
abbrev Da:FuncId:=69
abbrev Db:FuncId:=70
abbrev CF:FuncId:=71
abbrev Dg:FuncId:=74
abbrev Dc:FuncId:=78
abbrev CV:FuncId:=80
abbrev C5:FuncId:=92
abbrev Cf:FuncId:=93
abbrev CP:FuncId:=94
abbrev CQ:FuncId:=97
abbrev BZ:FuncId:=98
abbrev Cb:FuncId:=99
abbrev Ac:FuncId:=100
abbrev Ag:FuncId:=101
abbrev BM:FuncId:=102
abbrev Af:FuncId:=103
abbrev Bk:FuncId:=104
abbrev AP:FuncId:=105
abbrev AT:FuncId:=106
abbrev C8:FuncId:=107
abbrev Bw:FuncId:=108
abbrev Cg:FuncId:=109
abbrev A1:FuncId:=110
abbrev Ai:FuncId:=111
abbrev Ah:FuncId:=112
abbrev CG:FuncId:=115
abbrev By:FuncId:=116
abbrev AQ:FuncId:=117
abbrev Az:FuncId:=118
abbrev A2:FuncId:=119
abbrev AN:FuncId:=120
abbrev Bq:FuncId:=121
abbrev CD:FuncId:=122
abbrev Ci:FuncId:=123
abbrev Aw:FuncId:=124
abbrev Ax:FuncId:=125
abbrev Ar:FuncId:=126
abbrev B4:FuncId:=127
abbrev AU:FuncId:=128
abbrev Cz:FuncId:=129
abbrev AO:FuncId:=130
abbrev CH:FuncId:=131
abbrev Ck:FuncId:=132
abbrev Cs:FuncId:=133
abbrev BL:FuncId:=134
abbrev BV:FuncId:=135
abbrev Cv:FuncId:=136
abbrev AM:FuncId:=137
abbrev CI:FuncId:=138
abbrev AJ:FuncId:=139
abbrev B0:FuncId:=140
abbrev Bz:FuncId:=141
abbrev Av:FuncId:=142
abbrev Co:FuncId:=143
abbrev Dd:FuncId:=144
abbrev B1:FuncId:=151
abbrev B8:FuncId:=161
abbrev CW:FuncId:=162
abbrev AB:FuncId:=167
abbrev B2:FuncId:=168
abbrev Bd:FuncId:=169
abbrev C2:FuncId:=170
abbrev C6:FuncId:=171
abbrev At:FuncId:=172
abbrev Bb:FuncId:=173
abbrev Bh:FuncId:=174
abbrev AZ:FuncId:=175
abbrev Aa:FuncId:=176
abbrev AC:FuncId:=177
abbrev CZ:FuncId:=178
abbrev CR:FuncId:=179
abbrev Bi:FuncId:=180
abbrev BQ:FuncId:=181
abbrev CJ:FuncId:=182
abbrev BN:FuncId:=183
abbrev Aj:FuncId:=184
abbrev Bj:FuncId:=196
abbrev Cl:FuncId:=197
abbrev A7:FuncId:=198
abbrev Br:FuncId:=199
abbrev Cy:FuncId:=200
abbrev De:FuncId:=201
abbrev C9:FuncId:=202
abbrev Bs:FuncId:=203
abbrev Cq:FuncId:=204
abbrev Bt:FuncId:=205
abbrev C7:FuncId:=206
abbrev B5:FuncId:=207
abbrev AY:FuncId:=208
abbrev CA:FuncId:=209
abbrev Ao:FuncId:=210
abbrev B3:FuncId:=211
abbrev Al:FuncId:=212
abbrev Cr:FuncId:=213
abbrev BR:FuncId:=214
abbrev CS:FuncId:=215
abbrev Bu:FuncId:=217
abbrev BW:FuncId:=218
abbrev A3:FuncId:=220
abbrev Ae:FuncId:=221
abbrev CB:FuncId:=225
abbrev BD:FuncId:=230
abbrev CY:FuncId:=231
abbrev C0:FuncId:=232
abbrev Ab:FuncId:=233
abbrev Au:FuncId:=234
abbrev AA:FuncId:=235
abbrev BE:FuncId:=236
abbrev A4:FuncId:=237
abbrev Aq:FuncId:=238
abbrev BF:FuncId:=244
abbrev CL:FuncId:=245
abbrev Bc:FuncId:=246
abbrev Cw:FuncId:=247
abbrev BA:FuncId:=248
abbrev Cx:FuncId:=249
abbrev AK:FuncId:=250
abbrev BX:FuncId:=251
abbrev Ba:FuncId:=252
abbrev BB:FuncId:=253
abbrev A8:FuncId:=254
abbrev Bl:FuncId:=255
abbrev BS:FuncId:=256
abbrev Be:FuncId:=257
abbrev BJ:FuncId:=258
abbrev CK:FuncId:=279
abbrev CM:FuncId:=280
abbrev Bf:FuncId:=281
abbrev AR:FuncId:=282
abbrev Bv:FuncId:=284
abbrev A9:FuncId:=285
abbrev Bo:FuncId:=286
abbrev Bp:FuncId:=287
abbrev BK:FuncId:=288
abbrev BG:FuncId:=289
abbrev Ch:FuncId:=290
abbrev C1:Nat:=0
abbrev Df:Nat:=1
end S
namespace Ty
abbrev int:TypeId:=3
abbrev bool:TypeId:=4
abbrev string:TypeId:=9
abbrev LExpr:TypeId:=33
abbrev Trigger:TypeId:=36
abbrev Access:TypeId:=42
abbrev Action:TypeId:=50
abbrev Schema:TypeId:=57
abbrev Table:TypeId:=60
abbrev Row:TypeId:=86
abbrev Pair:TypeId:=88
abbrev Value:TypeId:=101
abbrev Expr:TypeId:=103
abbrev Set:TypeId:=109
abbrev Query:TypeId:=137
abbrev Column:TypeId:=170
abbrev Rank:TypeId:=187
abbrev Link:TypeId:=194
abbrev M_Access_bool:TypeId:=202
abbrev Frame:TypeId:=220
abbrev run:TypeId:=250
end Ty
noncomputable abbrev ZT1:TI:=⟨.scalar,1,8,[.v .nilFunc]⟩
noncomputable abbrev ZT0:TI:=⟨.scalar,0,0,[]⟩
noncomputable def tabA:List TI:=[
ZT0,ZT1, ⟨.int .i64,1,8,[(.v (.int .i64 0))]⟩,
 ⟨.int .i64,1,8,[(.v (.int .i64 0))]⟩,
 ⟨.bool,1,1,[.bl false]⟩,
 ⟨.int .u8,1,1,[(.v (.int .u8 0))]⟩,
 ⟨.int .u8,1,1,[(.v (.int .u8 0))]⟩,
 ⟨.struct [0,1,2,3],4,24,[(.v (.int .i64 0)),(.v (.int .i64 0)),.bl false,(.v (.int .u8 0))]⟩,
 ⟨.struct [0,1,2,3],4,24,[(.v (.int .i64 0)),(.v (.int .i64 0)),.bl false,(.v (.int .u8 0))]⟩,
 ⟨.str,1,16,[.v (.string ⟨#[]⟩)]⟩,
 ⟨.str,1,16,[.v (.string ⟨#[]⟩)]⟩,
 ⟨.str,1,16,[.v (.string ⟨#[]⟩)]⟩,
 ⟨.int .u64,1,8,[(.v (.int .u64 0))]⟩,
 ⟨.struct [0,1],2,24,[.v (.string ⟨#[]⟩),(.v (.int .u64 0))]⟩,
 ⟨.struct [0,1],2,24,[.v (.string ⟨#[]⟩),(.v (.int .u64 0))]⟩,
 ⟨.scalar,1,8,[.v (.pointer none)]⟩,
 ⟨.scalar,1,8,[.v (.pointer none)]⟩,
 ⟨.scalar,1,8,[.v (.pointer none)]⟩,
 ⟨.struct [0],1,8,[.v (.pointer none)]⟩,
 ⟨.struct [0],1,8,[.v (.pointer none)]⟩,
 ⟨.scalar,1,16,[.v .nilIface]⟩,
 ⟨.int .i32,1,4,[(.v (.int .i32 0))]⟩,
 ⟨.slice 3,1,24,[.nl]⟩,
 ⟨.scalar,1,8,[.v (.pointer none)]⟩,
ZT1, ⟨.slice 36,1,24,[.nl]⟩,
 ⟨.slice 194,1,24,[.nl]⟩,
ZT0,ZT1, ⟨.slice 60,1,24,[.nl]⟩,
ZT1, ⟨.slice 9,1,24,[.nl]⟩,
 ⟨.slice 187,1,24,[.nl]⟩,
 ⟨.slice 103,1,24,[.nl]⟩,
 ⟨.slice 50,1,24,[.nl]⟩,
 ⟨.struct [0,1,2,3,4,5,6,7,8,9,10],11,200,[.v (.string ⟨#[]⟩),.v (.string ⟨#[]⟩),.bl false,(.v (.int .i64 0)),.nl,.bl false,.nl,.nl,.nl,.nl,.nl]⟩,
 ⟨.struct [0,1,2,3,4,5,6,7,8,9,10],11,200,[.v (.string ⟨#[]⟩),.v (.string ⟨#[]⟩),.bl false,(.v (.int .i64 0)),.nl,.bl false,.nl,.nl,.nl,.nl,.nl]⟩,
ZT0,ZT1,ZT1, ⟨.slice 42,1,24,[.nl]⟩,
 ⟨.struct [0,1,2],3,40,[.v (.string ⟨#[]⟩),.v (.string ⟨#[]⟩),(.v (.int .i64 0))]⟩,
 ⟨.struct [0,1,2],3,40,[.v (.string ⟨#[]⟩),.v (.string ⟨#[]⟩),(.v (.int .i64 0))]⟩,
ZT1,ZT1,ZT1, ⟨.slice 33,1,24,[.nl]⟩,
 ⟨.slice 137,1,24,[.nl]⟩,
 ⟨.slice 109,1,24,[.nl]⟩,
 ⟨.struct [0,1,2,3,4,5,6],7,136,[(.v (.int .i64 0)),.v (.string ⟨#[]⟩),.nl,.nl,.nl,.nl,.v (.string ⟨#[]⟩)]⟩,
 ⟨.struct [0,1,2,3,4,5,6],7,136,[(.v (.int .i64 0)),.v (.string ⟨#[]⟩),.nl,.nl,.nl,.nl,.v (.string ⟨#[]⟩)]⟩,
ZT1,ZT1,ZT1,ZT1, ⟨.slice 170,1,24,[.nl]⟩,
 ⟨.struct [0,1],2,40,[.v (.string ⟨#[]⟩),.nl]⟩,
 ⟨.struct [0,1],2,40,[.v (.string ⟨#[]⟩),.nl]⟩,
 ⟨.slice 86,1,24,[.nl]⟩,
 ⟨.struct [0,2,3],4,72,[.v (.string ⟨#[]⟩),.nl,(.v (.int .i64 0)),.nl]⟩,
 ⟨.struct [0,2,3],4,72,[.v (.string ⟨#[]⟩),.nl,(.v (.int .i64 0)),.nl]⟩,
 ⟨.int .i64,1,8,[(.v (.int .i64 0))]⟩,
ZT0,ZT1, ⟨.slice 74,1,24,[.nl]⟩,
 ⟨.slice 88,1,24,[.nl]⟩,
 ⟨.struct [0,1,2],3,72,[.nl,.nl,.nl]⟩,
 ⟨.struct [0,1,2],3,72,[.nl,.nl,.nl]⟩,
ZT1, ⟨.slice 80,1,24,[.nl]⟩,
ZT0,ZT1, ⟨.slice 76,1,24,[.nl]⟩,
ZT1, ⟨.slice 101,1,24,[.nl]⟩,
 ⟨.struct [0,1,2,3],4,72,[.v (.string ⟨#[]⟩),(.v (.int .i64 0)),.nl,.nl]⟩,
 ⟨.struct [0,1,2,3],4,72,[.v (.string ⟨#[]⟩),(.v (.int .i64 0)),.nl,.nl]⟩,
ZT0,ZT1, ⟨.struct [0,1,2,3],4,88,[.v (.string ⟨#[]⟩),.nl,.nl,.nl]⟩,
 ⟨.struct [0,1,2,3],4,88,[.v (.string ⟨#[]⟩),.nl,.nl,.nl]⟩,
ZT1,ZT1,ZT1,ZT1, ⟨.struct [0,1],2,32,[(.v (.int .i64 0)),.nl]⟩,
 ⟨.struct [0,1],2,32,[(.v (.int .i64 0)),.nl]⟩,
 ⟨.struct [0,1,2],3,56,[(.v (.int .i64 0)),.nl,.nl]⟩,
 ⟨.struct [0,1,2],3,56,[(.v (.int .i64 0)),.nl,.nl]⟩,
ZT1, ⟨.struct [0,1],2,32,[.nl,(.v (.int .i64 0))]⟩,
 ⟨.struct [0,1],2,32,[.nl,(.v (.int .i64 0))]⟩,
ZT1, ⟨.array 8 9,8,128,[.v (.string ⟨#[]⟩),.v (.string ⟨#[]⟩),.v (.string ⟨#[]⟩),.v (.string ⟨#[]⟩),.v (.string ⟨#[]⟩),.v (.string ⟨#[]⟩),.v (.string ⟨#[]⟩),.v (.string ⟨#[]⟩)]⟩,
ZT1,ZT1,ZT0,ZT1, ⟨.slice 57,1,24,[.nl]⟩,
ZT1, ⟨.struct [0,1,2],3,32,[(.v (.int .i64 0)),(.v (.int .i64 0)),.v (.string ⟨#[]⟩)]⟩,
 ⟨.struct [0,1,2],3,32,[(.v (.int .i64 0)),(.v (.int .i64 0)),.v (.string ⟨#[]⟩)]⟩,
 ⟨.struct [0,1,2,3,6,7,8,9],10,136,[(.v (.int .i64 0)),(.v (.int .i64 0)),.bl false,(.v (.int .i64 0)),(.v (.int .i64 0)),.v (.string ⟨#[]⟩),.v (.string ⟨#[]⟩),.v (.string ⟨#[]⟩),.nl,.nl]⟩,
 ⟨.struct [0,1,2,3,6,7,8,9],10,136,[(.v (.int .i64 0)),(.v (.int .i64 0)),.bl false,(.v (.int .i64 0)),(.v (.int .i64 0)),.v (.string ⟨#[]⟩),.v (.string ⟨#[]⟩),.v (.string ⟨#[]⟩),.nl,.nl]⟩,
ZT1,ZT1,ZT1,ZT1, ⟨.struct [0,1],11,152,[.v (.string ⟨#[]⟩),(.v (.int .i64 0)),(.v (.int .i64 0)),.bl false,(.v (.int .i64 0)),(.v (.int .i64 0)),.v (.string ⟨#[]⟩),.v (.string ⟨#[]⟩),.v (.string ⟨#[]⟩),.nl,.nl]⟩,
 ⟨.struct [0,1],11,152,[.v (.string ⟨#[]⟩),(.v (.int .i64 0)),(.v (.int .i64 0)),.bl false,(.v (.int .i64 0)),(.v (.int .i64 0)),.v (.string ⟨#[]⟩),.v (.string ⟨#[]⟩),.v (.string ⟨#[]⟩),.nl,.nl]⟩,
ZT1,ZT1,ZT1,ZT1,ZT1, ⟨.slice 220,1,24,[.nl]⟩,
ZT0,ZT1, ⟨.scalar,1,8,[.v (.pointer none)]⟩,
ZT1,ZT1,ZT1,ZT1,ZT1,ZT0,ZT1,ZT1,ZT1,ZT1,ZT1,ZT1,ZT1,ZT1,ZT1,ZT1,ZT1, ⟨.struct [0,1,2,3],4,72,[.bl false,.nl,.v (.string ⟨#[]⟩),.nl]⟩,
 ⟨.struct [0,1,2,3],4,72,[.bl false,.nl,.v (.string ⟨#[]⟩),.nl]⟩,
ZT1,ZT1,ZT1,ZT1,ZT1,ZT1,ZT1,ZT1,ZT1,ZT1,ZT1,ZT1,ZT0,ZT1,ZT1,ZT1,ZT1,ZT1,ZT1,ZT0,ZT1,ZT1,ZT1,ZT1,ZT0,ZT1,ZT0,ZT1,ZT0,ZT1,ZT1, ⟨.struct [0,1,2,3],4,32,[.v (.string ⟨#[]⟩),(.v (.int .i64 0)),.bl false,.bl false]⟩,
 ⟨.struct [0,1,2,3],4,32,[.v (.string ⟨#[]⟩),(.v (.int .i64 0)),.bl false,.bl false]⟩,
ZT1,ZT1,ZT1,ZT1,ZT1,ZT1,ZT1, ⟨.struct [0,1],2,48,[.nl,.nl]⟩,
 ⟨.struct [0,1],2,48,[.nl,.nl]⟩,
ZT1,ZT1,ZT1,ZT1, ⟨.scalar,1,8,[.v (.pointer none)]⟩,
ZT1, ⟨.struct [0,1,2,3],4,48,[.v (.string ⟨#[]⟩),.v (.string ⟨#[]⟩),(.v (.int .i64 0)),(.v (.int .i64 0))]⟩,
 ⟨.struct [0,1,2,3],4,48,[.v (.string ⟨#[]⟩),.v (.string ⟨#[]⟩),(.v (.int .i64 0)),(.v (.int .i64 0))]⟩,
ZT1,ZT1,ZT1,ZT1,ZT1, ⟨.struct [0,1],2,32,[.v (.string ⟨#[]⟩),.v (.string ⟨#[]⟩)]⟩,
 ⟨.struct [0,1],2,32,[.v (.string ⟨#[]⟩),.v (.string ⟨#[]⟩)]⟩,
ZT1,ZT1,ZT1,ZT1,ZT1, ⟨.int .u64,1,8,[(.v (.int .u64 0))]⟩,
ZT1, ⟨.map 42 4,1,8,[.v (.map none)]⟩,
 ⟨.struct [0,1],2,32,[.nl,.v (.map none)]⟩,
 ⟨.struct [0,1],2,32,[.nl,.v (.map none)]⟩,
ZT1,ZT1,ZT1,ZT1,ZT1,ZT1,ZT1,ZT1,ZT1,ZT1,ZT1,ZT1,ZT1,ZT1, ⟨.struct [0,1,2,3],4,72,[.v (.string ⟨#[]⟩),.bl false,.nl,.nl]⟩,
 ⟨.struct [0,1,2,3],4,72,[.v (.string ⟨#[]⟩),.bl false,.nl,.nl]⟩,
ZT1,ZT0,ZT1,ZT1,ZT1,ZT1,ZT1,ZT0,ZT1,ZT1,ZT1, ⟨.map 3 4,1,8,[.v (.map none)]⟩,
ZT1,ZT1,ZT1, ⟨.map 101 4,1,8,[.v (.map none)]⟩,
ZT1,ZT1,ZT1,ZT1,ZT0,ZT1,ZT1,ZT1,ZT0,ZT1,ZT1, ⟨.scalar,1,8,[.v (.pointer none)]⟩,
 ⟨.struct [0,1,2,4,5,6],7,160,[.nl,.nl,.v (.string ⟨#[]⟩),.nl,.nl,.nl,.nl]⟩,
 ⟨.struct [0,1,2,4,5,6],7,160,[.nl,.nl,.v (.string ⟨#[]⟩),.nl,.nl,.nl,.nl]⟩,
ZT1,ZT1,ZT1,ZT1,ZT1,ZT1,ZT0,ZT1,ZT1,ZT1,ZT1,ZT1,ZT1,ZT1,ZT0,ZT1,ZT1,ZT1,ZT1,ZT1,ZT1,ZT1,ZT1, ⟨.int .i64,1,8,[(.v (.int .i64 0))]⟩,
ZT0,ZT1,ZT1,ZT1,ZT1,ZT1,ZT1, ⟨.int .u32,1,4,[(.v (.int .u32 0))]⟩,
ZT1, ⟨.int .u64,1,8,[(.v (.int .u64 0))]⟩,
ZT1,ZT1, ⟨.slice 29,1,24,[.nl]⟩,
ZT1,ZT1,ZT1,ZT1,ZT1,ZT1,ZT1,ZT1,ZT1,ZT1,ZT1,ZT1,ZT0,ZT1, ⟨.array 6 9,6,96,[.v (.string ⟨#[]⟩),.v (.string ⟨#[]⟩),.v (.string ⟨#[]⟩),.v (.string ⟨#[]⟩),.v (.string ⟨#[]⟩),.v (.string ⟨#[]⟩)]⟩,
ZT1,ZT1,ZT1,ZT1,ZT1, ⟨.int .u64,1,8,[(.v (.int .u64 0))]⟩,
ZT1,ZT1,ZT1, ⟨.scalar,1,8,[.v (.pointer none)]⟩,
ZT1,ZT1,ZT1,ZT1,ZT1,ZT1,ZT1,ZT1,ZT1,ZT1,ZT1,ZT1,ZT1,ZT1,ZT1,ZT1,ZT1,ZT1,ZT0,ZT1,ZT1,ZT1,ZT1,ZT0,ZT1,ZT1,ZT1,ZT0,ZT1,ZT0,ZT1,ZT1,ZT0,ZT1, ⟨.scalar,1,8,[.v (.pointer none)]⟩,
ZT0,ZT1,ZT1,ZT1,ZT1,ZT1,ZT1,ZT1,ZT1,ZT1,ZT1, ⟨.slice 2,1,24,[.nl]⟩,
ZT0,ZT1,ZT1,ZT1,ZT0,ZT1,ZT1,ZT1, ⟨.struct [0,1],2,16,[(.v (.int .i64 0)),(.v (.int .u64 0))]⟩,
 ⟨.struct [0,1],2,16,[(.v (.int .i64 0)),(.v (.int .u64 0))]⟩,
ZT1,ZT1,ZT1,ZT1,ZT0,ZT1,ZT1, ⟨.slice 4,1,24,[.nl]⟩,
ZT1,ZT1,ZT1, ⟨.struct [0,1,2,3],4,40,[.v (.pointer none),.v (.pointer none),.v (.pointer none),.v (.string ⟨#[]⟩)]⟩,
 ⟨.struct [0,1,2,3],4,40,[.v (.pointer none),.v (.pointer none),.v (.pointer none),.v (.string ⟨#[]⟩)]⟩,
ZT0,ZT0,ZT0,ZT1, ⟨.int .u8,1,1,[(.v (.int .u8 0))]⟩,
 ⟨.int .u8,1,1,[(.v (.int .u8 0))]⟩,
ZT1, ⟨.scalar,1,8,[.v (.pointer none)]⟩,
 ⟨.int .i32,1,4,[(.v (.int .i32 0))]⟩,
 ⟨.int .i32,1,4,[(.v (.int .i32 0))]⟩,
 ⟨.struct [0,1,2,3,4,5,6,7,8,9,10],11,48,[(.v (.int .u64 0)),(.v (.int .u64 0)),(.v (.int .u32 0)),(.v (.int .u8 0)),(.v (.int .u8 0)),(.v (.int .u8 0)),(.v (.int .u8 0)),.v .nilFunc,.v (.pointer none),(.v (.int .i32 0)),(.v (.int .i32 0))]⟩,
 ⟨.struct [0,1,2,3,4,5,6,7,8,9,10],11,48,[(.v (.int .u64 0)),(.v (.int .u64 0)),(.v (.int .u32 0)),(.v (.int .u8 0)),(.v (.int .u8 0)),(.v (.int .u8 0)),(.v (.int .u8 0)),.v .nilFunc,.v (.pointer none),(.v (.int .i32 0)),(.v (.int .i32 0))]⟩,
 ⟨.scalar,0,0,[]⟩]
theorem zBu:znp Proofs.Tryz.prog tabA tabA.length=true:=by kernel_rfl
theorem mix_ok:Proofs.Tryz.prog.follows .mixedOrders=true:=by kernel_rfl
namespace B
open Proofs.Tryz
noncomputable abbrev AI:Func:=f3
noncomputable abbrev Bm:Func:=f7
noncomputable abbrev Cd:Func:=f8
noncomputable abbrev AS:Func:=f9
noncomputable abbrev B9:Func:=f10
noncomputable abbrev A6:Func:=f11
noncomputable abbrev Bg:Func:=f12
noncomputable abbrev BC:Func:=f13
noncomputable abbrev Bn:Func:=f14
noncomputable abbrev A0:Func:=f16
noncomputable abbrev Am:Func:=f18
noncomputable abbrev Ct:Func:=f29
noncomputable abbrev An:Func:=f31
noncomputable abbrev AD:Func:=f32
noncomputable abbrev Cc:Func:=f33
noncomputable abbrev BU:Func:=f34
noncomputable abbrev AG:Func:=f35
noncomputable abbrev BY:Func:=f39
noncomputable abbrev BO:Func:=f42
noncomputable abbrev AL:Func:=f43
noncomputable abbrev BH:Func:=f44
noncomputable abbrev Ca:Func:=f45
noncomputable abbrev Ak:Func:=f48
noncomputable abbrev Ad:Func:=f49
noncomputable abbrev AE:Func:=f51
noncomputable abbrev Cu:Func:=f52
noncomputable abbrev As:Func:=f55
noncomputable abbrev Cm:Func:=f56
noncomputable abbrev AW:Func:=f57
noncomputable abbrev AX:Func:=f61
noncomputable abbrev Cn:Func:=f63
noncomputable abbrev BI:Func:=f64
noncomputable abbrev Bx:Func:=f65
noncomputable abbrev Ay:Func:=f67
noncomputable abbrev AF:Func:=f68
noncomputable abbrev BZ:Func:=f98
noncomputable abbrev Cb:Func:=f99
noncomputable abbrev Af:Func:=f103
noncomputable abbrev Bk:Func:=f104
noncomputable abbrev Bw:Func:=f108
noncomputable abbrev Cg:Func:=f109
noncomputable abbrev A1:Func:=f110
noncomputable abbrev Ai:Func:=f111
noncomputable abbrev Ah:Func:=f112
noncomputable abbrev AQ:Func:=f117
noncomputable abbrev Az:Func:=f118
noncomputable abbrev Aw:Func:=f124
noncomputable abbrev Ar:Func:=f126
noncomputable abbrev B4:Func:=f127
noncomputable abbrev AU:Func:=f128
noncomputable abbrev CH:Func:=f131
noncomputable abbrev BL:Func:=f134
noncomputable abbrev BV:Func:=f135
noncomputable abbrev AM:Func:=f137
noncomputable abbrev AJ:Func:=f139
noncomputable abbrev B0:Func:=f140
noncomputable abbrev Bz:Func:=f141
noncomputable abbrev Co:Func:=f143
noncomputable abbrev B1:Func:=f151
noncomputable abbrev AB:Func:=f167
noncomputable abbrev At:Func:=f172
noncomputable abbrev Bb:Func:=f173
noncomputable abbrev Bh:Func:=f174
noncomputable abbrev AZ:Func:=f175
noncomputable abbrev AC:Func:=f177
noncomputable abbrev Bi:Func:=f180
noncomputable abbrev BQ:Func:=f181
noncomputable abbrev BN:Func:=f183
noncomputable abbrev Aj:Func:=f184
noncomputable abbrev Bj:Func:=f196
noncomputable abbrev A7:Func:=f198
noncomputable abbrev Br:Func:=f199
noncomputable abbrev Bs:Func:=f203
noncomputable abbrev Cq:Func:=f204
noncomputable abbrev Bt:Func:=f205
noncomputable abbrev B3:Func:=f211
noncomputable abbrev A3:Func:=f220
noncomputable abbrev BD:Func:=f230
noncomputable abbrev Ab:Func:=f233
noncomputable abbrev Au:Func:=f234
noncomputable abbrev AA:Func:=f235
noncomputable abbrev BE:Func:=f236
noncomputable abbrev A4:Func:=f237
noncomputable abbrev Aq:Func:=f238
noncomputable abbrev BF:Func:=f244
noncomputable abbrev Bc:Func:=f246
noncomputable abbrev BA:Func:=f248
noncomputable abbrev AK:Func:=f250
noncomputable abbrev BX:Func:=f251
noncomputable abbrev Ba:Func:=f252
noncomputable abbrev BB:Func:=f253
noncomputable abbrev A8:Func:=f254
noncomputable abbrev Bl:Func:=f255
noncomputable abbrev Be:Func:=f257
noncomputable abbrev AR:Func:=f282
noncomputable abbrev Bv:Func:=f284
noncomputable abbrev Bo:Func:=f286
noncomputable abbrev Bp:Func:=f287
noncomputable abbrev BG:Func:=f289
end B
abbrev ZFn (n:FuncId) (f:Func):Prop:=Proofs.Tryz.prog.funcs[n]?=some f
namespace At
open Proofs.Tryz
theorem AI:ZFn S.AI B.AI:=func3
theorem C3:ZFn S.C3 f6:=func6
theorem Bm:ZFn S.Bm B.Bm:=func7
theorem Cd:ZFn S.Cd B.Cd:=func8
theorem AS:ZFn S.AS B.AS:=func9
theorem B9:ZFn S.B9 B.B9:=func10
theorem A6:ZFn S.A6 B.A6:=func11
theorem Bg:ZFn S.Bg B.Bg:=func12
theorem BC:ZFn S.BC B.BC:=func13
theorem Bn:ZFn S.Bn B.Bn:=func14
theorem BT:ZFn S.BT f15:=func15
theorem A0:ZFn S.A0 B.A0:=func16
theorem Cp:ZFn S.Cp f17:=func17
theorem Am:ZFn S.Am B.Am:=func18
theorem CX:ZFn S.CX f19:=func19
theorem B6:ZFn S.B6 f27:=func27
theorem Ct:ZFn S.Ct B.Ct:=func29
theorem An:ZFn S.An B.An:=func31
theorem AD:ZFn S.AD B.AD:=func32
theorem Cc:ZFn S.Cc B.Cc:=func33
theorem BU:ZFn S.BU B.BU:=func34
theorem AG:ZFn S.AG B.AG:=func35
theorem Ap:ZFn S.Ap f36:=func36
theorem A5:ZFn S.A5 f37:=func37
theorem Cj:ZFn S.Cj f38:=func38
theorem BY:ZFn S.BY B.BY:=func39
theorem CN:ZFn S.CN f40:=func40
theorem CE:ZFn S.CE f41:=func41
theorem BO:ZFn S.BO B.BO:=func42
theorem AL:ZFn S.AL B.AL:=func43
theorem BH:ZFn S.BH B.BH:=func44
theorem Ca:ZFn S.Ca B.Ca:=func45
theorem CO:ZFn S.CO f46:=func46
theorem CT:ZFn S.CT f47:=func47
theorem Ak:ZFn S.Ak B.Ak:=func48
theorem Ad:ZFn S.Ad B.Ad:=func49
theorem AV:ZFn S.AV f50:=func50
theorem AE:ZFn S.AE B.AE:=func51
theorem Cu:ZFn S.Cu B.Cu:=func52
theorem Ce:ZFn S.Ce f53:=func53
theorem CU:ZFn S.CU f54:=func54
theorem As:ZFn S.As B.As:=func55
theorem Cm:ZFn S.Cm B.Cm:=func56
theorem AW:ZFn S.AW B.AW:=func57
theorem AH:ZFn S.AH f58:=func58
theorem B7:ZFn S.B7 f59:=func59
theorem BP:ZFn S.BP f60:=func60
theorem AX:ZFn S.AX B.AX:=func61
theorem C4:ZFn S.C4 f62:=func62
theorem Cn:ZFn S.Cn B.Cn:=func63
theorem BI:ZFn S.BI B.BI:=func64
theorem Bx:ZFn S.Bx B.Bx:=func65
theorem CC:ZFn S.CC f66:=func66
theorem Ay:ZFn S.Ay B.Ay:=func67
theorem AF:ZFn S.AF B.AF:=func68
theorem Da:ZFn S.Da f69:=func69
theorem Db:ZFn S.Db f70:=func70
theorem CF:ZFn S.CF f71:=func71
theorem Dg:ZFn S.Dg f74:=func74
theorem Dc:ZFn S.Dc f78:=func78
theorem CV:ZFn S.CV f80:=func80
theorem C5:ZFn S.C5 f92:=func92
theorem Cf:ZFn S.Cf f93:=func93
theorem CP:ZFn S.CP f94:=func94
theorem CQ:ZFn S.CQ f97:=func97
theorem BZ:ZFn S.BZ B.BZ:=func98
theorem Cb:ZFn S.Cb B.Cb:=func99
theorem Ac:ZFn S.Ac f100:=func100
theorem Ag:ZFn S.Ag f101:=func101
theorem BM:ZFn S.BM f102:=func102
theorem Af:ZFn S.Af B.Af:=func103
theorem Bk:ZFn S.Bk B.Bk:=func104
theorem AP:ZFn S.AP f105:=func105
theorem AT:ZFn S.AT f106:=func106
theorem C8:ZFn S.C8 f107:=func107
theorem Bw:ZFn S.Bw B.Bw:=func108
theorem Cg:ZFn S.Cg B.Cg:=func109
theorem A1:ZFn S.A1 B.A1:=func110
theorem Ai:ZFn S.Ai B.Ai:=func111
theorem Ah:ZFn S.Ah B.Ah:=func112
theorem CG:ZFn S.CG f115:=func115
theorem By:ZFn S.By f116:=func116
theorem AQ:ZFn S.AQ B.AQ:=func117
theorem Az:ZFn S.Az B.Az:=func118
theorem A2:ZFn S.A2 f119:=func119
theorem AN:ZFn S.AN f120:=func120
theorem Bq:ZFn S.Bq f121:=func121
theorem CD:ZFn S.CD f122:=func122
theorem Ci:ZFn S.Ci f123:=func123
theorem Aw:ZFn S.Aw B.Aw:=func124
theorem Ax:ZFn S.Ax f125:=func125
theorem Ar:ZFn S.Ar B.Ar:=func126
theorem B4:ZFn S.B4 B.B4:=func127
theorem AU:ZFn S.AU B.AU:=func128
theorem Cz:ZFn S.Cz f129:=func129
theorem AO:ZFn S.AO f130:=func130
theorem CH:ZFn S.CH B.CH:=func131
theorem Ck:ZFn S.Ck f132:=func132
theorem Cs:ZFn S.Cs f133:=func133
theorem BL:ZFn S.BL B.BL:=func134
theorem BV:ZFn S.BV B.BV:=func135
theorem Cv:ZFn S.Cv f136:=func136
theorem AM:ZFn S.AM B.AM:=func137
theorem CI:ZFn S.CI f138:=func138
theorem AJ:ZFn S.AJ B.AJ:=func139
theorem B0:ZFn S.B0 B.B0:=func140
theorem Bz:ZFn S.Bz B.Bz:=func141
theorem Av:ZFn S.Av f142:=func142
theorem Co:ZFn S.Co B.Co:=func143
theorem Dd:ZFn S.Dd f144:=func144
theorem B1:ZFn S.B1 B.B1:=func151
theorem B8:ZFn S.B8 f161:=func161
theorem CW:ZFn S.CW f162:=func162
theorem AB:ZFn S.AB B.AB:=func167
theorem B2:ZFn S.B2 f168:=func168
theorem Bd:ZFn S.Bd f169:=func169
theorem C2:ZFn S.C2 f170:=func170
theorem C6:ZFn S.C6 f171:=func171
theorem At:ZFn S.At B.At:=func172
theorem Bb:ZFn S.Bb B.Bb:=func173
theorem Bh:ZFn S.Bh B.Bh:=func174
theorem AZ:ZFn S.AZ B.AZ:=func175
theorem Aa:ZFn S.Aa f176:=func176
theorem AC:ZFn S.AC B.AC:=func177
theorem CZ:ZFn S.CZ f178:=func178
theorem CR:ZFn S.CR f179:=func179
theorem Bi:ZFn S.Bi B.Bi:=func180
theorem BQ:ZFn S.BQ B.BQ:=func181
theorem CJ:ZFn S.CJ f182:=func182
theorem BN:ZFn S.BN B.BN:=func183
theorem Aj:ZFn S.Aj B.Aj:=func184
theorem Bj:ZFn S.Bj B.Bj:=func196
theorem Cl:ZFn S.Cl f197:=func197
theorem A7:ZFn S.A7 B.A7:=func198
theorem Br:ZFn S.Br B.Br:=func199
theorem Cy:ZFn S.Cy f200:=func200
theorem De:ZFn S.De f201:=func201
theorem C9:ZFn S.C9 f202:=func202
theorem Bs:ZFn S.Bs B.Bs:=func203
theorem Cq:ZFn S.Cq B.Cq:=func204
theorem Bt:ZFn S.Bt B.Bt:=func205
theorem C7:ZFn S.C7 f206:=func206
theorem B5:ZFn S.B5 f207:=func207
theorem AY:ZFn S.AY f208:=func208
theorem CA:ZFn S.CA f209:=func209
theorem Ao:ZFn S.Ao f210:=func210
theorem B3:ZFn S.B3 B.B3:=func211
theorem Al:ZFn S.Al f212:=func212
theorem Cr:ZFn S.Cr f213:=func213
theorem BR:ZFn S.BR f214:=func214
theorem CS:ZFn S.CS f215:=func215
theorem Bu:ZFn S.Bu f217:=func217
theorem BW:ZFn S.BW f218:=func218
theorem A3:ZFn S.A3 B.A3:=func220
theorem Ae:ZFn S.Ae f221:=func221
theorem CB:ZFn S.CB f225:=func225
theorem BD:ZFn S.BD B.BD:=func230
theorem CY:ZFn S.CY f231:=func231
theorem C0:ZFn S.C0 f232:=func232
theorem Ab:ZFn S.Ab B.Ab:=func233
theorem Au:ZFn S.Au B.Au:=func234
theorem AA:ZFn S.AA B.AA:=func235
theorem BE:ZFn S.BE B.BE:=func236
theorem A4:ZFn S.A4 B.A4:=func237
theorem Aq:ZFn S.Aq B.Aq:=func238
theorem BF:ZFn S.BF B.BF:=func244
theorem CL:ZFn S.CL f245:=func245
theorem Bc:ZFn S.Bc B.Bc:=func246
theorem Cw:ZFn S.Cw f247:=func247
theorem BA:ZFn S.BA B.BA:=func248
theorem Cx:ZFn S.Cx f249:=func249
theorem AK:ZFn S.AK B.AK:=func250
theorem BX:ZFn S.BX B.BX:=func251
theorem Ba:ZFn S.Ba B.Ba:=func252
theorem BB:ZFn S.BB B.BB:=func253
theorem A8:ZFn S.A8 B.A8:=func254
theorem Bl:ZFn S.Bl B.Bl:=func255
theorem BS:ZFn S.BS f256:=func256
theorem Be:ZFn S.Be B.Be:=func257
theorem BJ:ZFn S.BJ f258:=func258
theorem CK:ZFn S.CK f279:=func279
theorem CM:ZFn S.CM f280:=func280
theorem Bf:ZFn S.Bf f281:=func281
theorem AR:ZFn S.AR B.AR:=func282
theorem Bv:ZFn S.Bv B.Bv:=func284
theorem A9:ZFn S.A9 f285:=func285
theorem Bo:ZFn S.Bo B.Bo:=func286
theorem Bp:ZFn S.Bp B.Bp:=func287
theorem BK:ZFn S.BK f288:=func288
theorem BG:ZFn S.BG B.BG:=func289
theorem Ch:ZFn S.Ch f290:=func290
end At
theorem Rel.nilRow {E:Env0} {h:Heap} {β:List Con} {S:Addr->Prop} {w:World} (r:Rel E h β S w) (e:TypeId) (a:Option Addr) :
  Ext h β S w (h++[Blk.row e [] false]) (β++[.nil a]) S w/\Rel E (h++[Blk.row e [] false]) (β++[.nil a]) S w :=
 r.newRow e [] false (.nil a) ⟨⟨rfl,rfl,rfl,Nat.le_refl _,fun _ _=>rfl⟩,Nat.le_refl _⟩ (fun g hg=>by cases hg) rfl
theorem zgN {T:TypeId->TI} {h:Heap} {β:List Con} {S:Addr->Prop} {w:World} {v:Value} (hv:RelV T h β w S .nl v):∃ a,v=.slice a 0 0:=by
 cases hv with
 | d _ _ hd=>cases hd
 | nl a=>exact ⟨a,rfl⟩
theorem Rel.ownNil {E:Env0} {h:Heap} {β:List Con} {S:Addr->Prop} {w:World} (r:Rel E h β S w) (e:TypeId) (a:Option Addr) :
  RelV E.T (h++[Blk.row e [] false]) (β++[.nil a]) w S (.own h.length 0) (.slice a 0 0) :=
 .own _ _ _ e [] false (getElem?_append_new _ _) (Nat.le_refl _) (fun _=>by rw [← r.len,getElem?_append_new];rfl) rfl
theorem zzT {E:Env0} {fn:Func} {h0:Heap} {c:Cfg} {R:AV->Heap->Prop} (t:Nat) (e:TypeId) (hc:look c.ts t=.nl)
  (hg:Good E fn h0 ⟨c.n,c.todo,(t,.own c.h.length 0)::c.ts,c.h++[Blk.row e [] false]⟩ R):Good E fn h0 c R:=by
 intro β0 S0 w0 β S w tmps hb0 hn x0 r rt
 have ht:=rt t
 rw [hc] at ht
 obtain ⟨a,ha⟩:=zgN ht
 obtain ⟨x1,r1⟩:=r.nilRow e a
 refine hg β0 S0 w0 _ S w tmps hb0 hn (x0.trans x1) r1 fun t'=>?_
 simp only [look]
 cases hb:Nat.beq t t' with
 | true =>
  have:=Nat.eq_of_beq_eq_true hb
  subst this
  simp only
  rw [ha]
  exact r.ownNil e a
 | false=>exact (rt t').ext x1
theorem zd0 {E:Env0} {fn:Func} {h0 H:Heap} {c:Cfg} {R:AV->Heap->Prop} (e:TypeId) (hg:Good E fn h0 c fun r h=>r=.nl/\h=H)
  (hR:R (.own H.length 0) (H++[Blk.row e [] false])):Good E fn h0 c R:=by
 intro β0 S0 w0 β S w tmps hb0 hn x0 r rt
 refine zdj (zmc fun en w' hp=>?_) _ _ _ _ (hg β0 S0 w0 β S w tmps hb0 hn x0 r rt)
 obtain ⟨y,h',β',S',v,he,⟨rfl,rfl⟩,r',x',hv⟩:=hp
 obtain ⟨a,rfl⟩:=zgN hv
 obtain ⟨x1,r1⟩:=r'.nilRow e a
 exact ⟨_,_,_,S',_,he,hR,r1,x'.trans x1,r'.ownNil e a⟩
theorem zfP {h:Heap} {β:List Con} {S:Addr->Prop} {w:World} {b:Nat} {cs:List AV} (hb:h[b]?=some (.box cs)) (cs':List AV):Ext h β S w (h.set b (.box cs')) β S w :=
 { Ext.refl h β S w with
  box:=fun b' cs1 h1=>by
   by_cases hbb:b=b'
   ·subst hbb
    exact ⟨cs',by rw [List.getElem?_set_self (List.getElem?_eq_some_iff.1 hb).1]⟩
   ·exact ⟨cs1,by rw [List.getElem?_set_ne hbb];exact h1⟩
  row:=fun b' e xs sh h1=>by
   have hbb:b≠b':=fun e=>by subst e;rw [hb] at h1;cases h1
   exact ⟨xs,sh,by rw [List.getElem?_set_ne hbb];exact h1,Nat.le_refl _,fun _=>rfl⟩
  mp:=fun b' es h1=>by
   have hbb:b≠b':=fun e=>by subst e;rw [hb] at h1;cases h1
   exact ⟨es,by rw [List.getElem?_set_ne hbb];exact h1⟩ }
theorem Rel.setBox {E:Env0} {h:Heap} {β:List Con} {S:Addr->Prop} {w:World} (r:Rel E h β S w) {b:Nat} {cs:List AV} (hb:h[b]?=some (.box cs)) (cs':List AV)
  (hc:∀ (g:Nat) (vs:List Value) (t:TypeId),β[b]?=some (.box g)->w.heap[g]?=some (.cells vs.toArray t (0,0))->cs.length=vs.length->(∀ (i:Nat) (x:AV) (y:Value),cs[i]?=some x->vs[i]?=some y->RelV E.T h β w S x y/\y.oneCell'=true) ->
   cs'.length=vs.length/\∀ (i:Nat) (x:AV) (y:Value),cs'[i]?=some x->vs[i]?=some y->RelV E.T h β w S x y/\y.oneCell'=true):Rel E (h.set b (.box cs')) β S w:=by
 have x:=zfP (β:=β) (S:=S) (w:=w) hb cs'
 have ne:∀ {b':Nat} {e:TypeId} {xs:List (List AV)} {sh:Bool},(h.set b (.box cs'))[b']?=some (.row e xs sh)->b≠b'/\h[b']?=some (.row e xs sh):=by
  intro b' e xs sh h1
  by_cases hbb:b=b'
  ·subst hbb
   rw [List.getElem?_set_self (List.getElem?_eq_some_iff.1 hb).1] at h1
   cases h1
  ·rw [List.getElem?_set_ne hbb] at h1
   exact ⟨hbb,h1⟩
 have nem:∀ {b':Nat} {es:List (AV × AV)},(h.set b (.box cs'))[b']?=some (.mp es)->h[b']?=some (.mp es):=by
  intro b' es h1
  by_cases hbb:b=b'
  ·subst hbb
   rw [List.getElem?_set_self (List.getElem?_eq_some_iff.1 hb).1] at h1
   cases h1
  ·rw [List.getElem?_set_ne hbb] at h1
   exact h1
 refine { r with len:=by simpa using r.len,box:=?_,row:=fun b' e xs sh h1=>r.row b' e xs sh (ne h1).2,mp:=fun b' es h1=>r.mp b' es (nem h1),free:=?_ }
 ·intro b' cs1 h1
  by_cases hbb:b=b'
  ·subst hbb
   rw [List.getElem?_set_self (List.getElem?_eq_some_iff.1 hb).1] at h1
   cases h1
   obtain ⟨g,vs,t,h2,h3,h4,h5⟩:=r.box b cs hb
   obtain ⟨h6,h7⟩:=hc g vs t h2 h3 h4 h5
   exact ⟨g,vs,t,h2,h3,h6,fun i y z hy hz=>⟨(h7 i y z hy hz).1.ext x,(h7 i y z hy hz).2⟩⟩
  ·rw [List.getElem?_set_ne hbb] at h1
   obtain ⟨g,vs,t,h2,h3,h4,h5⟩:=r.box b' cs1 h1
   exact ⟨g,vs,t,h2,h3,h4,fun i y z hy hz=>⟨(h5 i y z hy hz).1.ext x,(h5 i y z hy hz).2⟩⟩
 ·intro b' k g a h1 h2 h3 h4
  obtain ⟨e,xs,h5,h6⟩:=r.free b' k g a h1 h2 h3 h4
  have hbb:b≠b':=fun e=>by subst e;rw [hb] at h5;cases h5
  exact ⟨e,xs,by rw [List.getElem?_set_ne hbb];exact h5,h6⟩
theorem zuL {E:Env0} {fn:Func} {h0:Heap} {c:Cfg} {R:AV->Heap->Prop} (b i:Nat) (e:TypeId) {cs:List AV} (hb:c.h[b]?=some (.box cs)) (hi:cs[i]?=some .nl)
  (hg:Good E fn h0 ⟨c.n,c.todo,c.ts,(c.h++[Blk.row e [] false]).set b (.box (cs.set i (.own c.h.length 0)))⟩ R):Good E fn h0 c R:=by
 intro β0 S0 w0 β S w tmps hb0 hn x0 r rt
 obtain ⟨g,vs,t,h2,h3,h4,h5⟩:=r.box b cs hb
 have hil:i < vs.length:=by rw [← h4];exact (List.getElem?_eq_some_iff.1 hi).1
 have hv:=h5 i .nl vs[i] hi (by simp [hil])
 obtain ⟨a,ha⟩:=zgN hv.1
 obtain ⟨x1,r1⟩:=r.nilRow e a
 have hb1:(c.h++[Blk.row e [] false])[b]?=some (.box cs):=by rw [List.getElem?_append_left (List.getElem?_eq_some_iff.1 hb).1];exact hb
 have x2:=zfP (β:=β++[.nil a]) (S:=S) (w:=w) hb1 (cs.set i (.own c.h.length 0))
 have r2:=r1.setBox hb1 (cs.set i (.own c.h.length 0)) (fun g' vs' t' e2 e3 e4 e5=>by
  refine ⟨by simpa using e4,fun j x y hx hy=>?_⟩
  by_cases hij:i=j
  ·subst hij
   rw [List.getElem?_set_self (List.getElem?_eq_some_iff.1 hi).1] at hx
   cases hx
   have:=e5 i .nl y hi hy
   refine ⟨?_,this.2⟩
   have hg:(β++[Con.nil a])[b]?=some (.box g):=x1.con b g h2
   rw [hg] at e2
   cases e2
   rw [h3] at e3
   have hvs:vs=vs':=by
    have e6:vs.toArray=vs'.toArray:=by injection e3 with e3;injection e3
    simpa using congrArg Array.toList e6
   subst hvs
   have:y=vs[i]:=by
    rw [List.getElem?_eq_getElem hil] at hy
    cases hy
    rfl
   rw [this,ha]
   exact r.ownNil e a
  ·rw [List.getElem?_set_ne hij] at hx
   exact e5 j x y hx hy)
 exact hg β0 S0 w0 _ S w tmps hb0 hn ((x0.trans x1).trans x2) r2 fun t'=>((rt t').ext x1).ext x2
theorem zcl {E:Env0} {fn:Func} {h0:Heap} {c c':Cfg} {R:AV->Heap->Prop} (t:Nat) (e:TypeId) (live:List Nat) (m:Nat) (hc:look c.ts t=.nl) (hm:Nat.ble h0.length m=true)
  (he:cut live m ⟨c.n,c.todo,(t,.own c.h.length 0)::c.ts,c.h++[Blk.row e [] false]⟩=c') (hg:Good E fn h0 c' R):Good E fn h0 c R :=
 zzT t e hc (zem live m (Nat.le_of_ble_eq_true hm) (he ▸ hg))
theorem zqI {E:Env0} {fn:Func} {h0:Heap} {c c':Cfg} {R:AV->Heap->Prop} (b i:Nat) (e:TypeId) (live:List Nat) (m:Nat) {cs:List AV} (hb:c.h[b]?=some (.box cs)) (hi:cs[i]?=some .nl) (hm:Nat.ble h0.length m=true)
  (he:cut live m ⟨c.n,c.todo,c.ts,(c.h++[Blk.row e [] false]).set b (.box (cs.set i (.own c.h.length 0)))⟩=c') (hg:Good E fn h0 c' R):Good E fn h0 c R :=
 zuL b i e hb hi (zem live m (Nat.le_of_ble_eq_true hm) (he ▸ hg))
theorem zwI {E:Env0} {fn:Func} {h0:Heap} {c c':Cfg} {R:AV->Heap->Prop} (t:Nat) (b:Bool) (live:List Nat) (m:Nat) (hc:look c.ts t=.bl b) (hm:Nat.ble h0.length m=true)
  (he:cut live m ⟨c.n,c.todo,(t,.v (.bool b))::c.ts,c.h⟩=c') (hg:Good E fn h0 c' R):Good E fn h0 c R:=by
 have hg':=zem live m (Nat.le_of_ble_eq_true hm) (he ▸ hg)
 intro β0 S0 w0 β S w tmps hb0 hn x0 r rt
 refine hg' β0 S0 w0 β S w tmps hb0 hn x0 r fun t'=>?_
 simp only [look]
 cases hb:Nat.beq t t' with
 | true =>
  have:=Nat.eq_of_beq_eq_true hb
  subst this
  have ht:=rt t
  rw [hc] at ht
  rw [ht.bl_inv]
  exact zcI _
 | false=>exact rt t'
theorem zkg {E:Env0} {fn:Func} {h0:Heap} {c c':Cfg} {R:AV->Heap->Prop} (t:Nat) {v:AV} {q:Prop} (live:List Nat) (m:Nat) (hc:look c.ts t=v) (hq:frzO c.h v=q) (ho:q) (hm:Nat.ble h0.length m=true)
  (he:cut live m ⟨c.n,c.todo,(t,frz c.h v)::c.ts,share c.h (frzM v)⟩=c') (hg:Good E fn h0 c' R):Good E fn h0 c R:=by
 have hg':=zem live m (Nat.le_of_ble_eq_true hm) (he ▸ hg)
 intro β0 S0 w0 β S w tmps hb0 hn x0 r rt
 have hv:=rt t
 rw [hc] at hv
 obtain ⟨S',⟨x1,r1⟩,d1⟩:=zpv E v c.h β S w _ r hv (by rw [hq];exact ho)
 refine hg' β0 S0 w0 β S' w tmps hb0 hn (x0.trans x1) r1 fun t'=>?_
 simp only [look]
 cases hb:Nat.beq t t' with
 | true =>
  have:=Nat.eq_of_beq_eq_true hb
  subst this
  exact .d _ _ d1
 | false=>exact (rt t').ext x1
theorem zwJ {E:Env0} {fn:Func} {h0:Heap} {c c':Cfg} {R:AV->Heap->Prop} (t b n:Nat) (live:List Nat) (m:Nat) (hc:look c.ts t=.own b n) (hm:Nat.ble h0.length m=true)
  (he:cut live m ⟨c.n,c.todo,(t,.os b n 0 n)::c.ts,c.h⟩=c') (hg:Good E fn h0 c' R):Good E fn h0 c R:=by
 have hg':=zem live m (Nat.le_of_ble_eq_true hm) (he ▸ hg)
 intro β0 S0 w0 β S w tmps hb0 hn x0 r rt
 refine hg' β0 S0 w0 β S w tmps hb0 hn x0 r fun t'=>?_
 simp only [look]
 cases hb:Nat.beq t t' with
 | true =>
  have:=Nat.eq_of_beq_eq_true hb
  subst this
  have ht:=rt t
  rw [hc] at ht
  exact r.own_os ht
 | false=>exact rt t'
theorem zrJ {E:Env0} {fn:Func} {h0:Heap} {c c':Cfg} {R:AV->Heap->Prop} (b i:Nat) (x:Bool) (live:List Nat) (m:Nat) {cs:List AV} (hb:c.h[b]?=some (.box cs)) (hi:cs[i]?=some (.bl x)) (hm:Nat.ble h0.length m=true)
  (he:cut live m ⟨c.n,c.todo,c.ts,c.h.set b (.box (cs.set i (.v (.bool x))))⟩=c') (hg:Good E fn h0 c' R):Good E fn h0 c R:=by
 have hg':=zem live m (Nat.le_of_ble_eq_true hm) (he ▸ hg)
 intro β0 S0 w0 β S w tmps hb0 hn x0 r rt
 have x2:=zfP (β:=β) (S:=S) (w:=w) hb (cs.set i (.v (.bool x)))
 have r2:=r.setBox hb (cs.set i (.v (.bool x))) (fun g' vs' t' e2 e3 e4 e5=>by
  refine ⟨by simpa using e4,fun j x' y hx hy=>?_⟩
  by_cases hij:i=j
  ·subst hij
   rw [List.getElem?_set_self (List.getElem?_eq_some_iff.1 hi).1] at hx
   cases hx
   have:=e5 i (.bl x) y hi hy
   refine ⟨?_,this.2⟩
   rw [this.1.bl_inv]
   exact zcI _
  ·rw [List.getElem?_set_ne hij] at hx
   exact e5 j x' y hx hy)
 exact hg' β0 S0 w0 β S w tmps hb0 hn (x0.trans x2) r2 fun t'=>(rt t').ext x2
theorem zaR {E:Env0} {fn:Func} {h0:Heap} {n:Nat} {todo:List It} {ts ts':TS} {h h':Heap} {R:AV->Heap->Prop} (e1:ts=ts') (e2:h=h') (hg:Good E fn h0 ⟨n,todo,ts',h'⟩ R):Good E fn h0 ⟨n,todo,ts,h⟩ R:=by
 subst e1;subst e2;exact hg
structure St where
 o:List Orc
 p:List Prop
 h:allP p
def orcs:List St->List Orc
 | []=>[]
 | s::r=>s.o++orcs r
def zbg:List St->List Prop
 | []=>[]
 | s::r=>s.p++zbg r
theorem zs1:∀ {a b:List Prop},allP a->allP b->allP (a++b)
 | [],_,_,hb=>hb
 | [_],[],ha,_=>ha
 | [_],_::_,ha,hb=>⟨ha,hb⟩
 | _::q::r,_,ha,hb=>⟨ha.1,zs1 (a:=q::r) ha.2 hb⟩
theorem zaZ:∀ l:List St,allP (zbg l)
 | []=>trivial
 | s::r=>zs1 s.h (zaZ r)
def sb {c b:Bool} (h:c=b):St:=⟨[.b b],[c=b],h⟩
def si {e n:Int} (h:e=n):St:=⟨[.i n],[e=n],h⟩
def se {xs:List (List AV)} {i:Int} {c:List AV} {n:Nat} (h:ElAt xs i c n):St:=⟨[.el c],[ElAt xs i c n],h⟩
def sa {cs:List AV} {i:Int} {n:Nat} {c:List AV} {k:Nat} (h:ArrAt cs i n c k):St:=⟨[.el c],[ArrAt cs i n c k],h⟩
def sy {s:ByteArray} {i n:Int} (h:ByteAt s i n):St:=⟨[.i n],[ByteAt s i n],h⟩
def sc {E:Env0} {f:FuncId} {args:List AV} {r:AV} {h':Heap} (h:zab E f args [] r h'):St:=⟨[.call [] r h'],[zab E f args [] r h'],h⟩
def sl {E:Env0} {f:FuncId} {args:List AV} {hl:Heap} {r:AV} {h':Heap} (lend:List Nat) (h:zab E f args hl r h'):St:=⟨[.call lend r h'],[zab E f args hl r h'],h⟩
def sln {E:Env0} {f:FuncId} {args:List AV} {hl:Heap} {r:AV} {h':Heap} (lend:List Nat) (h:zab E f args hl r h'):St:=⟨[.calln lend r h'],[zab E f args hl r h'],h⟩
def sk {E:Env0} {f:FuncId} {args:List AV} {hl:Heap} {r:AV} {h':Heap} {p:Prop} (hp:p) (lend:List Nat) (h:zab E f args hl r h'):St:=⟨[.call lend r h'],[p/\zab E f args hl r h'],⟨hp,h⟩⟩
theorem conv {E:Env0} {f:FuncId} {args args':List AV} {hl hl':Heap} {r:AV} {h':Heap} (h:zab E f args' hl' r h') (e1:args=args') (e2:hl=hl'):zab E f args hl r h':=by
 subst e1;subst e2;exact h
def sq {p:Prop} (h:p):St:=⟨[],[p],h⟩
def sx (o:Orc) {p:Prop} (h:p):St:=⟨[o],[p],h⟩
def sg {c b:Bool} (h:c=b):St:=⟨[.b b],[c=b/\True],⟨h,trivial⟩⟩
def so {c b:Bool} (h:c=b) (s:St):St:=⟨.b b::s.o,[c=b/\allP s.p],⟨h,s.h⟩⟩
def zbh:List (Nat × List St)->List (Nat × List Orc)
 | []=>[]
 | (i,l)::r=>(i,orcs l)::zbh r
def zps:List (Nat × List St)->List St
 | []=>[]
 | (_,l)::r=>l++zps r
def sd (l:List (Nat × List St)):St:=⟨[.draw (zbh l)],[allP (zbg (zps l))],zaZ _⟩
def zxg (p:Prop) (ts:TS) (h:Heap):Nat->Prop
 | 0=>True
 | n+1=>(p/\ts=ts/\h=h)/\zxg p ts h n
theorem zua {p:Prop} (hp:p) (ts:TS) (h:Heap):∀ n,zxg p ts h n
 | 0=>trivial
 | n+1=>⟨⟨hp,rfl,rfl⟩,zua hp ts h n⟩
def sdm (l:List (Nat × List St)) (n:Nat) (ts:TS) (h:Heap):St:=⟨[.draw (zbh l)],[allP (zbg (zps l))/\zxg (allP (zbg (zps l))) ts h (n+1)],⟨zaZ _,zua (zaZ _) ts h _⟩⟩
theorem walk {E : Env0} (ht : zaL E) (hmix : E.P.follows .mixedOrders = true) {f : FuncId} {fn : Func} {c : Code} {args : List AV} {r y : AV} (hf : E.P.funcs[f]? = some fn) (hb : fn.body = some c) (hname : (fn.name == "runtime.NumGoroutine") = false)
  (hn:Nat.ble args.length fn.ntmps=true) (n:Nat) (l:List St) (hfin:fin (mk E) fn 0 n ⟨fn.ntmps,[.code c],zbU 0 args,[]⟩ (orcs l)=some (zbg l,y,[])) (hr:y=r):zab E f args [] r [] :=
 zhN ht hmix hf hb hname hn n (orcs l) hfin (zaZ l) ⟨hr,rfl⟩
theorem walkH {E : Env0} (ht : zaL E) (hmix : E.P.follows .mixedOrders = true) {f : FuncId} {fn : Func} {c : Code} {args : List AV} {h : Heap} {r y : AV} {H H' : Heap} (hf : E.P.funcs[f]? = some fn) (hb : fn.body = some c) (hname : (fn.name == "runtime.NumGoroutine") = false)
  (hn:Nat.ble args.length fn.ntmps=true) (n:Nat) (l:List St) (hfin:fin (mk E) fn h.length n ⟨fn.ntmps,[.code c],zbU 0 args,h⟩ (orcs l)=some (zbg l,y,H)) (hr:y=r/\H=H'):zab E f args h r H' :=
 zhN ht hmix hf hb hname hn n (orcs l) hfin (zaZ l) hr
def upto (E:Env) (live:List Nat) (m n:Nat) (c:Cfg) (os:List Orc):List Prop × Cfg:=match run E n c os with
 | (q,c',_)=>(q,cut live m c')
theorem zdW {E:Env0} (ht:zaL E) (hmix:E.P.follows .mixedOrders=true) {fn:Func} {R:AV->Heap->Prop} {h0:Heap} {c c':Cfg} (n:Nat) (l:List St) (live:List Nat) (m:Nat) (hm:Nat.ble h0.length m=true)
  (hu:upto (mk E) live m n c (orcs l)=(zbg l,c')) (hg:Good E fn h0 c' R):Good E fn h0 c R:=by
 unfold upto at hu
 have h1:(run (mk E) n c (orcs l)).1=zbg l:=by
  have:=congrArg Prod.fst hu
  exact this
 have h2:cut live m (run (mk E) n c (orcs l)).2.1=c':=congrArg Prod.snd hu
 exact znJ ht hmix n (orcs l) live m hm h1 h2 (zaZ l) hg
theorem zqp {E:Env0} (ht:zaL E) (hmix:E.P.follows .mixedOrders=true) {fn:Func} {R:AV->Heap->Prop} {h0:Heap} {c:Cfg} {y:AV} {H:Heap} {m:Nat} (n:Nat) (l:List St)
  (hfin:fin (mk E) fn m n c (orcs l)=some (zbg l,y,H)) (hR:R y H):Good E fn h0 c (Shut m R) :=
 ziv ht hmix n (orcs l) hfin (zaZ l) hR
theorem zdn {E:Env0} (ht:zaL E) (hmix:E.P.follows .mixedOrders=true) {fn:Func} {R:AV->Heap->Prop} {h0:Heap} {c:Cfg} {y:AV} {H:Heap} (n:Nat) (l:List St)
  (hfin:finK (mk E) fn n c (orcs l)=some (zbg l,y,H)) (hR:R y H):Good E fn h0 c R :=
 zra ht hmix n (orcs l) hfin (zaZ l) hR
theorem zyf {E:Env0} (ht:zaL E) (hmix:E.P.follows .mixedOrders=true) {f:FuncId} {fn:Func} {c:Code} {args:List AV} {h:Heap} {R:AV->Heap->Prop} (hf:E.P.funcs[f]?=some fn) (hb:fn.body=some c)
  (hname : (fn.name == "runtime.NumGoroutine") = false) (hn : Nat.ble args.length fn.ntmps = true) (n : Nat) (l : List St) (live : List Nat) (m : Nat) {c' : Cfg} (hm : Nat.ble h.length m = true)
  (hu:upto (mk E) live m n ⟨fn.ntmps,[.code c],zbU 0 args,h⟩ (orcs l)=(zbg l,c')) (hg:Good E fn h c' R):zcd E f args h R :=
 zaY hf hb hname (Nat.le_of_ble_eq_true hn) (zdW ht hmix n l live m hm hu hg)
theorem zoA {E:Env0} (ht:zaL E) (hmix:E.P.follows .mixedOrders=true) {f:FuncId} {fn:Func} {c:Code} {args:List AV} {h:Heap} {R:AV->Heap->Prop} (hf:E.P.funcs[f]?=some fn) (hb:fn.body=some c)
  (hname : (fn.name == "runtime.NumGoroutine") = false) (hn : Nat.ble args.length fn.ntmps = true) (n : Nat) (l : List St) (live : List Nat) (m : Nat) {c' : Cfg} (hm : Nat.ble h.length m = true)
  (hu:upto (mk E) live m n ⟨fn.ntmps,[.code c],zbU 0 args,h⟩ (orcs l)=(zbg l,c')) (hg:Good E fn h c' (Shut h.length R)):zcd E f args h R :=
 zdX (zaY hf hb hname (Nat.le_of_ble_eq_true hn) (zdW ht hmix n l live m hm hu hg))
end Go.AM
namespace Go.AM
open Go.RowKit
def zn5 (t:TI):Shp->Bool
 | .int _=>match t.kind with|.int _=>Nat.beq t.size 1&&!t.isAgg|_=>false
 | .str=>match t.kind with|.str=>Nat.beq t.size 1&&!t.isAgg|_=>false
 | .bool=>match t.kind with|.bool=>Nat.beq t.size 1&&!t.isAgg|_=>false
 | .other=>false
def flat (T:TypeId->TI):Nat->List Field->List Shp->Bool
 | _,[],[]=>true
 | i, f :: fs, s :: ss => (f.name != "_") && Nat.beq f.offset i && zn5 (T f.type) s && flat T (i + 1) fs ss
 | _,_,_=>false
theorem eqCell {E:Env0} (ht:zaL E) {t:TypeId} {x y:Value} {r:Bool} (d:Nat) (hs:zn5 (E.T t) (shp x)=true) (he:zff x y=some r) (w:World):(Op.equalIn (d+1) t x y).run E.P w=.ok r w:=by
 cases x <;> simp [shp,zn5] at hs
 case bool a =>
  split at hs
  ·rename_i hk
   obtain ⟨i,dd,z,tok⟩:=ht.at_ (t:=t) (by intro h;rw [h] at hk;cases hk)
   cases y <;> simp [zff] at he
   subst he
   have:=tok.bool_ hk
   subst this
   exact run_equalIn_bool' w d t _ _ tok.und
  ·cases hs
 case int k a =>
  split at hs
  ·rename_i k' hk
   obtain ⟨i,dd,z,tok⟩:=ht.at_ (t:=t) (by intro h;rw [h] at hk;cases hk)
   cases y <;> simp [zff] at he
   obtain ⟨rfl,rfl⟩:=he
   have:=tok.int_ hk
   subst this
   exact run_equalIn_int w d t _ _ _ _ tok.und
  ·cases hs
 case string a =>
  split at hs
  ·rename_i hk
   obtain ⟨i,dd,z,tok⟩:=ht.at_ (t:=t) (by intro h;rw [h] at hk;cases hk)
   cases y <;> simp [zff] at he
   subst he
   have:=tok.str_ hk
   subst this
   rw [run_equalIn_string w d t _ _ tok.und,beq_toListBytes]
  ·cases hs
theorem zqm {t:TI} {s:Shp} (h:zn5 t s=true):t.size=1/\t.isAgg=false/\t≠⟨.scalar,0,0,[]⟩:=by
 unfold zn5 at h
 split at h <;> try cases h
 all_goals
  split at h
  ·rename_i hk
   simp only [Bool.and_eq_true,Bool.not_eq_true'] at h
   exact ⟨Nat.eq_of_beq_eq_true h.1,h.2,by intro h';rw [h'] at hk;cases hk⟩
  ·cases h
theorem zof {E:Env0} (ht:zaL E) (d:Nat) (w:World):∀ (fs:List Field) (px py xs ys:List Value) (r:Bool),px.length=py.length->flat E.T px.length fs (xs.map shp)=true->zbI xs ys=some r ->
  (Op.eqFields (d+1) (px++xs).toArray (py++ys).toArray fs).run E.P w=.ok r w
 | [],px,py,xs,ys,r,hp,hf,he=>by
  cases xs with
  | cons x xs=>simp [flat] at hf
  | nil =>
   cases ys <;> simp [zbI] at he
   subst he
   rfl
 | f::fs,px,py,[],ys,r,hp,hf,he=>by simp [flat] at hf
 | f::fs,px,py,x::xs,[],r,hp,hf,he=>by simp [zbI] at he
 | f::fs,px,py,x::xs,y::ys,r,hp,hf,he=>by
  simp only [List.map_cons,flat,Bool.and_eq_true,bne_iff_ne] at hf
  obtain ⟨⟨⟨hn,ho⟩,hs⟩,hrest⟩:=hf
  have ho:=Nat.eq_of_beq_eq_true ho
  simp only [zbI] at he
  split at he
  ·rename_i a b h1 h2
   simp only [Option.some.injEq] at he
   subst he
   obtain ⟨hsz,hagg,hne⟩:=zqm hs
   obtain ⟨i,dd,z,tok⟩:=ht.at_ hne
   have p1:=ziM tok w (px++x::xs) f.offset (by rw [hsz,ho];simp)
   have p2:=ziM tok w (py++y::ys) f.offset (by rw [hsz,ho,hp];simp)
   rw [hsz,ho] at p1
   rw [hsz,ho,hp] at p2
   simp only [List.drop_left,List.take_succ_cons,List.take_zero,zf1,hagg] at p1 p2
   have p3:=eqCell ht d hs h1 w
   have ih:=zof ht d w fs (px++[x]) (py++[y]) xs ys b (by simp [hp]) (by simpa using hrest) h2
   simp only [List.append_assoc,List.singleton_append] at ih
   simp only [Op.eqFields,ne_eq,hn,not_false_eq_true,if_true,Sem.run_bind,ho]
   rw [p1,Result.andThen_ok,hp,p2,Result.andThen_ok]
   simp only [List.headD_cons]
   rw [p3,Result.andThen_ok]
   cases a
   ·rfl
   ·simpa using ih
  ·cases he
theorem zud {E:Env0} (ht:zaL E) {t:TypeId} {fs:Array Field} {ss:List Shp} (hu:E.P.underlying t=some (.struct fs)) (hp:E.P.stoodInHeld t=false) (hg:E.P.eqGuardType E.P.depth t=false) (hf:flat E.T 0 fs.toList ss=true) :
  StructEq E.P t ss:=by
 refine ⟨hg,fun w xs ys r hs he=>?_⟩
 have hfo:E.P.fieldsOf t=fs:=by simp [Program.fieldsOf,hu]
 have h1:=run_equalIn_struct (P:=E.P) w 9999 t xs.toArray ys.toArray (by rw [hfo];exact hu) hp
 rw [hfo] at h1
 have h2:=zof ht 9998 w fs.toList [] [] xs ys r rfl (by rw [hs];exact hf) he
 simp only [List.nil_append] at h2
 unfold Op.equal Op.maxDepth
 rw [h1]
 exact h2
end Go.AM
namespace Go.AM
abbrev Str:=ByteArray
def zcX (l:List UInt8):Str:=⟨l.toArray⟩
abbrev iv (n:Int):AV:=.v (.int .i64 n)
abbrev bv (b:Bool):AV:=.v (.bool b)
abbrev sv (s:Str):AV:=.v (.string s)
def ze8:List Str:=[zcX [],zcX [97],zcX [98],zcX [105,116,39,115],zcX [90,32,122],zcX [126]]
def zbk:List Str:=[zcX [97,97],zcX [98,98],zcX [99,99],zcX [100,100],zcX [101,101],zcX [102,102],zcX [103,103],zcX [104,104]]
def globs (g:Nat):Option (List AV) :=
 match Nat.beq g S.Df with
 | true=>some (ze8.map sv)
 | false=>match Nat.beq g S.C1 with
  | true=>some (zbk.map sv)
  | false=>none
noncomputable def E0:Env0:=⟨Proofs.Tryz.prog,zl0 tabA,globs⟩
theorem E0ok:zaL E0:=zAl zBu
theorem mix0:E0.P.follows .mixedOrders=true:=mix_ok
structure V where
 kind:Int
 int:Int
 text:Str
def V.cells (v:V):List AV:=[iv v.kind,iv v.int,sv v.text]
abbrev V.av (v:V):AV:=.agg v.cells
def V.null:V:=⟨0,0,⟨#[]⟩⟩
mutual
inductive X where
 | mk (kind op:Int) (not:Bool) (val:V) (table name:Str) (args:List X) (sub:List Qy)
inductive Qy where
 | mk (star:Bool) (items:List X) (frm:Str) (wh:List X)
end
def X.kind:X->Int|.mk k _ _ _ _ _ _ _=>k
def X.op:X->Int|.mk _ o _ _ _ _ _ _=>o
def X.not:X->Bool|.mk _ _ n _ _ _ _ _=>n
def X.val:X->V|.mk _ _ _ v _ _ _ _=>v
def X.table:X->Str|.mk _ _ _ _ t _ _ _=>t
def X.name:X->Str|.mk _ _ _ _ _ m _ _=>m
def X.args:X->List X|.mk _ _ _ _ _ _ xs _=>xs
def X.sub:X->List Qy|.mk _ _ _ _ _ _ _ qs=>qs
def Qy.star:Qy->Bool|.mk s _ _ _=>s
def Qy.items:Qy->List X|.mk _ i _ _=>i
def Qy.frm:Qy->Str|.mk _ _ f _=>f
def Qy.wh:Qy->List X|.mk _ _ _ w=>w
@[simp] theorem X.kind_mk (k o:Int) (n:Bool) (v:V) (t m:Str) (xs:List X) (qs:List Qy):(X.mk k o n v t m xs qs).kind=k:=rfl
@[simp] theorem X.op_mk (k o:Int) (n:Bool) (v:V) (t m:Str) (xs:List X) (qs:List Qy):(X.mk k o n v t m xs qs).op=o:=rfl
@[simp] theorem X.not_mk (k o:Int) (n:Bool) (v:V) (t m:Str) (xs:List X) (qs:List Qy):(X.mk k o n v t m xs qs).not=n:=rfl
@[simp] theorem X.val_mk (k o:Int) (n:Bool) (v:V) (t m:Str) (xs:List X) (qs:List Qy):(X.mk k o n v t m xs qs).val=v:=rfl
@[simp] theorem X.table_mk (k o:Int) (n:Bool) (v:V) (t m:Str) (xs:List X) (qs:List Qy):(X.mk k o n v t m xs qs).table=t:=rfl
@[simp] theorem X.name_mk (k o:Int) (n:Bool) (v:V) (t m:Str) (xs:List X) (qs:List Qy):(X.mk k o n v t m xs qs).name=m:=rfl
@[simp] theorem X.args_mk (k o:Int) (n:Bool) (v:V) (t m:Str) (xs:List X) (qs:List Qy):(X.mk k o n v t m xs qs).args=xs:=rfl
@[simp] theorem X.sub_mk (k o:Int) (n:Bool) (v:V) (t m:Str) (xs:List X) (qs:List Qy):(X.mk k o n v t m xs qs).sub=qs:=rfl
@[simp] theorem Qy.star_mk (s:Bool) (i:List X) (f:Str) (w:List X):(Qy.mk s i f w).star=s:=rfl
@[simp] theorem Qy.items_mk (s:Bool) (i:List X) (f:Str) (w:List X):(Qy.mk s i f w).items=i:=rfl
@[simp] theorem Qy.frm_mk (s:Bool) (i:List X) (f:Str) (w:List X):(Qy.mk s i f w).frm=f:=rfl
@[simp] theorem Qy.wh_mk (s:Bool) (i:List X) (f:Str) (w:List X):(Qy.mk s i f w).wh=w:=rfl
mutual
def X.raw:X->List AV
 | .mk k o n v t m xs qs=>[iv k,iv o,bv n,iv v.kind,iv v.int,sv v.text,sv t,sv m,.sl (zad xs),.sl (zal qs)]
def Qy.raw:Qy->List AV
 | .mk s is f w=>[bv s,.sl (zad is),sv f,.sl (zad w)]
def zad:List X->List (List AV)
 | []=>[]
 | x::r=>X.raw x::zad r
def zal:List Qy->List (List AV)
 | []=>[]
 | x::r=>Qy.raw x::zal r
end
def X.cells (x:X):List AV:=[iv x.kind,iv x.op,bv x.not,iv x.val.kind,iv x.val.int,sv x.val.text,sv x.table,sv x.name,.sl (zad x.args),.sl (zal x.sub)]
def Qy.cells (x:Qy):List AV:=[bv x.star,.sl (zad x.items),sv x.frm,.sl (zad x.wh)]
theorem X.raw_eq (x:X):x.raw=x.cells:=by cases x;simp [X.raw,X.cells,X.kind,X.op,X.not,X.val,X.table,X.name,X.args,X.sub]
theorem Qy.raw_eq (x:Qy):x.raw=x.cells:=by cases x;simp [Qy.raw,Qy.cells,Qy.star,Qy.items,Qy.frm,Qy.wh]
theorem zbj:∀ l:List X,zad l=l.map X.cells
 | []=>by simp [zad]
 | x::r=>by simp [zad,zbj r,X.raw_eq]
theorem zeC:∀ l:List Qy,zal l=l.map Qy.cells
 | []=>by simp [zal]
 | x::r=>by simp [zal,zeC r,Qy.raw_eq]
@[simp] theorem zaQ:zad []=[]:=zbj []
@[simp] theorem zaM (x:X) (r:List X):zad (x::r)=x.cells::zad r:=by simp [zbj]
@[simp] theorem zpn (a b:List X):zad (a++b)=zad a++zad b:=by simp [zbj]
@[simp] theorem zdR (a:List X):(zad a).length=a.length:=by simp [zbj]
@[simp] theorem zaS:zal []=[]:=zeC []
@[simp] theorem zaN (x:Qy) (r:List Qy):zal (x::r)=x.cells::zal r:=by simp [zeC]
@[simp] theorem zmd (a:List Qy):(zal a).length=a.length:=by simp [zeC]
@[simp] theorem X.cells_length (x:X):x.cells.length=10:=rfl
@[simp] theorem Qy.cells_length (x:Qy):x.cells.length=4:=rfl
abbrev X.av (x:X):AV:=.agg x.cells
abbrev Qy.av (x:Qy):AV:=.agg x.cells
structure Col where
 name:Str
 type:Int
 notNull:Bool
 key:Bool
def Col.cells (c:Col):List AV:=[sv c.name,iv c.type,bv c.notNull,bv c.key]
abbrev ZC (l:List Col):AV:=.sl (l.map Col.cells)
structure Sch where
 name:Str
 cols:List Col
def Sch.cells (s:Sch):List AV:=[sv s.name,.sl (s.cols.map Col.cells)]
abbrev ZS (l:List Sch):AV:=.sl (l.map Sch.cells)
abbrev Sch.av (s:Sch):AV:=.agg s.cells
structure Rw where
 id:Int
 vals:List V
def Rw.cells (r:Rw):List AV:=[iv r.id,.sl (r.vals.map V.cells)]
abbrev ZW (l:List Rw):AV:=.sl (l.map Rw.cells)
structure Tb where
 sch:Sch
 next:Int
 rows:List Rw
def Tb.cells (t:Tb):List AV:=[sv t.sch.name,.sl (t.sch.cols.map Col.cells),iv t.next,.sl (t.rows.map Rw.cells)]
abbrev Tb.av (t:Tb):AV:=.agg t.cells
structure Fr where
 name:Str
 strict:Bool
 cols:List Col
 vals:List V
def Fr.cells (f:Fr):List AV:=[sv f.name,bv f.strict,.sl (f.cols.map Col.cells),.sl (f.vals.map V.cells)]
abbrev vsl (l:List V):AV:=.sl (l.map V.cells)
abbrev fsl (l:List Fr):AV:=.sl (l.map Fr.cells)
abbrev tsl (l:List Tb):AV:=.sl (l.map Tb.cells)
abbrev xsl (l:List X):AV:=.sl (zad l)
abbrev Pure (f:FuncId) (args:List AV) (r:AV):Prop:=zab E0 f args [] r []
theorem zfy {f : FuncId} {fn : Func} {c : Code} {args : List AV} {r : AV} (hf : E0.P.funcs[f]? = some fn) (hb : fn.body = some c) (hname : (fn.name == "runtime.NumGoroutine") = false) (hn : Nat.ble args.length fn.ntmps = true)
  (n:Nat) (os:List Orc) {q:List Prop} (hfin:fin (mk E0) fn 0 n ⟨fn.ntmps,[.code c],zbU 0 args,[]⟩ os=some (q,r,[])) (hq:allP q):Pure f args r :=
 zhN E0ok mix0 hf hb hname hn n os hfin hq ⟨rfl,rfl⟩
@[simp] theorem V.cells_length (x:V):x.cells.length=3:=rfl
@[simp] theorem Col.cells_length (x:Col):x.cells.length=4:=rfl
@[simp] theorem Sch.cells_length (x:Sch):x.cells.length=2:=rfl
@[simp] theorem Rw.cells_length (x:Rw):x.cells.length=2:=rfl
@[simp] theorem Tb.cells_length (x:Tb):x.cells.length=4:=rfl
@[simp] theorem Fr.cells_length (x:Fr):x.cells.length=4:=rfl
theorem zak {l:List X} {i:Nat} {x:X} (h:l[i]?=some x):ElAt (zad l) (i:Int) x.cells 10 :=
 ⟨by omega,by simp [zbj,h],rfl⟩
theorem zba {l:List Qy} {i:Nat} {x:Qy} (h:l[i]?=some x):ElAt (zal l) (i:Int) x.cells 4 :=
 ⟨by omega,by simp [zeC,h],rfl⟩
theorem zai {α:Type} (f:α->List AV) {l:List α} {i:Nat} {x:α} (h:l[i]?=some x) {n:Nat} (hn:(f x).length=n):ElAt (l.map f) (i:Int) (f x) n :=
 ⟨by omega,by simp [h],hn⟩
theorem zvy {l:List X} {n i:Nat} {x:X} (hn:n=l.length) (h:l[i]?=some x):OwnEl (zad l) n i x.cells :=
 ⟨by simp [hn],by simp [zbj,h]⟩
theorem zjX {α:Type} (f:α->List AV) {l:List α} {n i:Nat} {x:α} (hn:n=l.length) (h:l[i]?=some x):OwnEl (l.map f) n i (f x) :=
 ⟨by simp [hn],by simp [h]⟩
theorem zbw (i:Nat) (h:i < 9223372036854775807):IntKind.i64.wrap ((i:Int)+1)=((i+1:Nat):Int):=by
 rw [IntKind.wrap_i64];omega
theorem zaU {t:Int} {n:Nat} (h1:t=(n:Int)) (h2:n<=9223372036854775807):IntKind.i64.wrap t=(n:Int):=by
 rw [h1,IntKind.wrap_i64];omega
theorem zz0 {c b:Bool} (h:(!c)=b):c=!b:=by cases c <;> cases b <;> simp_all
def pm1:Nat->Int
 | 0=>-1
 | k+1=>(k:Int)
theorem pm1_eq (k:Nat):pm1 k=(k:Int) - 1:=by cases k <;> simp [pm1]
theorem zoV (k:Nat) (h:k < 9223372036854775806):IntKind.i64.wrap ((k:Int) - 1)=pm1 k:=by
 rw [pm1_eq,IntKind.wrap_i64];omega
theorem zcN {α:Type} {l:List α} {i:Nat} {x:α} (h:l[i]?=some x):l.drop i=x::l.drop (i+1):=by
 obtain ⟨h1,h2⟩:=List.getElem?_eq_some_iff.mp h
 rw [List.drop_eq_getElem_cons h1,h2]
theorem zfM {α:Type} {l:List α} {i:Nat} {x:α} (h:l[i]?=some x):i < l.length:=(List.getElem?_eq_some_iff.mp h).1
theorem zbK {α:Type} {l:List α} {i:Nat} (h:i < l.length):∃ x,l[i]?=some x:=⟨l[i],by simp [h]⟩
structure Tp where
 l:List Int
 pos:Nat
 ok:l.length<=500
def Tp.cells (t:Tp):List AV:=[.sl (t.l.map fun n=>[iv n]),iv t.pos]
structure Pl where
 frs:List Fr
 tbs:List Sch
def Pl.cells (p:Pl):List AV:=[.sl (p.frs.map Fr.cells),.sl (p.tbs.map Sch.cells)]
abbrev Pl.av (p:Pl):AV:=.agg p.cells
abbrev ssl (l:List Str):AV:=.sl (l.map fun s=>[sv s])
structure Se where
 col:Str
 ex:X
def Se.cells (s:Se):List AV:=sv s.col::s.ex.cells
abbrev ZE (l:List Se):AV:=.sl (l.map Se.cells)
structure Ac where
 kind:Int
 table:Str
 rows:List (List X)
 query:List Qy
 sets:List Se
 wh:List X
 text:Str
def Ac.cells (a:Ac):List AV:=[iv a.kind,sv a.table,.sl (a.rows.map fun r=>[.sl (zad r)]),.sl (zal a.query),.sl (a.sets.map Se.cells),.sl (zad a.wh),sv a.text]
abbrev ZA (l:List Ac):AV:=.sl (l.map Ac.cells)
abbrev Ac.av (a:Ac):AV:=.agg a.cells
structure Rk where
 table:Str
 col:Str
 low:Int
 high:Int
def Rk.cells (r:Rk):List AV:=[sv r.table,sv r.col,iv r.low,iv r.high]
abbrev ZR (l:List Rk):AV:=.sl (l.map Rk.cells)
structure Tg where
 name:Str
 table:Str
 before:Bool
 event:Int
 of:List Str
 each:Bool
 prec:List Str
 foll:List Str
 rank:List Rk
 when_:List X
 acts:List Ac
def Tg.cells (t:Tg):List AV:=[sv t.name,sv t.table,bv t.before,iv t.event,ssl t.of,bv t.each,ssl t.prec,ssl t.foll,.sl (t.rank.map Rk.cells),.sl (zad t.when_),.sl (t.acts.map Ac.cells)]
abbrev ZG (l:List Tg):AV:=.sl (l.map Tg.cells)
abbrev Tg.av (t:Tg):AV:=.agg t.cells
@[simp] theorem Se.cells_length (x:Se):x.cells.length=11:=rfl
@[simp] theorem Ac.cells_length (x:Ac):x.cells.length=7:=rfl
@[simp] theorem Rk.cells_length (x:Rk):x.cells.length=4:=rfl
@[simp] theorem Tg.cells_length (x:Tg):x.cells.length=11:=rfl
theorem zbv:StructEq E0.P Ty.Value [.int .i64,.int .i64,.str] :=
 zud E0ok (fs:=E0.P.fieldsOf Ty.Value) kr kr kr kr
noncomputable def runF (fn:Func) (args:List AV) (h:Heap) (os:List Orc):Option (List Prop × AV × Heap) :=
 match fn.body, (fn.name == "runtime.NumGoroutine"), Nat.ble args.length fn.ntmps with
 | some c,false,true=>fin (mk E0) fn h.length 3000 ⟨fn.ntmps,[.code c],zbU 0 args,h⟩ os
 | _,_,_=>none
noncomputable def zl3 (fn:Func) (args:List AV) (h:Heap) (live:List Nat) (m:Nat) (os:List Orc):Option (List Prop × Cfg) :=
 match fn.body, (fn.name == "runtime.NumGoroutine"), Nat.ble args.length fn.ntmps, Nat.ble h.length m with
 | some c,false,true,true=>some (upto (mk E0) live m 3000 ⟨fn.ntmps,[.code c],zbU 0 args,h⟩ os)
 | _,_,_,_=>none
noncomputable def zn7 (h0:Heap) (live:List Nat) (m:Nat) (c:Cfg) (os:List Orc):Option (List Prop × Cfg) :=
 match Nat.ble h0.length m with
 | true=>some (upto (mk E0) live m 3000 c os)
 | false=>none
theorem wk {f:FuncId} {fn:Func} {args:List AV} {h H:Heap} {r:AV} (hf:E0.P.funcs[f]?=some fn) (l:List St) (hfin:runF fn args h (orcs l)=some (zbg l,r,H)):zab E0 f args h r H:=by
 unfold runF at hfin
 split at hfin
 ·rename_i c hb hn ha
  exact zhN E0ok mix0 hf hb hn ha 3000 (orcs l) hfin (zaZ l) ⟨rfl,rfl⟩
 ·cases hfin
theorem wkc {f:FuncId} {fn:Func} {args:List AV} {h:Heap} {R:AV->Heap->Prop} {c':Cfg} (hf:E0.P.funcs[f]?=some fn) (l:List St) (live:List Nat) (m:Nat) (hu:zl3 fn args h live m (orcs l)=some (zbg l,c'))
  (hg:Good E0 fn h c' (Shut h.length R)):zcd E0 f args h R:=by
 unfold zl3 at hu
 split at hu
 ·rename_i c hb hn ha hm
  exact zoA E0ok mix0 hf hb hn ha 3000 l live m hm (Option.some.inj hu) hg
 ·cases hu
theorem wkl {fn:Func} {R:AV->Heap->Prop} {h0:Heap} {c c':Cfg} (l:List St) (live:List Nat) (m:Nat) (hu:zn7 h0 live m c (orcs l)=some (zbg l,c')) (hg:Good E0 fn h0 c' R):Good E0 fn h0 c R:=by
 unfold zn7 at hu
 split at hu
 ·rename_i hm
  exact zdW E0ok mix0 3000 l live m hm (Option.some.inj hu) hg
 ·cases hu
theorem wkr {fn:Func} {h0:Heap} {c:Cfg} {r:AV} {H:Heap} {m:Nat} (l:List St) (hfin:fin (mk E0) fn m 3000 c (orcs l)=some (zbg l,r,H)):Good E0 fn h0 c (Shut m fun y h=>y=r/\h=H) :=
 zqp E0ok mix0 3000 l hfin ⟨rfl,rfl⟩
noncomputable def runFK (fn:Func) (args:List AV) (h:Heap) (os:List Orc):Option (List Prop × AV × Heap) :=
 match fn.body, (fn.name == "runtime.NumGoroutine"), Nat.ble args.length fn.ntmps with
 | some c,false,true=>finK (mk E0) fn 3000 ⟨fn.ntmps,[.code c],zbU 0 args,h⟩ os
 | _,_,_=>none
theorem wkK {f:FuncId} {fn:Func} {args:List AV} {h H:Heap} {r:AV} (hf:E0.P.funcs[f]?=some fn) (l:List St) (hfin:runFK fn args h (orcs l)=some (zbg l,r,H)):zab E0 f args h r H:=by
 unfold runFK at hfin
 split at hfin
 ·rename_i c hb hn ha
  exact zuy E0ok mix0 hf hb hn ha 3000 (orcs l) hfin (zaZ l) ⟨rfl,rfl⟩
 ·cases hfin
def pickS (l:List (Nat × List St)) (i:Nat):List St:=match l with
 | []=>[]
 | (j,s)::r=>match Nat.beq j i with
  | true=>s
  | false=>pickS r i
def pickL (l:List (Nat × List St)):List Nat->List St
 | []=>[]
 | i::r=>pickS l i++pickL l r
def zxh (l:List (Nat × List St)) (ts:TS) (h:Heap):List (List Nat)->Prop
 | []=>True
 | o::r=>(allP (zbg (pickL l o))/\ts=ts/\h=h)/\zxh l ts h r
theorem zub (l:List (Nat × List St)) (ts:TS) (h:Heap):∀ o,zxh l ts h o
 | []=>trivial
 | _::r=>⟨⟨zaZ _,rfl,rfl⟩,zub l ts h r⟩
def sdp (l:List (Nat × List St)) (os:List (List Nat)) (ts:TS) (h:Heap):St:=⟨[.draw (zbh l)],[allP (zbg (zps l))/\zxh l ts h os],⟨zaZ _,zub l ts h os⟩⟩
theorem wkrS {fn:Func} {h0:Heap} {c:Cfg} {r y:AV} {H H':Heap} {m:Nat} (l:List St) (hfin:fin (mk E0) fn m 3000 c (orcs l)=some (zbg l,y,H)) (e:y=r/\H=H'):Good E0 fn h0 c (Shut m fun y h=>y=r/\h=H'):=by
 obtain ⟨rfl,rfl⟩:=e
 exact wkr l hfin
theorem owed {p:Prop} (h:p:=by first|assumption|(simp;done)|(simp;omega)|omega|rfl|(refine ⟨⟨?_⟩,?_⟩ <;> first|(simp;done)|(simp;omega)|omega)|(refine ⟨⟨?_⟩,?_,?_⟩ <;> first|(simp;done)|(simp;omega)|omega)|(refine ⟨?_,?_,?_⟩ <;> first|(simp;done)|(simp;omega)|omega)|(refine ⟨?_,⟨?_⟩,?_,?_⟩ <;> first|(simp;done)|(simp;omega)|omega)|(constructor <;> first|(simp;done)|(simp;omega)|omega|(simp at *;omega))):p:=h
def sqx (p:Prop) (h:p:=by first|assumption|(simp;done)|(simp;omega)|omega|rfl|(refine ⟨⟨?_⟩,?_⟩ <;> first|(simp;done)|(simp;omega)|omega)|(refine ⟨⟨?_⟩,?_,?_⟩ <;> first|(simp;done)|(simp;omega)|omega)|(refine ⟨?_,?_,?_⟩ <;> first|(simp;done)|(simp;omega)|omega)|(refine ⟨?_,⟨?_⟩,?_,?_⟩ <;> first|(simp;done)|(simp;omega)|omega)|(constructor <;> first|(simp;done)|(simp;omega)|omega|(simp at *;omega))):St:=sq h
def skx (p:Prop) {E:Env0} {f:FuncId} {args:List AV} {hl:Heap} {r:AV} {h':Heap} (lend:List Nat) (h:zab E f args hl r h') (hp:p:=by first|assumption|(simp;done)|(simp;omega)|omega|rfl|(refine ⟨⟨?_⟩,?_⟩ <;> first|(simp;done)|(simp;omega)|omega)|(refine ⟨⟨?_⟩,?_,?_⟩ <;> first|(simp;done)|(simp;omega)|omega)|(refine ⟨?_,?_,?_⟩ <;> first|(simp;done)|(simp;omega)|omega)|(refine ⟨?_,⟨?_⟩,?_,?_⟩ <;> first|(simp;done)|(simp;omega)|omega)|(constructor <;> first|(simp;done)|(simp;omega)|omega|(simp at *;omega))):St:=sk hp lend h
theorem Zih {σ:Type} {Q:σ->Prop} {D:Prop} {E:Env0} {fn:Func} {h0:Heap} {c:σ->Cfg} {a b:Cfg} (h:∃ s,Q s/\D/\∀ R,Good E fn h0 (c s) R->Good E fn h0 a R) (k:∀ R,Good E fn h0 a R->Good E fn h0 b R):∃ s,Q s/\D/\∀ R,Good E fn h0 (c s) R->Good E fn h0 b R:=by
 obtain ⟨s,q,d,g⟩:=h
 exact ⟨s,q,d,fun R r=>k R (g R r)⟩
theorem zlp {P:Nat->Prop} (n:Nat) (s:∀ i,i < n->P (i+1)->P i) (z:P n:=by first|exact fun a _ hI _=>⟨a,hI,by simp,fun R hg=>hg⟩|exact fun _ hI _=>⟨hI,by simp,fun R hg=>hg⟩|exact fun _ hI _=>.inl ⟨hI,by simp,fun R hg=>hg⟩|exact fun a _ hI _=>.inl ⟨a,hI,by simp,fun R hg=>hg⟩|exact fun a b _ hI _=>⟨a,b,hI,by simp,fun R hg=>hg⟩|exact fun a b _ hI _=>.inl ⟨a,b,hI,by simp,fun R hg=>hg⟩) (g:∀ i,n < i->P i:=by intros;omega):∀ i,P i:=by
 intro i
 by_cases h:n < i
 ·exact g i h
 ·obtain ⟨k,hk⟩:∃ k,i+k=n:=⟨n - i,by omega⟩
  clear h
  induction k generalizing i with
  | zero =>
   have e:i=n:=by omega
   rw [e]
   exact z
  | succ k ih=>exact s i Zo (ih (i+1) Zo)
theorem zlq {α:Type} {l:List α} {i:Nat} (m:Nat) (hi:i < l.length) (hw:i < 9223372036854775807:=by first|omega|(simp only [zac,Few] at *;omega)) (hm:m=l.length:=by simp):∃ x,l[i]?=some x/\decide (((i:Nat):Int) < ((m:Nat):Int))=true/\IntKind.i64.wrap (((i:Nat):Int)+1)=((i+1:Nat):Int):=by
 obtain ⟨x,hx⟩:=zbK hi
 refine ⟨x,hx,?_,zbw i hw⟩
 rw [hm];simp;omega
theorem zie1 {Q D:Prop} {E:Env0} {fn:Func} {h0:Heap} {c a b:Cfg} {α:Type} {F:α->AV->Heap->Prop} (h:(Q/\D/\∀ R,Good E fn h0 c R->Good E fn h0 a R)\/∃ r,Good E fn h0 a (F r)) (k:∀ R,Good E fn h0 a R->Good E fn h0 b R):(Q/\D/\∀ R,Good E fn h0 c R->Good E fn h0 b R)\/∃ r,Good E fn h0 b (F r) :=
 h.elim (fun ⟨q,d,g⟩=>.inl ⟨q,d,fun R r=>k R (g R r)⟩) fun ⟨r,g⟩=>.inr ⟨r,k _ g⟩
theorem zie2 {Q D:Prop} {E:Env0} {fn:Func} {h0:Heap} {c a b:Cfg} {α:Type} {P:α->Prop} {F:α->AV->Heap->Prop} (h:(Q/\D/\∀ R,Good E fn h0 c R->Good E fn h0 a R)\/∃ r,P r/\Good E fn h0 a (F r)) (k:∀ R,Good E fn h0 a R->Good E fn h0 b R):(Q/\D/\∀ R,Good E fn h0 c R->Good E fn h0 b R)\/∃ r,P r/\Good E fn h0 b (F r) :=
 h.elim (fun ⟨q,d,g⟩=>.inl ⟨q,d,fun R r=>k R (g R r)⟩) fun ⟨r,p,g⟩=>.inr ⟨r,p,k _ g⟩
theorem zie3 {Q D:Prop} {E:Env0} {fn:Func} {h0:Heap} {c a b:Cfg} {P:Prop} {F:AV->Heap->Prop} (h:(Q/\D/\∀ R,Good E fn h0 c R->Good E fn h0 a R)\/(P/\Good E fn h0 a F)) (k:∀ R,Good E fn h0 a R->Good E fn h0 b R):(Q/\D/\∀ R,Good E fn h0 c R->Good E fn h0 b R)\/(P/\Good E fn h0 b F) :=
 h.elim (fun ⟨q,d,g⟩=>.inl ⟨q,d,fun R r=>k R (g R r)⟩) fun ⟨p,g⟩=>.inr ⟨p,k _ g⟩
set_option linter.defProp false in
def zsl:=And.intro @X.av.eq_1 (And.intro @Qy.av.eq_1 (And.intro @V.av.eq_1 (And.intro @Tb.av.eq_1 (And.intro @Sch.av.eq_1 (And.intro @Pl.av.eq_1 (And.intro @xsl.eq_1 (And.intro @fsl.eq_1 (And.intro @vsl.eq_1 (And.intro @tsl.eq_1 (And.intro @List.map_append.{0,0} (And.intro @List.map_cons.{0,0} (And.intro @List.map_nil.{0,0} (And.intro @V.cells.eq_1 (And.intro @Col.cells.eq_1 (And.intro @Rw.cells.eq_1 (And.intro @Tb.cells.eq_1 (And.intro @Fr.cells.eq_1 (And.intro @Sch.cells.eq_1 (And.intro @Pl.cells.eq_1 (And.intro @zpn (And.intro @zaM (And.intro @zaQ (And.intro @zaN (And.intro @zaS (And.intro @X.cells.eq_1 (And.intro @Qy.cells.eq_1 (And.intro @X.args_mk (And.intro @X.sub_mk (And.intro @Qy.items_mk @Qy.wh_mk)))))))))))))))))))))))))))))
def sqA (xs ys:List (List AV)) (n k sz:Nat) (h:AllLen ys k/\n=xs.length/\((xs.length+ys.length) * sz).le 140737488355328:=by first|assumption|(refine ⟨⟨?_⟩,?_,?_⟩ <;> first|(simp;done)|(simp;omega)|omega)|(simp;done)|(simp;omega)):St:=sq h
def getS:TS->Nat->AV
 | [],_=>.un
 | (j,x)::r,k=>match Nat.beq j k with|true=>x|false=>getS r k
def setS:TS->Nat->AV->TS
 | [],_,_=>[]
 | (j,x)::r,k,v=>match Nat.beq j k with|true=>(j,v)::r|false=>(j,x)::setS r k v
def getB:Heap->Nat->Blk
 | [],_=>.box []
 | x::_,0=>x
 | _::r,k+1=>getB r k
def setB:Heap->Nat->Blk->Heap
 | [],_,_=>[]
 | _::r,0,y=>y::r
 | x::r,k+1,y=>x::setB r k y
theorem zvC:∀ (ts:TS) (k:Nat),setS ts k (getS ts k)=ts
 | [],_=>rfl
 | (j,x)::r,k=>by
  cases h:Nat.beq j k
  ·simp only [setS,getS,h,zvC r k]
  ·simp only [setS,getS,h]
theorem zqV:∀ (h:Heap) (k:Nat),setB h k (getB h k)=h
 | [],_=>rfl
 | _::_,0=>rfl
 | _::r,k+1=>by simp only [setB,getB,zqV r k]
theorem zaE {E:Env0} {fn:Func} {h0:Heap} {c:Cfg} {R:AV->Heap->Prop} {e:TypeId} {ys:List (List AV)} {sh:Bool} {m:Nat} (k b:Nat) (xs:List (List AV)) (hg:Good E fn h0 c R) (h1:getS c.ts k=.own b m:=by rfl) (h2:getB c.h b=.row e ys sh:=by rfl) (he:xs=ys) (hm:ys.length=m):Good E fn h0 ⟨c.n,c.todo,setS c.ts k (.own b xs.length),setB c.h b (.row e xs sh)⟩ R:=by
 subst he
 rw [hm,← h1,← h2,zvC,zqV]
 exact hg
theorem good_rowB {E:Env0} {fn:Func} {h0:Heap} {c:Cfg} {R:AV->Heap->Prop} {e:TypeId} {ys:List (List AV)} {sh:Bool} (b:Nat) (xs:List (List AV)) (hg:Good E fn h0 c R) (h2:getB c.h b=.row e ys sh:=by rfl) (he:xs=ys):Good E fn h0 ⟨c.n,c.todo,c.ts,setB c.h b (.row e xs sh)⟩ R:=by
 subst he
 rw [← h2,zqV]
 exact hg
def cmpI (a b:Int):Int:=if a < b then -1 else if b < a then 1 else 0
def ltS (a b:Str):Bool:=Op.bytesLess a.toList b.toList
def eqS (a b:Str):Bool:=a.toList==b.toList
def cmpS (a b:Str):Int:=if ltS a b then -1 else if !(ltS a b || eqS a b) then 1 else 0
theorem zcP (n:Int):Pure S.BW [iv n] (bv (n != n)) :=
 zfy At.BW rfl kr kr 100 [] (q:=[]) kr trivial
theorem zce (n:Str):Pure S.Bu [sv n] (bv (!(n.toList==n.toList))) :=
 zfy At.Bu rfl kr kr 100 [] (q:=[]) kr trivial
theorem zob (a b:Int):Pure S.Cs [iv a,iv b] (iv (cmpI a b)):=by
 unfold cmpI
 by_cases h1:a < b
 ·rw [if_pos h1]
  exact zfy At.Cs rfl kr kr 200 [.call [] (bv (a != a)) [],.call [] (bv (b != b)) [],.b false,.b false,.b true]
   (q:=[Pure S.BW [iv a] (bv (a != a)),Pure S.BW [iv b] (bv (b != b)),(a != a)=false,(b != b)=false,decide (a < b)=true]) kr
   ⟨zcP a,zcP b,by simp,by simp,by simpa [allP] using h1⟩
 ·rw [if_neg h1]
  by_cases h2:b < a
  ·rw [if_pos h2]
   exact zfy At.Cs rfl kr kr 200 [.call [] (bv (a != a)) [],.call [] (bv (b != b)) [],.b false,.b false,.b false,.b true]
    (q:=[Pure S.BW [iv a] (bv (a != a)),Pure S.BW [iv b] (bv (b != b)),(a != a)=false,(b != b)=false,decide (a < b)=false,decide (b < a)=true]) kr
    ⟨zcP a,zcP b,by simp,by simp,by simpa using h1,by simpa [allP] using h2⟩
  ·rw [if_neg h2]
   exact zfy At.Cs rfl kr kr 200 [.call [] (bv (a != a)) [],.call [] (bv (b != b)) [],.b false,.b false,.b false,.b false]
    (q:=[Pure S.BW [iv a] (bv (a != a)),Pure S.BW [iv b] (bv (b != b)),(a != a)=false,(b != b)=false,decide (a < b)=false,decide (b < a)=false]) kr
    ⟨zcP a,zcP b,by simp,by simp,by simpa using h1,by simpa [allP] using h2⟩
theorem zfS (a b:Str):Pure S.Ck [sv a,sv b] (iv (cmpS a b)):=by
 unfold cmpS ltS eqS
 cases h1:Op.bytesLess a.toList b.toList
 ·rw [if_neg Zs]
  cases h2:(!(Op.bytesLess a.toList b.toList || a.toList==b.toList))
  ·rw [h1] at h2
   rw [h2,if_neg Zs]
   exact zfy At.Ck rfl kr kr 1500 ([.call [] (bv (!(a.toList==a.toList))) [],.call [] (bv (!(b.toList==b.toList))) [],.b false,.b false,.b false,.b false]) (q:=[zab E0 S.Bu [AV.v (Value.string a)] [] (AV.v (Value.bool !ByteArray.toList a==ByteArray.toList a)) [],zab E0 S.Bu [AV.v (Value.string b)] [] (AV.v (Value.bool !ByteArray.toList b==ByteArray.toList b)) [],(!ByteArray.toList a==ByteArray.toList a)=false,(!ByteArray.toList b==ByteArray.toList b)=false,Op.bytesLess (ByteArray.toList a) (ByteArray.toList b)=false,(!(Op.bytesLess (ByteArray.toList a) (ByteArray.toList b) || ByteArray.toList a==ByteArray.toList b))=false]) kr ⟨zce a,zce b,by simp,by simp,h1,by simp only [allP];rw [h1];exact h2⟩
  ·rw [h1] at h2
   rw [h2,if_pos rfl]
   exact zfy At.Ck rfl kr kr 1500 ([.call [] (bv (!(a.toList==a.toList))) [],.call [] (bv (!(b.toList==b.toList))) [],.b false,.b false,.b false,.b true]) (q:=[zab E0 S.Bu [AV.v (Value.string a)] [] (AV.v (Value.bool !ByteArray.toList a==ByteArray.toList a)) [],zab E0 S.Bu [AV.v (Value.string b)] [] (AV.v (Value.bool !ByteArray.toList b==ByteArray.toList b)) [],(!ByteArray.toList a==ByteArray.toList a)=false,(!ByteArray.toList b==ByteArray.toList b)=false,Op.bytesLess (ByteArray.toList a) (ByteArray.toList b)=false,(!(Op.bytesLess (ByteArray.toList a) (ByteArray.toList b) || ByteArray.toList a==ByteArray.toList b))=true]) kr ⟨zce a,zce b,by simp,by simp,h1,by simp only [allP];rw [h1];exact h2⟩
 ·rw [if_pos rfl]
  exact zfy At.Ck rfl kr kr 1500 ([.call [] (bv (!(a.toList==a.toList))) [],.call [] (bv (!(b.toList==b.toList))) [],.b false,.b false,.b true]) (q:=[zab E0 S.Bu [AV.v (Value.string a)] [] (AV.v (Value.bool !ByteArray.toList a==ByteArray.toList a)) [],zab E0 S.Bu [AV.v (Value.string b)] [] (AV.v (Value.bool !ByteArray.toList b==ByteArray.toList b)) [],(!ByteArray.toList a==ByteArray.toList a)=false,(!ByteArray.toList b==ByteArray.toList b)=false,Op.bytesLess (ByteArray.toList a) (ByteArray.toList b)=true]) kr ⟨zce a,zce b,by simp,by simp,h1⟩
def orI:List Int->Int
 | []=>0
 | x::r=>if x=0 then orI r else x
abbrev isl (l:List Int):AV:=.sl (l.map fun n=>[iv n])
noncomputable def L_Or (l:List Int) (i:Nat):Cfg:=zan B.CH 0 [(3,iv 0),(6,.sl (l.map fun n=>[iv n])),(7,iv ((l.map fun n=>[iv n]).length:Nat)),(8,iv (i:Nat))] []
theorem zyk (l:List Int) (hl:l.length < 9223372036854775807):∀ (k i:Nat),i+k=l.length->Good E0 B.CH [] (L_Or l i) (Shut 0 fun r h=>r=iv (orI (l.drop i))/\h=[]):=by
 intro k
 induction k with
 | zero =>
  intro i hi
  refine zaa ?_
  refine ziv E0ok mix0 1500 ([.b false]) (q:=[decide ((i:Int) < (↑(List.map (fun n=>[iv n]) l).length:Int))=false]) (y:=iv 0) (H:=[]) kr ?_ ⟨?_,rfl⟩
  ·simp [allP];omega
  ·rw [List.drop_of_length_le Zo];rfl
 | succ k ih =>
  intro i hi
  obtain ⟨x,hx⟩:=zbK (l:=l) (i:=i) Zo
  have hlt:=zfM hx
  refine zaa ?_
  rw [zcN hx,orI]
  by_cases h0:x=0
  ·rw [if_pos h0]
   exact znJ E0ok mix0 1500 ([.b true,.el [iv x],.b false,.i ((i+1:Nat):Int)]) [3,6,7,8] 0 (q:=[decide ((i:Int) < (↑(List.map (fun n=>[iv n]) l).length:Int))=true,ElAt (List.map (fun n=>[iv n]) l) (i:Int) [AV.v (Value.int IntKind.i64 x)] (1:Nat),(x != (0:Int))=false,IntKind.i64.wrap ((i:Int)+(1:Int))=(↑(i+(1:Nat)):Int)]) kr kr kr ⟨by simp;omega,zai (fun n=>[iv n]) hx rfl,by simp [h0],zbw i Zo⟩ (ih (i+1) Zo)
  ·rw [if_neg h0]
   exact ziv E0ok mix0 1500 ([.b true,.el [iv x],.b true]) (q:=[decide ((i:Int) < (↑(List.map (fun n=>[iv n]) l).length:Int))=true,ElAt (List.map (fun n=>[iv n]) l) (i:Int) [AV.v (Value.int IntKind.i64 x)] (1:Nat),(x != (0:Int))=true]) (y:=iv x) (H:=[]) kr ⟨by simp;omega,zai (fun n=>[iv n]) hx rfl,by simpa [allP] using h0⟩ ⟨rfl,rfl⟩
theorem ztG (l:List Int) (hl:l.length < 9223372036854775807):Pure S.CH [.sl (l.map fun n=>[iv n])] (iv (orI l)) :=
 zxz E0ok mix0 At.CH rfl kr kr 1500 ([]) [3,6,7,8] 0 (q:=[]) kr kr kr trivial (zyk l hl l.length 0 Zo)
def cmpV (a b:V):Int:=orI [cmpI a.kind b.kind,cmpI a.int b.int,cmpS a.text b.text]
def okB (c:Nat):Bool:=!(decide ((c:Int) < 32))&&!(decide ((126:Int) < c))
def zyx (l:List UInt8):Bool:=match l with
 | []=>true
 | c::r=>okB c.toNat&&zyx r
def plainS (s:Str):Bool:=zyx s.data.toList&&decide ((s.size:Int)<=64)
abbrev V.small (v:V):Prop:=v.text.size < 9223372036854775807
theorem zqW:(⟨#[]⟩:Str).size < 9223372036854775807:=by decide
def zyY (v:V):Bool :=
 bif v.kind==(0:Int) then
  v.kind==(0:Int)&&(v.int==(0:Int)&&(v.text==ByteArray.mk #[]&&true))
 else
  bif v.kind==(1:Int) then
   ByteArray.toList v.text==Zs0.toList
  else
   bif v.kind==(2:Int) then
    bif v.int==(0:Int) then
     ByteArray.toList v.text==Zs0.toList
    else
     bif v.int==(1:Int) then
      ByteArray.toList v.text==Zs0.toList
     else
      false
   else
    bif v.kind==(3:Int) then
     bif v.int==(0:Int) then
      plainS v.text
     else
      false
    else
     false
def zkW (v:V):Bool :=
 bif zyY v then
  bif v.kind==2 then
   true
  else
   v.kind==(0:Int)
 else
  false
def lnot (v:V):V × Bool :=
 bif !zkW v then
  (V.mk 0 0 Zs0,false)
 else
  bif v.kind==0 then
   (v,true)
  else
   (V.mk (2:Int) (if (v.int==(0:Int))=true then (1:Int) else (0:Int)) Zs0,true)
def zwQ (a b:V):V :=
 bif a.kind==2&&((a.int==if false=true then 1 else 0)&&(a.text==ByteArray.mk #[]&&true)) then
  V.mk 2 (if false=true then 1 else 0) Zs0
 else
  bif b.kind==2&&((b.int==if false=true then 1 else 0)&&(b.text==ByteArray.mk #[]&&true)) then
   V.mk 2 (if false=true then 1 else 0) Zs0
  else
   bif a.kind==0 then
    V.mk 0 0 Zs0
   else
    bif b.kind==0 then
     V.mk 0 0 Zs0
    else
     V.mk 2 (if true=true then 1 else 0) Zs0
def land (a b:V):V × Bool :=
 bif !zkW a then
  (V.mk 0 0 Zs0,false)
 else
  bif !zkW b then
   (V.mk 0 0 Zs0,false)
  else
   (zwQ a b,true)
def lor (a b:V):V × Bool :=
 bif !zkW a then
  (V.mk 0 0 Zs0,false)
 else
  bif !zkW b then
   (V.mk 0 0 Zs0,false)
  else
   ((lnot (zwQ (lnot a).fst (lnot b).fst)).fst,(lnot (zwQ (lnot a).fst (lnot b).fst)).snd)
def isTrue (a:V):Bool :=
 a.kind==(2:Int)&&((a.int==if true=true then (1:Int) else (0:Int))&&(a.text==ByteArray.mk #[]&&true))
def aAdd (a b:Int):Int × Bool :=
 bif decide (0 < b) then
  bif decide (IntKind.i64.wrap (9223372036854775807 - b) < a) then
   (0,false)
  else
   bif decide (b < 0) then
    bif decide (a < IntKind.i64.wrap (-9223372036854775808 - b)) then
     (0,false)
    else
     (IntKind.i64.wrap (a+b),true)
   else
    (IntKind.i64.wrap (a+b),true)
 else
  bif decide (b < 0) then
   bif decide (a < IntKind.i64.wrap (-9223372036854775808 - b)) then
    (0,false)
   else
    (IntKind.i64.wrap (a+b),true)
  else
   (IntKind.i64.wrap (a+b),true)
def aSub (a b:Int):Int × Bool :=
 bif decide (b < 0) then
  bif decide (IntKind.i64.wrap (9223372036854775807+b) < a) then
   (0,false)
  else
   bif decide (0 < b) then
    bif decide (a < IntKind.i64.wrap (-9223372036854775808+b)) then
     (0,false)
    else
     (IntKind.i64.wrap (a - b),true)
   else
    (IntKind.i64.wrap (a - b),true)
 else
  bif decide (0 < b) then
   bif decide (a < IntKind.i64.wrap (-9223372036854775808+b)) then
    (0,false)
   else
    (IntKind.i64.wrap (a - b),true)
  else
   (IntKind.i64.wrap (a - b),true)
def aMul (a b:Int):Int × Bool :=
 bif a==0 then
  (0,true)
 else
  bif b==0 then
   (0,true)
  else
   bif a==-9223372036854775808 then
    bif b==-1 then
     (0,false)
    else
     bif b==-9223372036854775808 then
      bif a==-1 then
       (0,false)
      else
       bif IntKind.i64.wrap ((IntKind.i64.wrap (a * b)).tdiv b) != a then
        (0,false)
       else
        (IntKind.i64.wrap (a * b),true)
     else
      bif IntKind.i64.wrap ((IntKind.i64.wrap (a * b)).tdiv b) != a then
       (0,false)
      else
       (IntKind.i64.wrap (a * b),true)
   else
    bif b==-9223372036854775808 then
     bif a==-1 then
      (0,false)
     else
      bif IntKind.i64.wrap ((IntKind.i64.wrap (a * b)).tdiv b) != a then
       (0,false)
      else
       (IntKind.i64.wrap (a * b),true)
    else
     bif IntKind.i64.wrap ((IntKind.i64.wrap (a * b)).tdiv b) != a then
      (0,false)
     else
      (IntKind.i64.wrap (a * b),true)
def aDiv (a b:Int):Int × Bool :=
 bif b==0 then
  (0,false)
 else
  bif a==-9223372036854775808 then
   bif b==-1 then
    (0,false)
   else
    (IntKind.i64.wrap (a.tdiv b),true)
  else
   (IntKind.i64.wrap (a.tdiv b),true)
def aMod (a b:Int):Int × Bool :=
 bif b==0 then
  (0,false)
 else
  bif b==-1 then
   (0,true)
  else
   (a.tmod b,true)
def zhw (v:V) (ok:Bool):V × Int :=
 bif !ok then
  (V.mk 0 0 Zs0,5)
 else
  (v,0)
def cmpOp (op c:Int):Bool:=bif op==3 then c==0 else bif op==4 then c != 0 else bif op==5 then decide (c < 0) else bif op==6 then decide (c<=0) else bif op==7 then decide (0 < c) else decide (0<=c)
def vCmp (op:Int) (a b:V):V × Int :=
 bif a.kind==0 then
  (V.mk 0 0 Zs0,0)
 else
  bif b.kind==0 then
   (V.mk 0 0 Zs0,0)
  else
   bif a.kind != b.kind then
    (V.mk 0 0 Zs0,5)
   else
    (V.mk 2 (if cmpOp op (cmpV a b)=true then 1 else 0) Zs0,0)
def zqr (op:Int) (a b:V):V × Int :=
 bif a.kind==0 then
  (V.mk 0 0 Zs0,0)
 else
  bif b.kind==0 then
   (V.mk 0 0 Zs0,0)
  else
   bif a.kind != 1 then
    (V.mk 0 0 Zs0,5)
   else
    bif b.kind != 1 then
     (V.mk 0 0 Zs0,5)
    else
     bif op==12 then
      bif b.int==0 then
       (V.mk 0 0 Zs0,7)
      else
       bif op==9 then
        bif !(aAdd a.int b.int).snd then
         (V.mk 0 0 Zs0,6)
        else
         (V.mk 1 (aAdd a.int b.int).fst Zs0,0)
       else
        bif op==10 then
         bif !(aSub a.int b.int).snd then
          (V.mk 0 0 Zs0,6)
         else
          (V.mk 1 (aSub a.int b.int).fst Zs0,0)
        else
         bif op==11 then
          bif !(aMul a.int b.int).snd then
           (V.mk 0 0 Zs0,6)
          else
           (V.mk 1 (aMul a.int b.int).fst Zs0,0)
         else
          bif !(aDiv a.int b.int).snd then
           (V.mk 0 0 Zs0,6)
          else
           (V.mk 1 (aDiv a.int b.int).fst Zs0,0)
     else
      bif op==13 then
       bif b.int==0 then
        (V.mk 0 0 Zs0,7)
       else
        bif op==9 then
         bif !(aAdd a.int b.int).snd then
          (V.mk 0 0 Zs0,6)
         else
          (V.mk 1 (aAdd a.int b.int).fst Zs0,0)
        else
         bif op==10 then
          bif !(aSub a.int b.int).snd then
           (V.mk 0 0 Zs0,6)
          else
           (V.mk 1 (aSub a.int b.int).fst Zs0,0)
         else
          bif op==11 then
           bif !(aMul a.int b.int).snd then
            (V.mk 0 0 Zs0,6)
           else
            (V.mk 1 (aMul a.int b.int).fst Zs0,0)
          else
           bif !(aMod a.int b.int).snd then
            (V.mk 0 0 Zs0,6)
           else
            (V.mk 1 (aMod a.int b.int).fst Zs0,0)
      else
       bif op==9 then
        bif !(aAdd a.int b.int).snd then
         (V.mk 0 0 Zs0,6)
        else
         (V.mk 1 (aAdd a.int b.int).fst Zs0,0)
       else
        bif op==10 then
         bif !(aSub a.int b.int).snd then
          (V.mk 0 0 Zs0,6)
         else
          (V.mk 1 (aSub a.int b.int).fst Zs0,0)
        else
         bif op==11 then
          bif !(aMul a.int b.int).snd then
           (V.mk 0 0 Zs0,6)
          else
           (V.mk 1 (aMul a.int b.int).fst Zs0,0)
         else
          (V.mk 0 0 Zs0,6)
def zut (x y z:V):V × Int :=
 bif (vCmp 6 y x).snd != 0 then
  (V.mk 0 0 Zs0,(vCmp 6 y x).snd)
 else
  bif (vCmp 6 x z).snd != 0 then
   (V.mk 0 0 Zs0,(vCmp 6 x z).snd)
  else
   ((zhw (land (vCmp 6 y x).fst (vCmp 6 x z).fst).fst (land (vCmp 6 y x).fst (vCmp 6 x z).fst).snd).fst,(zhw (land (vCmp 6 y x).fst (vCmp 6 x z).fst).fst (land (vCmp 6 y x).fst (vCmp 6 x z).fst).snd).snd)
def zz2 (op:Int) (nt:Bool) (a:V):V × Int :=
 (V.mk (2:Int) (if (!(a.kind==(0:Int))==nt)=true then (1:Int) else (0:Int)) Zs0,0)
def opNot (op:Int) (nt:Bool) (a:V):V × Int :=
 ((zhw (lnot a).fst (lnot a).snd).fst,(zhw (lnot a).fst (lnot a).snd).snd)
def opNeg (op:Int) (nt:Bool) (a:V):V × Int :=
 ((zqr 10 (V.mk 1 0 Zs0) a).fst,(zqr 10 (V.mk 1 0 Zs0) a).snd)
def opBet (op:Int) (nt:Bool) (a b c:V):V × Int :=
 ((zut a b c).fst,(zut a b c).snd)
def opBin (op:Int) (nt:Bool) (a b:V):V × Int :=
 bif op==2 then
  ((zhw (land a b).fst (land a b).snd).fst,(zhw (land a b).fst (land a b).snd).snd)
 else
  bif op==1 then
   ((zhw (lor a b).fst (lor a b).snd).fst,(zhw (lor a b).fst (lor a b).snd).snd)
  else
   bif decide (op<=8) then
    ((vCmp op a b).fst,(vCmp op a b).snd)
   else
    ((zqr op a b).fst,(zqr op a b).snd)
abbrev zac {α:Type} (l:List α):Prop:=l.length<=1000000000
def idxF {α:Type} (p:α->Bool):List α->Nat->Int
 | [],_=>-1
 | x::r,i=>bif p x then (i:Int) else idxF p r (i+1)
theorem zkO {α:Type} (p:α->Bool):∀ (l:List α) (i:Nat),(idxF p l i=-1/\l.find? p=none)\/∃ (j:Nat) (x:α),idxF p l i=((i+j:Nat):Int)/\l[j]?=some x/\l.find? p=some x
 | [],i=>.inl ⟨rfl,rfl⟩
 | x::r,i=>by
  cases hp:p x
  ·rcases zkO p r (i+1) with ⟨h1,h2⟩|⟨j,y,h1,h2,h3⟩
   ·exact .inl ⟨by simp [idxF,hp,h1],by simp [hp,h2]⟩
   ·exact .inr ⟨j+1,y,by simp only [idxF,hp,cond_false,h1];omega,by simpa using h2,by simp [hp,h3]⟩
  ·exact .inr ⟨0,x,by simp [idxF,hp],by simp,by simp [hp]⟩
def zc6 (t:Tb) (n:Str):Bool :=
 ByteArray.toList t.sch.name==ByteArray.toList n
def colC (t:Col) (n:Str):Bool :=
 ByteArray.toList t.name==ByteArray.toList n
theorem ziC (t:Col) (n:Str) :zab E0 S.Cx [.agg t.cells,.p 0 0] [.box [sv n]] (bv (colC t n)) [.box [sv n]]:=by
 exact walkH E0ok mix0 At.Cx rfl kr kr 3000 (y:=AV.v (Value.bool (ByteArray.toList t.name==ByteArray.toList n))) (H:=[Blk.box [AV.v (Value.string n)]]) [] kr (⟨rfl,rfl⟩)
noncomputable def zv1 (tb:List Col) (n:Str) (i:Nat):Cfg:=zan B.BA 0 [(0,.sl (tb.map Col.cells)),(1,.fn S.Cx [.p 0 0]),(7,iv ((tb.map Col.cells).length:Nat)),(8,iv (i:Nat))] [.box [sv n]]
theorem zwN (tb:List Col) (n:Str) (hl:zac tb):∀ (k i:Nat),i+k=tb.length->Good E0 B.BA [.box [sv n]] (zv1 tb n i) (Shut 1 fun r h=>r=iv (idxF (fun t=>colC t n) (tb.drop i) i)/\h=[.box [sv n]]):=by
 intro k
 induction k with
 | zero =>
  intro i hi
  refine zaa ?_
  have h0:decide ((i:Int) < (((tb.map Col.cells).length:Nat):Int))=false:=by simp;omega
  have e0:tb.drop i=[]:=List.drop_of_length_le Zo
  rw [e0]
  exact zqp E0ok mix0 3000 (y:=AV.v (Value.int IntKind.i64 (-1:Int))) (H:=[Blk.box [AV.v (Value.string n)]]) [sb h0] kr (⟨rfl,rfl⟩)
 | succ k ih =>
  intro i hi
  have ih:=ih (i+1) Zo
  obtain ⟨x,hx⟩:=zbK (l:=tb) (i:=i) Zo
  have h0:decide ((i:Int) < (((tb.map Col.cells).length:Nat):Int))=true:=by simp;omega
  have hw:=zbw i Zo
  rw [zcN hx]
  simp only [idxF]
  refine zaa ?_
  cases h1:colC x n
  ·exact zdW E0ok mix0 3000 (c':=zv1 tb n (i+(1:Nat))) [sb h0,se (zai Col.cells hx rfl),sl [(0:Nat)] (ziC x n),sb h1,si hw] [0,1,7,8] 1 kr kr (by simpa only [cond_true,cond_false,h1] using ih)
  ·exact zqp E0ok mix0 3000 (y:=AV.v (Value.int IntKind.i64 (i:Int))) (H:=[Blk.box [AV.v (Value.string n)]]) [sb h0,se (zai Col.cells hx rfl),sl [(0:Nat)] (ziC x n),sb h1] kr (⟨by simp only [cond_true,cond_false,h1],rfl⟩)
theorem zhU (tb:List Col) (n:Str) (hl:zac tb):zab E0 S.BA [.sl (tb.map Col.cells),.fn S.Cx [.p 0 0]] [.box [sv n]] (iv (idxF (fun t=>colC t n) tb 0)) [.box [sv n]]:=by
 exact zoA E0ok mix0 At.BA rfl kr kr 3000 (c':=zv1 tb n (0:Nat)) [] [0,1,7,8] 1 kr kr (by simpa using zwN tb n hl tb.length 0 Zs)
def zsq (tb:List Tb) (n:Str):Option Tb:=tb.find? fun t=>zc6 t n
def Tb.zero:Tb:=⟨⟨⟨#[]⟩,[]⟩,0,[]⟩
theorem zct (s:Sch) (n:Str) (hl:zac s.cols):Pure S.C7 [s.av,sv n] (iv (idxF (fun c=>colC c n) s.cols 0)):=by
 exact walk E0ok mix0 At.C7 rfl kr kr 3000 (y:=AV.v (Value.int IntKind.i64 (idxF (fun t=>colC t n) s.cols (0:Nat)))) [sl [(1:Nat)] (zhU s.cols n (by first|assumption|(simp;done)|omega|(simp;omega)))] kr (rfl)
def zqF (kind op:Int) (xs:List X) (qs:List Qy) (it wh:List X):Bool :=
 bif kind==(1:Int) then
  bif (↑(zad xs).length:Int) != (0:Int) then
   false
  else
   bif (↑(zal qs).length:Int) != (0:Int) then
    false
   else
    true
 else
  bif kind==(2:Int) then
   bif (↑(zad xs).length:Int) != (0:Int) then
    false
   else
    bif (↑(zal qs).length:Int) != (0:Int) then
     false
    else
     true
  else
   bif kind==(3:Int) then
    bif (↑(zad xs).length:Int) != (1:Int) then
     false
    else
     bif (↑(zal qs).length:Int) != (0:Int) then
      false
     else
      true
   else
    bif kind==(4:Int) then
     bif (↑(zad xs).length:Int) != (1:Int) then
      false
     else
      bif (↑(zal qs).length:Int) != (0:Int) then
       false
      else
       true
    else
     bif kind==(6:Int) then
      bif (↑(zad xs).length:Int) != (1:Int) then
       false
      else
       bif (↑(zal qs).length:Int) != (0:Int) then
        false
       else
        true
     else
      bif kind==(5:Int) then
       bif decide (op < (1:Int)) then
        false
       else
        bif decide ((13:Int) < op) then
         false
        else
         bif (↑(zad xs).length:Int) != (2:Int) then
          false
         else
          bif (↑(zal qs).length:Int) != (0:Int) then
           false
          else
           true
      else
       bif kind==(7:Int) then
        bif (↑(zad xs).length:Int) != (3:Int) then
         false
        else
         bif (↑(zal qs).length:Int) != (0:Int) then
          false
         else
          true
       else
        bif kind==(8:Int) then
         bif (↑(zad xs).length:Int) != (0:Int) then
          false
         else
          bif (↑(zal qs).length:Int) != (1:Int) then
           false
          else
           bif (↑(zad it).length:Int)==(0:Int) then
            decide ((↑(zad wh).length:Int)<=(1:Int))
           else
            false
        else
         bif kind==(9:Int) then
          bif (↑(zad xs).length:Int) != (0:Int) then
           false
          else
           bif (↑(zal qs).length:Int) != (1:Int) then
            false
           else
            bif (↑(zad it).length:Int)==(0:Int) then
             decide ((↑(zad wh).length:Int)<=(1:Int))
            else
             false
         else
          bif kind==(10:Int) then
           bif (↑(zad xs).length:Int) != (0:Int) then
            false
           else
            bif (↑(zal qs).length:Int) != (1:Int) then
             false
            else
             bif (↑(zad it).length:Int)==(1:Int) then
              decide ((↑(zad wh).length:Int)<=(1:Int))
             else
              false
          else
           bif kind==(11:Int) then
            bif (↑(zad xs).length:Int) != (0:Int) then
             false
            else
             bif (↑(zal qs).length:Int) != (1:Int) then
              false
             else
              bif (↑(zad it).length:Int)==(1:Int) then
               decide ((↑(zad wh).length:Int)<=(1:Int))
              else
               false
           else
            bif kind==(12:Int) then
             bif (↑(zad xs).length:Int) != (0:Int) then
              false
             else
              bif (↑(zal qs).length:Int) != (1:Int) then
               false
              else
               bif (↑(zad it).length:Int)==(1:Int) then
                decide ((↑(zad wh).length:Int)<=(1:Int))
               else
                false
            else
             false
def zqE (kind op:Int) (xs:List X):Bool :=
 bif kind==(1:Int) then
  bif (↑(zad xs).length:Int) != (0:Int) then
   false
  else
   true
 else
  bif kind==(2:Int) then
   bif (↑(zad xs).length:Int) != (0:Int) then
    false
   else
    true
  else
   bif kind==(3:Int) then
    bif (↑(zad xs).length:Int) != (1:Int) then
     false
    else
     true
   else
    bif kind==(4:Int) then
     bif (↑(zad xs).length:Int) != (1:Int) then
      false
     else
      true
    else
     bif kind==(6:Int) then
      bif (↑(zad xs).length:Int) != (1:Int) then
       false
      else
       true
     else
      bif kind==(5:Int) then
       bif decide (op < (1:Int)) then
        false
       else
        bif decide ((13:Int) < op) then
         false
        else
         bif (↑(zad xs).length:Int) != (2:Int) then
          false
         else
          true
      else
       bif kind==(7:Int) then
        bif (↑(zad xs).length:Int) != (3:Int) then
         false
        else
         true
       else
        bif kind==(8:Int) then
         bif (↑(zad xs).length:Int) != (0:Int) then
          false
         else
          false
        else
         bif kind==(9:Int) then
          bif (↑(zad xs).length:Int) != (0:Int) then
           false
          else
           false
         else
          bif kind==(10:Int) then
           bif (↑(zad xs).length:Int) != (0:Int) then
            false
           else
            false
          else
           bif kind==(11:Int) then
            bif (↑(zad xs).length:Int) != (0:Int) then
             false
            else
             false
           else
            bif kind==(12:Int) then
             bif (↑(zad xs).length:Int) != (0:Int) then
              false
             else
              false
            else
             false
theorem zf5 {p:Prop} (h:p:=by first|assumption|omega|(simp;done)|(simp;omega)):p:=h
def modI (v n:Int):Int:=bif decide (v.tmod n < 0) then IntKind.i64.wrap (v.tmod n+n) else v.tmod n
theorem zuW (v n:Int) (hn:n≠0):Pure S.C5 [iv v,iv n] (iv (modI v n)):=by
 unfold modI
 cases h1:decide (v.tmod n < (0:Int))
 ·exact wk At.C5 [sx (.i (v.tmod n)) (show ¬n=(0:Int)/\(v.tmod n:Int)=v.tmod n from ⟨hn,rfl⟩),sb h1] kr
 ·exact wk At.C5 [sx (.i (v.tmod n)) (show ¬n=(0:Int)/\(v.tmod n:Int)=v.tmod n from ⟨hn,rfl⟩),sb h1,si (e:=IntKind.i64.wrap (v.tmod n+n)) rfl] kr
def Tp.next (t:Tp) (n:Int):Nat × Tp:=match t.l[t.pos]? with
 | some x=>((modI x n).toNat,⟨t.l,t.pos+1,t.ok⟩)
 | none=>(0,t)
theorem zpK (v n:Int) (hn:0 < n) (hv:n<=9223372036854775807):0<=modI v n/\modI v n < n:=by
 unfold modI
 have h1:=Int.tmod_lt_of_pos v hn
 have h2:-n < v.tmod n:=by
  have:=Int.tmod_lt_of_pos (-v) hn
  rw [Int.neg_tmod] at this;omega
 cases h:decide (v.tmod n < 0)
 ·simp at h;simp;omega
 ·simp at h;simp only [cond_true];rw [IntKind.wrap_i64];omega
theorem Tp.next_lt (t:Tp) (n:Int) (hn:0 < n) (hv:n<=9223372036854775807):((t.next n).1:Int) < n:=by
 unfold Tp.next
 split
 ·have:=zpK ‹_› n hn hv
  simp;omega
 ·simpa using hn
abbrev Pos (n:Int):Prop:=0 < n/\n<=9223372036854775807
theorem zka (i:Nat) (h:i < 9223372036854775806):IntKind.i64.wrap (((i+1:Nat):Int) - 1)=((i:Nat):Int):=by
 rw [IntKind.wrap_i64];omega
theorem zAE (t:Tp) (n:Int) (hx:t.l.length<=t.pos):zab E0 S.B6 [.p 0 0,iv n] [.box t.cells] (iv 0) [.box t.cells]:=by
 have h0:decide ((((t.l.map fun n=>[iv n]).length:Nat):Int)<=((t.pos:Nat):Int))=true:=by simp;omega
 exact wk At.B6 [sd [],sb h0] kr
theorem zln (t:Tp) (n:Int) (x:Int) (hn:n≠0) (hx:t.l[t.pos]?=some x) (h0:decide ((((t.l.map fun n=>[iv n]).length:Nat):Int)<=((t.pos:Nat):Int))=false) (hw:IntKind.i64.wrap ((t.pos:Int)+1)=((t.pos+1:Nat):Int)) (hw2:IntKind.i64.wrap (((t.pos+1:Nat):Int) - 1)=((t.pos:Nat):Int)):∃ (a:Int),a=modI x n/\zab E0 S.B6 [.p 0 0,iv n] [.box t.cells] (iv a) [.box (Tp.cells ⟨t.l,t.pos+1,t.ok⟩)]:=by
 exact ⟨modI x n,by first|assumption|trivial|(simp;done)|omega|(simp;omega)|(simp at *;omega),wk At.B6 [sd [],sb h0,si hw,sd [(8,[si hw2]),(9,[se (zai (fun n=>[iv n]) hx rfl)]),(12,[sc (zuW x n zf5)])]] kr⟩
theorem c_next (t:Tp) (n:Int) (hn:Pos n):zab E0 S.B6 [.p 0 0,iv n] [.box t.cells] (iv ((t.next n).1:Nat)) [.box (t.next n).2.cells]:=by
 unfold Tp.next
 cases hx:t.l[t.pos]? with
 | none=>exact zAE t n (by simpa using hx)
 | some x =>
  have hl:=zfM hx
  have ho:=t.ok
  obtain ⟨a,rfl,hc⟩:=zln t n x Zo hx Zp (zbw t.pos Zo) (zka t.pos Zo)
  have h2:=zpK x n hn.1 hn.2
  simp only
  rw [Int.toNat_of_nonneg h2.1]
  exact hc
theorem zag (t:Tp) (n:Int) (hn:Pos n):∃ (a:Nat) (t':Tp),(a:Int) < n/\zab E0 S.B6 [.p 0 0,iv n] [.box t.cells] (iv a) [.box t'.cells] :=
 ⟨_,_,t.next_lt n hn.1 hn.2,c_next t n hn⟩
abbrev I64 (n:Int):Prop:=-9223372036854775808<=n/\n<=9223372036854775807
theorem zgG (n:Int):I64 (IntKind.i64.wrap n):=by simp only [I64];rw [IntKind.wrap_i64];omega
theorem zam (t:Tp) (n:Int) (hn:Pos n):∃ (b:Bool) (t':Tp),zab E0 S.CV [.p 0 0,iv n] [.box t.cells] (bv b) [.box t'.cells]:=by
 obtain ⟨a1,t1,q1,c1⟩:=(zag t n zf5)
 exact ⟨(a1:Int)==IntKind.i64.wrap (n - 1),t1,wk At.CV [sl [0] c1,si (e:=IntKind.i64.wrap (n - 1)) rfl] kr⟩
theorem zaW (t:Tp) :∃ (a:Int) (t':Tp),(-3<=a/\a<=12)/\zab E0 S.CP [.p 0 0] [.box t.cells] (iv a) [.box t'.cells]:=by
 obtain ⟨a1,t1,q1,c1⟩:=(zag t 16 zf5)
 exact ⟨IntKind.i64.wrap ((a1:Int) - 3),t1,by rw [IntKind.wrap_i64];omega,wk At.CP [sl [0] c1,si (e:=IntKind.i64.wrap ((a1:Int) - 3)) rfl] kr⟩
theorem zmG (t:Tp) :∃ (a:Int) (t':Tp),I64 a/\zab E0 S.B8 [.p 0 0] [.box t.cells] (iv a) [.box t'.cells]:=by
 obtain ⟨a1,t1,q1,c1⟩:=(zag t 8 zf5)
 cases h2:(a1:Int)==0
 ·cases h3:(a1:Int)==1
  ·cases h4:(a1:Int)==2
   ·obtain ⟨a5,t5,q5,c5⟩:=(zag t1 9 zf5)
    exact ⟨(a5:Int),t5,by first|exact zgG _|(simp only [I64];omega),wk At.B8 [sl [0] c1,sb h2,sb h3,sb h4,sl [0] c5] kr⟩
   ·obtain ⟨a6,t6,q6,c6⟩:=(zag t1 9 zf5)
    exact ⟨IntKind.i64.wrap (-(a6:Int)),t6,by first|exact zgG _|(simp only [I64];omega),wk At.B8 [sl [0] c1,sb h2,sb h3,sb h4,sl [0] c6,si (e:=IntKind.i64.wrap (-(a6:Int))) rfl] kr⟩
  ·obtain ⟨a7,t7,q7,c7⟩:=(zag t1 3 zf5)
   exact ⟨IntKind.i64.wrap (-9223372036854775808+(a7:Int)),t7,by first|exact zgG _|(simp only [I64];omega),wk At.B8 [sl [0] c1,sb h2,sb h3,sl [0] c7,si (e:=IntKind.i64.wrap (-9223372036854775808+(a7:Int))) rfl] kr⟩
 ·obtain ⟨a8,t8,q8,c8⟩:=(zag t1 3 zf5)
  exact ⟨IntKind.i64.wrap (9223372036854775807 - (a8:Int)),t8,by first|exact zgG _|(simp only [I64];omega),wk At.B8 [sl [0] c1,sb h2,sl [0] c8,si (e:=IntKind.i64.wrap (9223372036854775807 - (a8:Int))) rfl] kr⟩
def znu (i:Nat):Str:=ze8.getD i ⟨#[]⟩
theorem zAx (i:Nat) (h:(i:Int) < 6):ArrAt (ze8.map sv) i 6 [sv (znu i)] 1:=by
 have h:i=0\/i=1\/i=2\/i=3\/i=4\/i=5:=by omega
 rcases h with rfl|rfl|rfl|rfl|rfl|rfl <;> exact ⟨by decide,by decide,rfl,rfl⟩
theorem zAS (i:Nat) (h:(i:Int) < 6):ArrAt (ze8.map sv) i 6 [sv (znu i)] 1:=zAx i h
theorem zBA (i:Nat):znu i∈ze8:=by
 unfold znu
 rw [List.getD_eq_getElem?_getD]
 cases h:ze8[i]? with
 | none=>simp [ze8,zcX]
 | some x=>exact List.mem_of_getElem? h
theorem zdx (t:Tp) :∃ (w:Str) (t':Tp),w∈ze8/\zab E0 S.CW [.p 0 0] [.box t.cells] (sv w) [.box t'.cells]:=by
 obtain ⟨a1,t1,q1,c1⟩:=(zag t 6 zf5)
 exact ⟨znu a1,t1,by exact zBA _,wk At.CW [sl [0] c1,sa (zAS a1 zf5)] kr⟩
structure V.Good (v:V):Prop where
 valid:zyY v=true
 i64:I64 v.int
 small:v.small
theorem zcB {n:Int} (h:I64 n):V.Good ⟨1,n,⟨#[]⟩⟩:=⟨by kernel_rfl,h,zqW⟩
theorem zb3:V.Good ⟨0,0,⟨#[]⟩⟩:=⟨by kernel_rfl,by decide,zqW⟩
theorem zjQ {n:Nat} (h:(n:Int) < 2):V.Good ⟨2,n,⟨#[]⟩⟩:=by
 have:n=0\/n=1:=by omega
 rcases this with rfl|rfl <;> exact ⟨by kernel_rfl,by decide,zqW⟩
theorem zjR {w:Str} (h:w∈ze8):V.Good ⟨3,0,w⟩:=by
 simp only [ze8,List.mem_cons,List.not_mem_nil,or_false] at h
 rcases h with rfl|rfl|rfl|rfl|rfl|rfl <;> exact ⟨by kernel_rfl,by decide,by decide⟩
abbrev zb7 (k:Int):Int:=if k=1\/k=2\/k=3 then k else 0
theorem za5 (t:Tp) (kind:Int) :∃ (v:V) (t':Tp),(v.kind=zb7 kind/\v.Good)/\zab E0 S.Cf [.p 0 0,iv kind] [.box t.cells] v.av [.box t'.cells]:=by
 cases h1:kind==1
 ·cases h2:kind==2
  ·cases h3:kind==3
   ·exact ⟨V.mk 0 0 Zs0,t,by first|exact ⟨by simp_all [zb7],zcB ‹_›⟩|exact ⟨by simp_all [zb7],zjQ ‹_›⟩|exact ⟨by simp_all [zb7],zjR ‹_›⟩|exact ⟨by simp_all [zb7],zb3⟩,wk At.Cf [sb h1,sb h2,sb h3] kr⟩
   ·obtain ⟨w4,t4,q4,c4⟩:=(zdx t)
    exact ⟨V.mk 3 0 w4,t4,by first|exact ⟨by simp_all [zb7],zcB ‹_›⟩|exact ⟨by simp_all [zb7],zjQ ‹_›⟩|exact ⟨by simp_all [zb7],zjR ‹_›⟩|exact ⟨by simp_all [zb7],zb3⟩,wk At.Cf [sb h1,sb h2,sb h3,sl [0] c4] kr⟩
  ·obtain ⟨a5,t5,q5,c5⟩:=(zag t 2 zf5)
   exact ⟨V.mk 2 (a5:Int) Zs0,t5,by first|exact ⟨by simp_all [zb7],zcB ‹_›⟩|exact ⟨by simp_all [zb7],zjQ ‹_›⟩|exact ⟨by simp_all [zb7],zjR ‹_›⟩|exact ⟨by simp_all [zb7],zb3⟩,wk At.Cf [sb h1,sb h2,sl [0] c5] kr⟩
 ·obtain ⟨a6,t6,q6,c6⟩:=(zmG t)
  exact ⟨V.mk 1 a6 Zs0,t6,by first|exact ⟨by simp_all [zb7],zcB ‹_›⟩|exact ⟨by simp_all [zb7],zjQ ‹_›⟩|exact ⟨by simp_all [zb7],zjR ‹_›⟩|exact ⟨by simp_all [zb7],zb3⟩,wk At.Cf [sb h1,sl [0] c6] kr⟩
def xLit (v:V):X :=
 X.mk 1 0 false v Zs0 Zs0 [] []
theorem zaT (v:V) :zab E0 S.Dd [v.av] [] ((xLit v).av) []:=by
 exact wk At.Dd [] kr
def xCol (t n:Str):X :=
 X.mk 2 0 false (V.mk 0 0 Zs0) t n [] []
theorem zaO (t n:Str) :zab E0 S.Db [sv t,sv n] [] ((xCol t n).av) []:=by
 exact wk At.Db [] kr
def xBin (op:Int) (a b:X):X :=
 X.mk 5 op false (V.mk 0 0 Zs0) Zs0 Zs0 [a,b] []
theorem zaC (op:Int) (a b:X) :zab E0 S.Da [iv op,a.av,b.av] [] ((xBin op a b).av) []:=by
 unfold xBin
 exact (by (try simp only [X.av,Qy.av,xsl,zaM,zaQ,zaN,zaS,X.cells,Qy.cells,X.args_mk,X.sub_mk,Qy.items_mk,Qy.wh_mk]);exact wk At.Da [] kr)
end Go.AM
namespace Go.AM
open Go.RowKit
section
variable {E : Env0}
theorem zzS (ht:zaL E) {fn:Func} {R:AV->Heap->Prop} {h0:Heap} {n:Nat} {ts:TS} {h:Heap} {y:AV} (hv:retV E ts h fn.results.toList=some y) (hR:R y h):Good E fn h0 ⟨n,[],ts,h⟩ R:=by
 intro β0 S0 w0 β S w tmps hb0 hn x0 r rt
 simp only at r rt x0
 have key:∀ v,(results fn tmps).run E.P w=.ok v w->RelV E.T h β w S y v->kont E.P [] (bodyPost E.P fn (Post E h0 β0 S0 w0 R)) .normal ⟨tmps,[]⟩ w:=by
  intro v hrun hrel
  have hpost:bodyPost E.P fn (Post E h0 β0 S0 w0 R) .normal ⟨tmps,[]⟩ w:=⟨rfl,v,hrun,y,h,β,S,v,rfl,hR,r,x0,hrel⟩
  exact hpost
 unfold retV at hv
 cases ha:ziL E ts h fn.results.toList with
 | none=>simp [ha] at hv
 | some ys =>
  obtain ⟨vs,w1,w2⟩:=zne ht r rt _ ys ha
  have hrun:(results fn tmps).run E.P w=.ok (if hh:vs.toArray.size=1 then vs.toArray[0] else .tuple vs.toArray) w:=by
   rw [zpT,Array.mapM_eq_mapM_toList]
   simp only [Sem.run_bind,Sem.run_map]
   rw [w1]
   simp only [Result.andThen_ok,Sem.run_pure]
  rw [ha] at hv
  split at hv
  ·rename_i x hx
   cases hx
   cases hv
   have hvl:=w2.1
   match vs,hvl,w2,hrun with
   | [v],_,w2,hrun =>
    refine key v ?_ w2.uncons.1
    rw [hrun]
    simp
   | [],hvl,_,_=>simp at hvl
   | _::_::_,hvl,_,_=>simp at hvl
  ·rename_i xs hne hx
   cases hx
   cases hv
   refine key (.tuple vs.toArray) ?_ (.tup _ _ w2.1 w2.2)
   rw [hrun,dif_neg]
   intro h1
   have hl:ys.length=1:=by rw [w2.1];simpa using h1
   match ys,hl with
   | [a],_=>exact hne a rfl
  ·rename_i hx
   cases hx
end
theorem zrK {E:Env0} {fn:Func} {h0:Heap} {c c':Cfg} {R:AV->Heap->Prop} (b i:Nat) (live:List Nat) (m:Nat) {cs:List AV} (hb:c.h[b]?=some (.box cs)) (hi:cs[i]?=some .nl) (hm:Nat.ble h0.length m=true)
  (he:cut live m ⟨c.n,c.todo,c.ts,c.h.set b (.box (cs.set i (.sl [])))⟩=c') (hg:Good E fn h0 c' R):Good E fn h0 c R:=by
 have hg':=zem live m (Nat.le_of_ble_eq_true hm) (he ▸ hg)
 intro β0 S0 w0 β S w tmps hb0 hn x0 r rt
 have x2:=zfP (β:=β) (S:=S) (w:=w) hb (cs.set i (.sl []))
 have r2:=r.setBox hb (cs.set i (.sl [])) (fun g' vs' t' e2 e3 e4 e5=>by
  refine ⟨by simpa using e4,fun j x' y hx hy=>?_⟩
  by_cases hij:i=j
  ·subst hij
   rw [List.getElem?_set_self (List.getElem?_eq_some_iff.1 hi).1] at hx
   cases hx
   have:=e5 i .nl y hi hy
   refine ⟨?_,this.2⟩
   obtain ⟨a,rfl⟩:=zgN this.1
   exact .d _ _ (.sl [] a 0 0 0 0 (fun _=>undef) (fun hn=>absurd rfl hn) (Nat.le_refl _) (Nat.zero_le _) Zs Zs Zs)
  ·rw [List.getElem?_set_ne hij] at hx
   exact e5 j x' y hx hy)
 exact hg' β0 S0 w0 β S w tmps hb0 hn (x0.trans x2) r2 fun t'=>(rt t').ext x2
def finE (E:Env) (fn:Func) (m n:Nat) (c:Cfg) (os:List Orc):Option (List Prop × AV × Heap) :=
 match run E n c os with
 | (q,⟨_,[],ts,h⟩,[])=>match retV E.toEnv0 ts h fn.results.toList with
  | some y=>some ((match frzM y with|[]=>q|_::_=>frzO h y::q),frz h y,((share h (frzM y)).take m).map (zbq (zcS m)))
  | none=>none
 | _=>none
theorem zq9 {E:Env0} (ht:zaL E) (hmix:E.P.follows .mixedOrders=true) {fn:Func} {R:AV->Heap->Prop} {h0:Heap} {c:Cfg} (n:Nat) (os:List Orc) {q:List Prop} {y:AV} {H:Heap} {m:Nat}
  (hfin:finE (mk E) fn m n c os=some (q,y,H)) (hq:allP q) (hR:R y H):Good E fn h0 c (Shut m R):=by
 unfold finE at hfin
 split at hfin
 ·rename_i q' n' ts h' hrun
  split at hfin
  ·rename_i y' hret
   simp only [Option.some.injEq,Prod.mk.injEq] at hfin
   obtain ⟨h1,h2,h3⟩:=hfin
   have hqo:allP q'/\frzO h' y':=by
    split at h1
    ·rename_i hm
     subst h1
     exact ⟨hq,zfR y' hm⟩
    ·subst h1
     obtain ⟨a,b⟩:=zjK hq
     exact ⟨b,a⟩
   refine zhm ht hmix n c os (by rw [hrun];exact hqo.1) ?_
   rw [hrun]
   exact zzS ht hret ⟨hqo.2,by rw [h2,h3];exact hR⟩
  ·cases hfin
 ·cases hfin
theorem wkrE {fn:Func} {h0:Heap} {c:Cfg} {r:AV} {H:Heap} {m:Nat} (l:List St) (hfin:finE (mk E0) fn m 3000 c (orcs l)=some (zbg l,r,H)):Good E0 fn h0 c (Shut m fun y h=>y=r/\h=H) :=
 zq9 E0ok mix0 3000 (orcs l) hfin (zaZ l) ⟨rfl,rfl⟩
noncomputable def runFE (fn:Func) (args:List AV) (h:Heap) (os:List Orc):Option (List Prop × AV × Heap) :=
 match fn.body, (fn.name == "runtime.NumGoroutine"), Nat.ble args.length fn.ntmps with
 | some c,false,true=>finE (mk E0) fn h.length 3000 ⟨fn.ntmps,[.code c],zbU 0 args,h⟩ os
 | _,_,_=>none
theorem wkE {f:FuncId} {fn:Func} {args:List AV} {h H:Heap} {r:AV} (hf:E0.P.funcs[f]?=some fn) (l:List St) (hfin:runFE fn args h (orcs l)=some (zbg l,r,H)):zab E0 f args h r H:=by
 unfold runFE at hfin
 split at hfin
 ·rename_i c hb hn ha
  exact zdX (zaY hf hb hn (Nat.le_of_ble_eq_true ha) (zq9 E0ok mix0 3000 (orcs l) hfin (zaZ l) ⟨rfl,rfl⟩))
 ·cases hfin
end Go.AM
namespace Go.AM
inductive Ct where
 | fz (t:Nat)
 | os (t:Nat)
 | bl (t:Nat)
 | bx (k q:Nat)
 | nl (k q:Nat)
 | ot (t:Nat) (e:TypeId)
 | ob (k q:Nat) (e:TypeId)
def ctM (live:List Nat) (m:Nat) (x:Ct) (c:Cfg):Option (List Prop × Cfg):=match x with
 | .fz t=>some ([frzO c.h (look c.ts t)],cut live m ⟨c.n,c.todo,(t,frz c.h (look c.ts t))::c.ts,share c.h (frzM (look c.ts t))⟩)
 | .os t=>match look c.ts t with
  | .own b n=>some ([],cut live m ⟨c.n,c.todo,(t,.os b n 0 n)::c.ts,c.h⟩)
  | _=>none
 | .bl t=>match look c.ts t with
  | .bl b=>some ([],cut live m ⟨c.n,c.todo,(t,.v (.bool b))::c.ts,c.h⟩)
  | _=>none
 | .bx k q=>match c.h[k]? with
  | some (.box cs)=>match cs[q]? with
   | some (.bl b)=>some ([],cut live m ⟨c.n,c.todo,c.ts,c.h.set k (.box (cs.set q (.v (.bool b))))⟩)
   | _=>none
  | _=>none
 | .nl k q=>match c.h[k]? with
  | some (.box cs)=>match cs[q]? with
   | some .nl=>some ([],cut live m ⟨c.n,c.todo,c.ts,c.h.set k (.box (cs.set q (.sl [])))⟩)
   | _=>none
  | _=>none
 | .ot t e=>match look c.ts t with
  | .nl=>some ([],cut live m ⟨c.n,c.todo,(t,.own c.h.length 0)::c.ts,c.h++[Blk.row e [] false]⟩)
  | _=>none
 | .ob k q e=>match c.h[k]? with
  | some (.box cs)=>match cs[q]? with
   | some .nl=>some ([],cut live m ⟨c.n,c.todo,c.ts,(c.h++[Blk.row e [] false]).set k (.box (cs.set q (.own c.h.length 0)))⟩)
   | _=>none
  | _=>none
theorem ctM_ok {E:Env0} {fn:Func} {h0:Heap} {c c':Cfg} {R:AV->Heap->Prop} {live:List Nat} {m:Nat} {x:Ct} {q:List Prop} (hm:Nat.ble h0.length m=true) (h:ctM live m x c=some (q,c')) (ho:allP q) (hg:Good E fn h0 c' R):Good E fn h0 c R:=by
 cases x with
 | fz t =>
  cases h
  exact zkg t live m rfl rfl ho hm rfl hg
 | os t =>
  simp only [ctM] at h
  split at h
  ·rename_i b n hl
   cases h
   exact zwJ t b n live m hl hm rfl hg
  ·cases h
 | bl t =>
  simp only [ctM] at h
  split at h
  ·rename_i b hl
   cases h
   exact zwI t b live m hl hm rfl hg
  ·cases h
 | bx k q =>
  simp only [ctM] at h
  split at h
  ·rename_i cs hb
   split at h
   ·rename_i b hi
    cases h
    exact zrJ k q b live m hb hi hm rfl hg
   ·cases h
  ·cases h
 | nl k q =>
  simp only [ctM] at h
  split at h
  ·rename_i cs hb
   split at h
   ·rename_i hi
    cases h
    exact zrK k q live m hb hi hm rfl hg
   ·cases h
  ·cases h
 | ot t e =>
  simp only [ctM] at h
  split at h
  ·rename_i hl
   cases h
   exact zcl t e live m hl hm rfl hg
  ·cases h
 | ob k q e =>
  simp only [ctM] at h
  split at h
  ·rename_i cs hb
   split at h
   ·rename_i hi
    cases h
    exact zqI k q e live m hb hi hm rfl hg
   ·cases h
  ·cases h
def cts (live:List Nat) (n0:Nat):List (Ct × Nat)->List Prop->Cfg->Option (List Prop × Cfg)
 | [],q,c=>some (q,c)
 | (x,m)::r,q,c=>match Nat.ble n0 m,ctM live m x c with
  | true,some (q1,c1)=>cts live n0 r (q++q1) c1
  | _,_=>none
theorem zdg:∀ {a b:List Prop},allP (a++b)->allP a/\allP b
 | [],_,h=>⟨trivial,h⟩
 | [_],[],h=>⟨h,trivial⟩
 | [_],_::_,h=>⟨h.1,h.2⟩
 | _::q::r,b,h=>by
  have:=zdg (a:=q::r) (b:=b) h.2
  exact ⟨⟨h.1,this.1⟩,this.2⟩
theorem zkJ {live:List Nat} {n0:Nat}:∀ {l:List (Ct × Nat)} {q q':List Prop} {c c':Cfg},cts live n0 l q c=some (q',c')->∃ q2,q'=q++q2
 | [],_,_,_,_,h=>by
  cases h
  exact ⟨[],by simp⟩
 | (x,m)::r,q,q',c,c',h=>by
  simp only [cts] at h
  split at h
  ·rename_i q1 c1 _ _
   obtain ⟨q2,h2⟩:=zkJ h
   exact ⟨q1++q2,by rw [h2,List.append_assoc]⟩
  ·cases h
theorem zpq {E:Env0} {fn:Func} {h0:Heap} {R:AV->Heap->Prop} {live:List Nat}:∀ {l:List (Ct × Nat)} {q q':List Prop} {c c':Cfg},cts live h0.length l q c=some (q',c')->allP q'->Good E fn h0 c' R->Good E fn h0 c R
 | [],_,_,_,_,h,_,hg=>by
  cases h
  exact hg
 | (x,m)::r,q,q',c,c',h,ho,hg=>by
  simp only [cts] at h
  split at h
  ·rename_i q1 c1 hm hc
   obtain ⟨q2,h2⟩:=zkJ h
   have h3:allP q1:=by
    rw [h2] at ho
    exact (zdg (zdg ho).1).2
   exact ctM_ok hm hc h3 (zpq h ho hg)
  ·cases h
noncomputable def zqq (fn:Func) (args:List AV) (h:Heap) (live:List Nat) (m:Nat) (k:List (Ct × Nat)) (os:List Orc):Option (List Prop × Cfg) :=
 match zl3 fn args h live m os with
 | some (q,c)=>cts live h.length k q c
 | none=>none
noncomputable def zyU (h0:Heap) (live:List Nat) (m:Nat) (k:List (Ct × Nat)) (c:Cfg) (os:List Orc):Option (List Prop × Cfg) :=
 match zn7 h0 live m c os with
 | some (q,c)=>cts live h0.length k q c
 | none=>none
theorem znr {fn:Func} {h0:Heap} {c c':Cfg} {R:AV->Heap->Prop} {live:List Nat} {m:Nat} {os:List Orc} {q:List Prop} (hm:Nat.ble h0.length m=true) (hu:upto (mk E0) live m 3000 c os=(q,c')) (hq:allP q) (hg:Good E0 fn h0 c' R):Good E0 fn h0 c R:=by
 unfold upto at hu
 have h1:(run (mk E0) 3000 c os).1=q:=by
  have:=congrArg Prod.fst hu
  exact this
 have h2:cut live m (run (mk E0) 3000 c os).2.1=c':=congrArg Prod.snd hu
 exact znJ E0ok mix0 3000 os live m hm h1 h2 hq hg
theorem wklN {fn:Func} {R:AV->Heap->Prop} {h0:Heap} {c c':Cfg} (l:List St) (live:List Nat) (m:Nat) (k:List (Ct × Nat)) (hu:zyU h0 live m k c (orcs l)=some (zbg l,c')) (hg:Good E0 fn h0 c' R):Good E0 fn h0 c R:=by
 unfold zyU at hu
 split at hu
 ·rename_i q c1 h1
  unfold zn7 at h1
  split at h1
  ·rename_i hm
   obtain ⟨q2,h2⟩:=zkJ hu
   have h3:=zaZ l
   have h4:allP q:=by
    rw [h2] at h3
    exact (zdg h3).1
   exact znr hm (Option.some.inj h1) h4 (zpq hu h3 hg)
  ·cases h1
 ·cases hu
theorem wkcN {f:FuncId} {fn:Func} {args:List AV} {h:Heap} {R:AV->Heap->Prop} {c':Cfg} (hf:E0.P.funcs[f]?=some fn) (l:List St) (live:List Nat) (m:Nat) (k:List (Ct × Nat)) (hu:zqq fn args h live m k (orcs l)=some (zbg l,c'))
  (hg:Good E0 fn h c' (Shut h.length R)):zcd E0 f args h R:=by
 unfold zqq at hu
 split at hu
 ·rename_i q c1 h1
  unfold zl3 at h1
  split at h1
  ·rename_i c hb hn ha hm
   obtain ⟨q2,h2⟩:=zkJ hu
   have h3:=zaZ l
   have h4:allP q:=by
    rw [h2] at h3
    exact (zdg h3).1
   exact zdX (zaY hf hb hn (Nat.le_of_ble_eq_true ha) (znr hm (Option.some.inj h1) h4 (zpq hu h3 hg)))
  ·cases h1
 ·cases hu
theorem znS {p:Prop} (h:p:=by first|assumption|omega|(simp;done)|(simp;omega)):p:=h
structure ValOk (c:Col) (v:V):Prop where
 good:v.Good
 kind:v.kind=0\/v.kind=c.type
 nn:c.notNull=true->v.kind=c.type
abbrev ColOk (c:Col):Prop:=c.type=1\/c.type=2\/c.type=3
structure PrefOk (cols:List Col) (n:Nat) (vals:List V):Prop where
 len:vals.length=n
 at_:∀ (k:Nat) (c:Col) (v:V),cols[k]?=some c->vals[k]?=some v->ValOk c v
abbrev zgX (cols:List Col) (vals:List V):Prop:=PrefOk cols cols.length vals
theorem PrefOk.nil (cols:List Col):PrefOk cols 0 []:=⟨rfl,fun k c v _ h=>by simp at h⟩
theorem PrefOk.push {cols:List Col} {n:Nat} {vals:List V} (h:PrefOk cols n vals) {c:Col} (hc:cols[n]?=some c) {v:V} (hv:ValOk c v):PrefOk cols (n+1) (vals++[v]):=by
 refine ⟨by simp [h.len],fun k c' v' h1 h2=>?_⟩
 by_cases hk:k < vals.length
 ·rw [List.getElem?_append_left hk] at h2
  exact h.at_ k c' v' h1 h2
 ·rw [List.getElem?_append_right Zo] at h2
  have hl:=h.len
  have:k - vals.length=0:=by
   rcases Nat.eq_zero_or_pos (k - vals.length) with h|h
   ·exact h
   ·rw [List.getElem?_eq_none Zp] at h2;cases h2
  rw [this] at h2
  simp only [List.getElem?_cons_zero,Option.some.injEq] at h2
  have:k=n:=by omega
  subst this
  rw [h1] at hc
  cases hc
  exact h2 ▸ hv
def zao :(List Sch) :=
 [Sch.mk Zsl [Col.mk Zsn 1 false false,Col.mk (ByteArray.mk #[115]) 3 false false],Sch.mk (ByteArray.mk #[116]) [Col.mk Zsi 1 true true,Col.mk Zsn 1 false false,Col.mk (ByteArray.mk #[98]) 2 false false,Col.mk (ByteArray.mk #[115]) 3 false false],Sch.mk Zsu [Col.mk Zsi 1 true true,Col.mk Zsn 1 true false,Col.mk (ByteArray.mk #[109]) 1 false false]]
theorem zfZ  :zab E0 S.AG [] [] (.sl (zao.map Sch.cells)) []:=by
 unfold zao
 exact (by (try simp only [zsl]);exact wk At.AG [] kr)
theorem zhG:zac zao:=by simp [zao]
noncomputable def zxw (n:Str) (i:Nat) :Cfg:=zan B.Ct 0 [(0,sv n),(2,.p 0 0),(5,.sl (zao.map Sch.cells)),(6,iv ((zao.map Sch.cells).length:Nat)),(7,iv (i:Nat))] [.box [sv ⟨#[]⟩,.nl]]
def zlf (n:Str):List (Sch)->Nat->Sch
 | [],i =>
  Sch.mk Zs0 []
 | x::r,i =>
  bif ByteArray.toList x.name==ByteArray.toList n then
   x
  else
   zlf n r (i+1)
theorem zqN (n:Str) (hs:zac zao):∀ (kk i:Nat),i+kk=(zao).length->Good E0 B.Ct [] (zxw n i ) (Shut 0 fun r h=>r=((zlf n ((zao).drop i) i ).av)/\h=[]):=by
 intro kk
 induction kk with
 | zero =>
  intro i  hi
  have h0:decide (((i:Nat):Int) < (((zao.map Sch.cells).length:Nat):Int))=false:=by simp;omega
  have e0:(zao).drop i=[]:=List.drop_of_length_le Zo
  rw [e0]
  simp only [zlf]
  refine zaa ?_
  exact wkr [sb h0] kr
 | succ kk ih =>
  intro i  hi
  obtain ⟨x,hx⟩:=zbK (l:=zao) (i:=i) Zo
  have h0:decide (((i:Nat):Int) < (((zao.map Sch.cells).length:Nat):Int))=true:=by simp;omega
  have hw:=zbw i (by first|omega|(simp only [zac,Few] at *;omega))
  rw [zcN hx]
  simp only [zlf]
  refine zaa ?_
  let p_1:List St:=[sb h0,se (zai Sch.cells hx rfl)]
  cases h1:ByteArray.toList x.name==ByteArray.toList n
  ·exact wkl (p_1++[sb h1,si hw]) [0,2,5,6,7] 1 kr (ih (i+1) Zo )
  ·exact wkr (p_1++[sb h1]) kr
def zaj (n:Str):Sch :=
 zlf n zao (0)
theorem zbY (n:Str) (hs:zac zao):zab E0 S.Ct [sv n] [] ((zaj n).av) []:=by
 unfold zaj
 exact wkc At.Ct [sc zfZ] [0,2,5,6,7] 1 kr (zqN n hs zao.length 0 Zs)
theorem ztb (n:Int) (h1:decide (n < (0:Int))=false):Pure S.CF [iv n] (X.av (xLit ⟨1,n,⟨#[]⟩⟩)):=by
 exact wk At.CF [sb h1,sc (zaT (V.mk 1 n ⟨#[]⟩))] kr
def xNeg (a:X):X:=X.mk 4 0 false ⟨0,0,⟨#[]⟩⟩ ⟨#[]⟩ ⟨#[]⟩ [a] []
theorem c_Num1 (n:Int) (h1:decide (n < (0:Int))=true) (h2:-9223372036854775808 < n):Pure S.CF [iv n] (X.av (xNeg (xLit ⟨1,IntKind.i64.wrap (-n),⟨#[]⟩⟩))):=by
 have hk:=ztb (IntKind.i64.wrap (-n)) (by rw [IntKind.wrap_i64];simp at *;omega)
 unfold xNeg
 simp only [X.av,xLit,zaM,zaQ,X.cells,X.args_mk,X.sub_mk]
 exact wk At.CF [sb h1,si (e:=IntKind.i64.wrap (-n)) rfl,sc hk] kr
def xNum (n:Int):X:=bif decide (n < 0) then xNeg (xLit ⟨1,IntKind.i64.wrap (-n),⟨#[]⟩⟩) else xLit ⟨1,n,⟨#[]⟩⟩
theorem za2 (n:Int) (h2:-9223372036854775808 < n):Pure S.CF [iv n] (X.av (xNum n)):=by
 unfold xNum
 cases h:decide (n < 0)
 ·exact ztb n h
 ·exact c_Num1 n h h2
def zdO (l:List V):(List V) :=
 l
theorem zd1 (l:List V) (hl:zac l):zab E0 S.Dc [vsl l] [] (vsl (zdO l)) []:=by
 exact wk At.Dc [sqx ((List.map V.cells l).length=(List.map V.cells l).length),sqx (AllLen (List.map V.cells l) 3/\((List.map V.cells l).length * 32).le 140737488355328)] kr
def zaJ (t:Tg) (s:Sch) (a b:List V):(List Fr) :=
 bif t.each then
  bif t.event==2 then
   [Fr.mk ZsO true s.cols (zdO a),Fr.mk ZsN true s.cols (zdO b)]
  else
   bif t.event==3 then
    bif t.event==1 then
     [Fr.mk ZsO true s.cols (zdO a),Fr.mk ZsN true s.cols (zdO b)]
    else
     [Fr.mk ZsO true s.cols (zdO a)]
   else
    bif t.event==1 then
     [Fr.mk ZsN true s.cols (zdO b)]
    else
     []
 else
  []
theorem zdz (t:Tg) (s:Sch) (a b:List V) (hs:zac s.cols) (ha:zac a) (hb:zac b):zab E0 S.Ce [t.av,s.av,vsl a,vsl b] [] (fsl (zaJ t s a b)) []:=by
 unfold zaJ
 cases h1:t.each
 ·exact wk At.Ce [sb h1,sb h1] kr
 ·cases h2:t.event==2
  ·cases h3:t.event==3
   ·cases h4:t.event==1
    ·exact wk At.Ce [sg h1,sg h2,sb h3,sg h1,sg h2,sb h4] kr
    ·exact (by (try simp only [zsl]);exact wk At.Ce [sqx (1=1),sg h1,sg h2,sb h3,sg h1,sg h2,sb h4,sqx (AllLen (List.map Col.cells s.cols) 4/\((List.map Col.cells s.cols).length * 32).le 140737488355328),sc (zd1 b znS),sqx (True/\True/\(List.map Col.cells s.cols).length=(List.map Col.cells s.cols).length/\True/\True),sqx (AllLen [[sv ZsN,bv true,ZC s.cols,vsl (zdO b)]] 4/\Nat.le 72 140737488355328)] kr)
   ·cases h5:t.event==1
    ·exact (by (try simp only [zsl]);exact wk At.Ce [sqx (1=1),sg h1,sg h2,sb h3,sqx (AllLen (List.map Col.cells s.cols) 4/\((List.map Col.cells s.cols).length * 32).le 140737488355328),sc (zd1 a znS),sqx (True/\True/\(List.map Col.cells s.cols).length=(List.map Col.cells s.cols).length/\True/\True),sqx (AllLen [[sv ZsO,bv true,ZC s.cols,vsl (zdO a)]] 4/\Nat.le 72 140737488355328),sg h1,sg h2,sb h5] kr)
    ·exact (by (try simp only [zsl]);exact wk At.Ce [sqx (2=2),sg h1,sg h2,sb h3,sqx (AllLen (List.map Col.cells s.cols) 4/\((List.map Col.cells s.cols).length * 32).le 140737488355328),sc (zd1 a znS),sqx (True/\True/\(List.map Col.cells s.cols).length=(List.map Col.cells s.cols).length/\True/\True),sqx (AllLen [[sv ZsO,bv true,ZC s.cols,vsl (zdO a)]] 4/\Nat.le 72 140737488355328),sg h1,sg h2,sb h5,sqx (AllLen (List.map Col.cells s.cols) 4/\((List.map Col.cells s.cols).length * 32).le 140737488355328),sc (zd1 b znS),sqx (True/\True/\(List.map Col.cells s.cols).length=(List.map Col.cells s.cols).length/\True/\True),sqx (AllLen [[sv ZsN,bv true,ZC s.cols,vsl (zdO b)]] 4/\1=1/\Nat.le 144 140737488355328)] kr)
  ·exact (by (try simp only [zsl]);exact wk At.Ce [sqx (2=2),sg h1,sb h2,sqx (AllLen (List.map Col.cells s.cols) 4/\((List.map Col.cells s.cols).length * 32).le 140737488355328),sc (zd1 a znS),sqx (True/\True/\(List.map Col.cells s.cols).length=(List.map Col.cells s.cols).length/\True/\True),sqx (AllLen [[sv ZsO,bv true,ZC s.cols,vsl (zdO a)]] 4/\Nat.le 72 140737488355328),sg h1,sb h2,sqx (AllLen (List.map Col.cells s.cols) 4/\((List.map Col.cells s.cols).length * 32).le 140737488355328),sc (zd1 b znS),sqx (True/\True/\(List.map Col.cells s.cols).length=(List.map Col.cells s.cols).length/\True/\True),sqx (AllLen [[sv ZsN,bv true,ZC s.cols,vsl (zdO b)]] 4/\1=1/\Nat.le 144 140737488355328)] kr)
def plIn (p:Pl) (s:Sch):Pl :=
 Pl.mk (p.frs++[Fr.mk s.name false s.cols []]) p.tbs
theorem zbX (p:Pl) (s:Sch) (hp:zac p.frs):zab E0 S.C6 [p.av,s.av] [] ((plIn p s).av) []:=by
 unfold plIn
 exact (by (try simp only [zsl]);exact wk At.C6 [sqx ((List.map Fr.cells p.frs++[[sv s.name,bv false,ZC s.cols,AV.sl []]]).length=(List.map Fr.cells p.frs++[[sv s.name,bv false,ZC s.cols,AV.sl []]]).length/\True/\True),sd [(2,[sqx (AllLen (List.map Fr.cells p.frs) 4/\((List.map Fr.cells p.frs).length * 72).le 140737488355328)]),(9,[sqA (List.map Fr.cells p.frs) [[sv s.name,bv false,ZC s.cols,AV.sl []]] ((List.map Fr.cells p.frs).length) 4 72])]] kr)
abbrev Few {α:Type} (l:List α):Prop:=l.length<=1000
abbrev zX:List AV:=[iv 0,iv 0,.bl false,iv 0,iv 0,sv ⟨#[]⟩,sv ⟨#[]⟩,sv ⟨#[]⟩,.nl,.nl]
def zrS (x:X):Prop:=∃ a b,x=xCol a b
def zgW (l:List X):Prop:=∀ x∈l,zrS x
theorem zgW.nil:zgW []:=fun _ h=>by cases h
theorem zgW.app {l m:List X} (h:zgW l) (hm:zgW m):zgW (l++m):=fun x hx=>(List.mem_append.1 hx).elim (h x) (hm x)
theorem zgW.col (a b:Str):zgW [xCol a b]:=fun x hx=>by simp only [List.mem_singleton] at hx;exact ⟨a,b,hx⟩
theorem zgW.at {l:List X} (h:zgW l) {i:Nat} {x:X} (hx:l[i]?=some x):zrS x:=h x (List.mem_of_getElem? hx)
theorem zBg {n:Nat} (h:(((n:Nat):Int)==0)=false) (hb:n<=1000000000):Pos (n:Int):=by
 have:(n:Int)≠0:=by simpa using h
 exact ⟨by omega,by omega⟩
structure Pl.Ok (p:Pl):Prop where
 frs:Few p.frs
 cols:∀ f∈p.frs,Few f.cols
structure TabOk (t:Tb):Prop where
 rows:∀ r∈t.rows,zgX t.sch.cols r.vals
 len:t.rows.length<=1000
structure SchOk (s:Sch):Prop where
 few:Few s.cols
 cols:∀ c∈s.cols,ColOk c
 ne:s.cols≠[]
theorem SchOk.short {s:Sch} (h:SchOk s):zac s.cols:=by have:=h.few;simp only [Few] at this;simp only [zac];omega
def zee (l:List V) (key:Int):V:=l.getD key.toNat V.null
abbrev zkA (s:Sch) (rows:List Rw):Prop:=∀ r∈rows,zgX s.cols r.vals
theorem zkA.len {s:Sch} {rows:List Rw} (h:zkA s rows) {i:Nat} {x:Rw} (hx:rows[i]?=some x):x.vals.length=s.cols.length:=(h x (List.mem_of_getElem? hx)).len
theorem zkA.push {s:Sch} {rows:List Rw} (h:zkA s rows) {x:Rw} (hx:zgX s.cols x.vals):zkA s (rows++[x]):=fun r hr=>(List.mem_append.1 hr).elim (h r) fun h=>by simp only [List.mem_singleton] at h;exact h ▸ hx
theorem zfo {x:Sch} (hx:x∈zao):SchOk x:=by
 simp only [zao,List.mem_cons,List.not_mem_nil,or_false] at hx
 rcases hx with rfl|rfl|rfl <;> exact ⟨by simp,by simp [ColOk],by simp⟩
structure StoreOk (l:List Tb):Prop where
 len:l.length<=1000
 tabs:∀ t∈l,TabOk t/\SchOk t.sch
theorem StoreOk.push {l:List Tb} (h:StoreOk l) (hl:l.length+1<=1000) {t:Tb} (ht:TabOk t) (hs:SchOk t.sch):StoreOk (l++[t]) :=
 ⟨by simp;omega,fun x hx=>(List.mem_append.1 hx).elim (h.tabs x) fun h=>by simp only [List.mem_singleton] at h;exact h ▸ ⟨ht,hs⟩⟩
abbrev Thin {α:Type} (k:Nat) (l:List α):Prop:=l.length<=k
theorem Thin.few {α:Type} {k:Nat} {l:List α} (h:Thin k l) (hk:k<=1000:=by decide):Few l:=Nat.le_trans h hk
theorem Thin.short {α:Type} {k:Nat} {l:List α} (h:Thin k l) (hk:k<=1000000000:=by decide):zac l:=Nat.le_trans h hk
def XOk:Nat->X->Prop
 | 0,_=>False
 | n+1,e=>e.val.Good/\(Thin 3 e.args/\Thin 1 e.sub)/\(∀ x∈e.args,XOk n x)/\∀ q∈e.sub,(Thin 8 q.items/\Thin 1 q.wh)/\(∀ x∈q.items,XOk n x)/\∀ x∈q.wh,XOk n x
theorem XOk.mono:∀ {n:Nat} {e:X},XOk n e->XOk (n+1) e
 | 0,_,h=>h.elim
 | n+1,e,⟨h1,h2,h3,h4⟩=>⟨h1,h2,fun x hx=>(h3 x hx).mono,fun q hq=>⟨(h4 q hq).1,fun x hx=>((h4 q hq).2.1 x hx).mono,fun x hx=>((h4 q hq).2.2 x hx).mono⟩⟩
theorem XOk.le {n m:Nat} {e:X} (h:XOk n e) (hm:n<=m):XOk m e:=by
 induction hm with
 | refl=>exact h
 | step _ ih=>exact ih.mono
theorem zfC {n:Nat} {v:V} (h:v.Good):XOk (n+1) (xLit v):=⟨h,⟨by simp [xLit],by simp [xLit]⟩,fun x hx=>by simp [xLit] at hx,fun q hq=>by simp [xLit] at hq⟩
theorem zlo {n:Nat} {x:X} (h:zrS x):XOk (n+1) x:=by
 obtain ⟨a,b,rfl⟩:=h
 exact ⟨zb3,⟨by simp [xCol],by simp [xCol]⟩,fun x hx=>by simp [xCol] at hx,fun q hq=>by simp [xCol] at hq⟩
theorem zoY {n:Nat} {k o:Int} {nt:Bool} {l:List X} (hl:Thin 3 l) (h:∀ x∈l,XOk n x):XOk (n+1) (X.mk k o nt ⟨0,0,⟨#[]⟩⟩ ⟨#[]⟩ ⟨#[]⟩ l []) :=
 ⟨zb3,⟨hl,by simp⟩,h,fun q hq=>by simp at hq⟩
theorem zxr {n:Nat} {k o:Int} {nt:Bool} {a:X} (h:XOk n a):XOk (n+1) (X.mk k o nt ⟨0,0,⟨#[]⟩⟩ ⟨#[]⟩ ⟨#[]⟩ [a] []) :=
 zoY Zs fun x hx=>by simp only [List.mem_singleton] at hx;exact hx ▸ h
theorem zkb {n:Nat} {k o:Int} {nt:Bool} {a b:X} (h:XOk n a) (h2:XOk n b):XOk (n+1) (X.mk k o nt ⟨0,0,⟨#[]⟩⟩ ⟨#[]⟩ ⟨#[]⟩ [a,b] []) :=
 zoY Zs fun x hx=>by simp only [List.mem_cons,List.not_mem_nil,or_false] at hx;rcases hx with rfl|rfl <;> assumption
theorem zxs {n:Nat} {k o:Int} {nt:Bool} {a b c:X} (h:XOk n a) (h2:XOk n b) (h3:XOk n c):XOk (n+1) (X.mk k o nt ⟨0,0,⟨#[]⟩⟩ ⟨#[]⟩ ⟨#[]⟩ [a,b,c] []) :=
 zoY Zs fun x hx=>by simp only [List.mem_cons,List.not_mem_nil,or_false] at hx;rcases hx with rfl|rfl|rfl <;> assumption
theorem xok_q {n:Nat} {k:Int} {s:Bool} {i w:List X} {f:Str} (hi:Thin 8 i) (h1:∀ x∈i,XOk n x) (h2:∀ x∈w,XOk n x) (hw:Thin 1 w:=by simp):XOk (n+1) (X.mk k 0 false ⟨0,0,⟨#[]⟩⟩ ⟨#[]⟩ ⟨#[]⟩ [] [Qy.mk s i f w]) :=
 ⟨zb3,⟨by simp,by simp⟩,fun x hx=>by simp at hx,fun q hq=>by
  simp only [X.sub_mk,List.mem_singleton] at hq
  subst hq
  exact ⟨⟨hi,hw⟩,h1,h2⟩⟩
theorem all0 {n:Nat}:∀ x∈([]:List X),XOk n x:=fun x hx=>by cases hx
theorem all1 {n:Nat} {a:X} (h:XOk n a):∀ x∈[a],XOk n x:=fun x hx=>by simp only [List.mem_singleton] at hx;exact hx ▸ h
theorem zgU {n:Nat} {a:Int} (h:-9223372036854775808 < a) (h2:a<=9223372036854775807):XOk (n+2) (xNum a):=by
 unfold xNum
 cases decide (a < 0)
 ·exact zfC (zcB ⟨by omega,by omega⟩)
 ·exact zxr (zfC (zcB (zgG _)))
structure Pl.OkN (n:Nat) (p:Pl):Prop where
 frs:p.frs.length+n<=1000
 cols:∀ f∈p.frs,Few f.cols
 ne:p.tbs≠[]
 few:Few p.tbs
 tcols:∀ s∈p.tbs,Few s.cols
theorem Pl.OkN.few1 {n:Nat} {p:Pl} (h:p.OkN n):Few p.frs:=by have:=h.frs;simp only [Few];omega
theorem Pl.OkN.short {n:Nat} {p:Pl} (h:p.OkN n):zac p.frs:=by have:=h.frs;simp only [zac];omega
theorem Pl.OkN.less {n:Nat} {p:Pl} (h:p.OkN (n+1)):p.OkN n:=⟨by have:=h.frs;omega,h.cols,h.ne,h.few,h.tcols⟩
theorem Pl.OkN.pos {n:Nat} {p:Pl} (h:p.OkN n):Pos (((p.tbs.map Sch.cells).length:Nat):Int):=by
 have h1:=h.few
 have h2:0 < p.tbs.length:=List.length_pos_iff.2 h.ne
 simp only [Few] at h1
 simp only [Pos,List.length_map];omega
theorem Pl.OkN.ins {n:Nat} {p:Pl} (h:p.OkN (n+1)) {k:Nat} {s:Sch} (hs:p.tbs[k]?=some s):(plIn p s).OkN n:=by
 refine ⟨by have:=h.frs;simp [plIn];omega,fun f hf=>?_,h.ne,h.few,h.tcols⟩
 simp only [plIn,List.mem_append,List.mem_singleton] at hf
 rcases hf with hf|rfl
 ·exact h.cols f hf
 ·exact h.tcols s (List.mem_of_getElem? hs)
def opAt (k:Nat):Int:=[9,10,11,9,12,13].getD k 0
theorem zhf (k:Nat) (h:(k:Int) < 6):ElAt [[iv 9],[iv 10],[iv 11],[iv 9],[iv 12],[iv 13]] (k:Int) [iv (opAt k)] 1:=by
 have h:k=0\/k=1\/k=2\/k=3\/k=4\/k=5:=by omega
 rcases h with rfl|rfl|rfl|rfl|rfl|rfl <;> exact ⟨by decide,rfl,rfl⟩
abbrev dpt (n:Nat):Int:=(n:Int) - 1
theorem dpt1 (n:Nat) (hn:n<=500):IntKind.i64.wrap (dpt (n+2) - 1)=dpt (n+1):=by rw [IntKind.wrap_i64];simp only [dpt];omega
theorem dpt2 (n:Nat) (hn:n<=500):IntKind.i64.wrap (dpt (n+2) - 2)=dpt n:=by rw [IntKind.wrap_i64];simp only [dpt];omega
theorem znT {p:Prop} (h:p:=by first|assumption|(simp;done)|(simp;omega)|omega|(simp at *;omega)):p:=h
theorem zsB {p:Prop} (h:p:=by first|assumption|omega|(simp;done)|(simp;omega)):p:=h
theorem zsC {p:Prop} (h:p:=by first|omega|(simp only [zac,Few] at *;omega)):p:=h
theorem zw2 {p:Prop} (h:p:=by have ih:=zfX l 1 1 hl l.length 0 Zs;exact ih):p:=h
def za1:Fr:=⟨⟨#[]⟩,false,[],[]⟩
theorem zqH {α:Type} {l:List α} {k:Nat} (d:α) (h:k < l.length):l[k]?=some (l.getD k d):=by
 rw [List.getD_eq_getElem?_getD,List.getElem?_eq_getElem h];rfl
noncomputable def L_sres (frs:List Fr) (q n:Str) (k:Nat) :Cfg:=zan B.Cq 0 [(0,fsl frs),(1,sv q),(2,sv n),(9,iv (pm1 k))] []
def sres (frs:List Fr) (q n:Str):Nat->Int × Int × Bool
 | 0 =>
  (0,0,false)
 | k+1 =>
  bif ByteArray.toList q==Zs0.toList then
   bif (frs.getD k za1).strict then
    sres frs q n (k)
   else
    bif decide (0<=idxF (fun c=>colC c n) (Sch.mk Zs0 (frs.getD k za1).cols).cols 0) then
     (pm1 (k+1),idxF (fun c=>colC c n) (Sch.mk Zs0 (frs.getD k za1).cols).cols 0,true)
    else
     sres frs q n (k)
  else
   bif !ByteArray.toList (frs.getD k za1).name==ByteArray.toList q then
    sres frs q n (k)
   else
    bif decide (0<=idxF (fun c=>colC c n) (Sch.mk Zs0 (frs.getD k za1).cols).cols 0) then
     (pm1 (k+1),idxF (fun c=>colC c n) (Sch.mk Zs0 (frs.getD k za1).cols).cols 0,true)
    else
     sres frs q n (k)
theorem zuU (frs:List Fr) (q n:Str) (hl:zac frs) (hc:∀ f∈frs,zac f.cols):∀ (k:Nat),k<=1000000000->k<=frs.length->Good E0 B.Cq [] (L_sres frs q n k ) (Shut 0 fun r h=>r=(.tup [iv (sres frs q n k ).1,iv (sres frs q n k ).2.1,bv (sres frs q n k ).2.2])/\h=[]):=by
 intro k
 induction k with
 | zero =>
  intro  hk hk2
  simp only [sres]
  refine zaa ?_
  exact wkr [sb Zf] kr
 | succ k ih =>
  intro  hk hk2
  have h0:decide ((0:Int)<=((k:Nat):Int))=true:=by simp
  have hw:=zoV k Zo
  have hx:=zqH (l:=frs) (k:=k) za1 Zo;have hcx:=hc _ (List.mem_of_getElem? hx)
  simp only [sres]
  refine zaa ?_
  cases h1:ByteArray.toList q==Zs0.toList
  ·cases h2:!ByteArray.toList (frs.getD k za1).name==ByteArray.toList q
   ·cases h3:decide (0<=idxF (fun c=>colC c n) (Sch.mk Zs0 (frs.getD k za1).cols).cols 0)
    ·exact wkl [sb Zt,se (zai Fr.cells hx rfl),sb h1,sg (congrArg Bool.not h1),sb h2,sc (zct (Sch.mk Zs0 (frs.getD k za1).cols) n zsB),sb h3,si hw] [0,1,2,9] 0 kr (ih  Zo znT)
    ·exact wkr [sb Zt,se (zai Fr.cells hx rfl),sb h1,sg (congrArg Bool.not h1),sb h2,sc (zct (Sch.mk Zs0 (frs.getD k za1).cols) n zsB),sb h3] kr
   ·exact wkl [sb Zt,se (zai Fr.cells hx rfl),sb h1,sg (congrArg Bool.not h1),sb h2,si hw] [0,1,2,9] 0 kr (ih  Zo znT)
  ·cases h4:(frs.getD k za1).strict
   ·cases h5:decide (0<=idxF (fun c=>colC c n) (Sch.mk Zs0 (frs.getD k za1).cols).cols 0)
    ·exact wkl [sb Zt,se (zai Fr.cells hx rfl),sg h1,sg h4,sb (congrArg Bool.not h1),sc (zct (Sch.mk Zs0 (frs.getD k za1).cols) n zsB),sb h5,si hw] [0,1,2,9] 0 kr (ih  Zo znT)
    ·exact wkr [sb Zt,se (zai Fr.cells hx rfl),sg h1,sg h4,sb (congrArg Bool.not h1),sc (zct (Sch.mk Zs0 (frs.getD k za1).cols) n zsB),sb h5] kr
   ·exact wkl [sb Zt,se (zai Fr.cells hx rfl),sg h1,sb h4,si hw] [0,1,2,9] 0 kr (ih  Zo znT)
theorem zuu {α:Type} (f:α->List AV) (l:List α) (h:zac l):IntKind.i64.wrap ((((l.map f).length:Nat):Int) - 1)=pm1 l.length:=by
 rw [List.length_map];exact zoV _ (by simp only [zac] at h;omega)
def zcn (frs:List Fr) (q n:Str):Int × Int × Bool :=
 sres frs q n (frs.length)
theorem zpE (frs:List Fr) (q n:Str) (hl:zac frs) (hc:∀ f∈frs,zac f.cols) (hw0:IntKind.i64.wrap ((((frs.map Fr.cells).length:Nat):Int) - 1)=pm1 frs.length):zab E0 S.Cq [fsl frs,sv q,sv n] [] (.tup [iv (zcn frs q n).1,iv (zcn frs q n).2.1,bv (zcn frs q n).2.2]) []:=by
 unfold zcn
 exact wkc At.Cq [si hw0] [0,1,2,9] 0 kr (by have ih:=zuU frs q n hl hc frs.length (by simp only [zac] at hl;omega) (Nat.le_refl _);exact ih)
noncomputable def zvc (frs:List Fr) (q n:Str) (k:Nat):Cfg:=zan B.BV 0 [(0,fsl frs),(1,sv q),(2,sv n),(9,iv (pm1 k))] []
noncomputable def zAt (frs:List Fr) (q n:Str) (k:Nat) (f:Fr) (els:Int × Int × Bool) (j:Nat) :Cfg:=zan B.BV 1 [(0,fsl frs),(1,sv q),(2,sv n),(9,iv (pm1 (k+1))),(41,.sl (f.cols.map Col.cells)),(42,iv ((f.cols.map Col.cells).length:Nat)),(43,iv (j:Nat))] []
def zc7 (frs:List Fr) (q n:Str) (k:Nat) (f:Fr) (els:Int × Int × Bool):List (Col)->Nat->Int × Int × Bool
 | [],j =>
  els
 | x::r,j =>
  bif ByteArray.toList x.name==ByteArray.toList n then
   (pm1 (k+1),(j:Int),true)
  else
   zc7 frs q n k f els r (j+1)
theorem zm4 (frs:List Fr) (q n:Str) (k:Nat) (f:Fr) (els:Int × Int × Bool) (hl:zac f.cols) (hwk:IntKind.i64.wrap (((k:Nat):Int) - 1)=pm1 k) (hels:Good E0 B.BV [] (zvc frs q n k) (Shut 0 fun r h=>r=.tup [iv els.1,iv els.2.1,bv els.2.2]/\h=[])):∀ (kk j:Nat),j+kk=(f.cols).length->Good E0 B.BV [] (zAt frs q n k f els j ) (Shut 0 fun r h=>r=(.tup [iv (zc7 frs q n k f els ((f.cols).drop j) j ).1,iv (zc7 frs q n k f els ((f.cols).drop j) j ).2.1,bv (zc7 frs q n k f els ((f.cols).drop j) j ).2.2])/\h=[]):=by
 intro kk
 induction kk with
 | zero =>
  intro j  hi
  have h0:decide (((j:Nat):Int) < (((f.cols.map Col.cells).length:Nat):Int))=false:=by simp;omega
  have e0:(f.cols).drop j=[]:=List.drop_of_length_le Zo
  rw [e0]
  simp only [zc7]
  refine zaa ?_
  exact wkl [sb h0,si hwk] [0,1,2,9] 0 kr (hels)
 | succ kk ih =>
  intro j  hi
  obtain ⟨x,hx⟩:=zbK (l:=f.cols) (i:=j) Zo
  have h0:decide (((j:Nat):Int) < (((f.cols.map Col.cells).length:Nat):Int))=true:=by simp;omega
  have hw:=zbw j zsC
  rw [zcN hx]
  simp only [zc7]
  refine zaa ?_
  cases h1:ByteArray.toList x.name==ByteArray.toList n
  ·exact wkl [sb h0,se (zai Col.cells hx rfl),sb h1,si hw] [0,1,2,9,41,42,43] 0 kr (ih (j+1) Zo )
  ·exact wkr [sb h0,se (zai Col.cells hx rfl),sb h1] kr
def rres (frs:List Fr) (q n:Str):Nat->Int × Int × Bool
 | 0 =>
  (0,0,false)
 | k+1 =>
  bif ByteArray.toList q==Zs0.toList then
   bif (frs.getD k za1).strict then
    rres frs q n (k)
   else
    zc7 frs q n k (frs.getD k za1) (rres frs q n k) (frs.getD k za1).cols 0
  else
   bif !ByteArray.toList (frs.getD k za1).name==ByteArray.toList q then
    rres frs q n (k)
   else
    zc7 frs q n k (frs.getD k za1) (rres frs q n k) (frs.getD k za1).cols 0
theorem zuR (frs:List Fr) (q n:Str) (hl:zac frs) (hc:∀ f∈frs,zac f.cols):∀ (k:Nat),k<=1000000000->k<=frs.length->Good E0 B.BV [] (zvc frs q n k ) (Shut 0 fun r h=>r=(.tup [iv (rres frs q n k ).1,iv (rres frs q n k ).2.1,bv (rres frs q n k ).2.2])/\h=[]):=by
 intro k
 induction k with
 | zero =>
  intro  hk hk2
  simp only [rres]
  refine zaa ?_
  exact wkr [sb Zf] kr
 | succ k ih =>
  intro  hk hk2
  have h0:decide ((0:Int)<=((k:Nat):Int))=true:=by simp
  have hw:=zoV k Zo
  have hx:=zqH (l:=frs) (k:=k) za1 Zo;have hcx:=hc _ (List.mem_of_getElem? hx)
  simp only [rres]
  refine zaa ?_
  cases h1:ByteArray.toList q==Zs0.toList
  ·cases h2:!ByteArray.toList (frs.getD k za1).name==ByteArray.toList q
   ·exact wkl [sb Zt,se (zai Fr.cells hx rfl),sb h1,sg (congrArg Bool.not h1),sb h2] [0,1,2,9,41,42,43] 0 kr (by have ih2:=zm4 frs q n k (frs.getD k za1) (rres frs q n k) hcx hw (ih Zo Zo) (frs.getD k za1).cols.length 0 Zs;exact ih2)
   ·exact wkl [sb Zt,se (zai Fr.cells hx rfl),sb h1,sg (congrArg Bool.not h1),sb h2,si hw] [0,1,2,9] 0 kr (ih  Zo znT)
  ·cases h3:(frs.getD k za1).strict
   ·exact wkl [sb Zt,se (zai Fr.cells hx rfl),sg h1,sg h3,sb (congrArg Bool.not h1)] [0,1,2,9,41,42,43] 0 kr (by have ih2:=zm4 frs q n k (frs.getD k za1) (rres frs q n k) hcx hw (ih Zo Zo) (frs.getD k za1).cols.length 0 Zs;exact ih2)
   ·exact wkl [sb Zt,se (zai Fr.cells hx rfl),sg h1,sb h3,si hw] [0,1,2,9] 0 kr (ih  Zo znT)
def za6 (frs:List Fr) (q n:Str):Int × Int × Bool :=
 rres frs q n (frs.length)
theorem zdi (frs:List Fr) (q n:Str) (hl:zac frs) (hc:∀ f∈frs,zac f.cols) (hw0:IntKind.i64.wrap ((((frs.map Fr.cells).length:Nat):Int) - 1)=pm1 frs.length):zab E0 S.BV [fsl frs,sv q,sv n] [] (.tup [iv (za6 frs q n).1,iv (za6 frs q n).2.1,bv (za6 frs q n).2.2]) []:=by
 unfold za6
 exact wkc At.BV [si hw0] [0,1,2,9] 0 kr (by have ih:=zuR frs q n hl hc frs.length (by simp only [zac] at hl;omega) (Nat.le_refl _);exact ih)
noncomputable def zAu (tb:List Tb) (n:Str) (i:Nat) :Cfg:=zan B.Cu 0 [(1,sv n),(4,.p 0 0),(9,tsl tb),(10,iv ((tb.map Tb.cells).length:Nat)),(11,iv (i:Nat))] [.box [sv ⟨#[]⟩,.nl]]
def zbS (tb:List Tb) (n:Str):List (Tb)->Nat->Sch × Bool
 | [],i =>
  (Sch.mk Zs0 [],false)
 | x::r,i =>
  bif ByteArray.toList x.sch.name==ByteArray.toList n then
   (x.sch,true)
  else
   zbS tb n r (i+1)
theorem ztJ (tb:List Tb) (n:Str) (hl:zac tb) (hc:∀ x∈tb,zac x.sch.cols):∀ (kk i:Nat),i+kk=(tb).length->Good E0 B.Cu [] (zAu tb n i ) (Shut 0 fun r h=>r=(.tup [(zbS tb n ((tb).drop i) i ).1.av,bv (zbS tb n ((tb).drop i) i ).2])/\h=[]):=by
 intro kk
 induction kk with
 | zero =>
  intro i  hi
  have h0:decide (((i:Nat):Int) < (((tb.map Tb.cells).length:Nat):Int))=false:=by simp;omega
  have e0:(tb).drop i=[]:=List.drop_of_length_le Zo
  rw [e0]
  simp only [zbS]
  refine zaa ?_
  exact wkr [sb h0] kr
 | succ kk ih =>
  intro i  hi
  obtain ⟨x,hx⟩:=zbK (l:=tb) (i:=i) Zo
  have h0:decide (((i:Nat):Int) < (((tb.map Tb.cells).length:Nat):Int))=true:=by simp;omega
  have hw:=zbw i zsC
  have hcx:=hc x (List.mem_of_getElem? hx)
  rw [zcN hx]
  simp only [zbS]
  refine zaa ?_
  cases h1:ByteArray.toList x.sch.name==ByteArray.toList n
  ·exact wkl [sb h0,se (zai Tb.cells hx rfl),sb h1,si hw] [1,4,9,10,11] 1 kr (ih (i+1) Zo )
  ·exact wkr [sqx ((True/\(List.map Col.cells x.sch.cols).length=(List.map Col.cells x.sch.cols).length/\True)/\True/\True),sb h0,se (zai Tb.cells hx rfl),sb h1,sqx (AllLen (List.map Col.cells x.sch.cols) 4/\((List.map Col.cells x.sch.cols).length * 32).le 140737488355328)] kr
def zaf (tb:List Tb) (n:Str):Sch × Bool :=
 zbS tb n tb (0)
theorem zbe (tb:List Tb) (n:Str) (hl:zac tb) (hc:∀ x∈tb,zac x.sch.cols):zab E0 S.Cu [tsl tb,sv n] [] (.tup [(zaf tb n).1.av,bv (zaf tb n).2]) []:=by
 unfold zaf
 exact wkc At.Cu [] [1,4,9,10,11] 1 kr (by have ih:=ztJ tb n hl hc tb.length 0 Zs;exact ih)
def zar (frs:List Fr) (s:Sch) (v:List V):(List Fr) :=
 frs++[Fr.mk s.name false s.cols v]
theorem zc2 (frs:List Fr) (s:Sch) (v:List V) (hl:zac frs):zab E0 S.C4 [fsl frs,s.av,vsl v] [] (fsl (zar frs s v)) []:=by
 unfold zar
 exact (by (try simp only [zsl,xCol,xLit,xBin,xNeg]);exact wk At.C4 [sqx ((List.map Fr.cells frs++[[sv s.name,bv false,ZC s.cols,vsl v]]).length=(List.map Fr.cells frs++[[sv s.name,bv false,ZC s.cols,vsl v]]).length),sqx (AllLen (List.map Fr.cells frs) 4/\((List.map Fr.cells frs).length * 72).le 140737488355328),sqA (List.map Fr.cells frs) [[sv s.name,bv false,ZC s.cols,vsl v]] ((List.map Fr.cells frs).length) 4 72] kr)
def zhX (t w:Int):Bool :=
 bif t==0 then
  true
 else
  t==w
theorem zb6 (t w:Int) :zab E0 S.CZ [iv t,iv w] [] (bv (zhX t w)) []:=by
 unfold zhX
 cases h1:t==0
 ·exact wk At.CZ [sg h1] kr
 ·exact wk At.CZ [sb h1] kr
noncomputable def zAs (l:List Int) (want give:Int) (i:Nat) :Cfg:=zan B.A4 1 [(6,iv want),(7,iv give),(54,isl l),(55,iv ((l.map fun n=>[iv n]).length:Nat)),(56,iv (i:Nat))] []
def zf3 (l:List Int) (want give:Int):List (Int)->Nat->Int × Int
 | [],i =>
  (give,0)
 | x::r,i =>
  bif !zhX x want then
   (0,5)
  else
   zf3 l want give r (i+1)
theorem zfX (l:List Int) (want give:Int) (hl:zac l):∀ (kk i:Nat),i+kk=(l).length->Good E0 B.A4 [] (zAs l want give i ) (Shut 0 fun r h=>r=(.tup [iv (zf3 l want give ((l).drop i) i ).1,iv (zf3 l want give ((l).drop i) i ).2])/\h=[]):=by
 intro kk
 induction kk with
 | zero =>
  intro i  hi
  have h0:decide (((i:Nat):Int) < (((l.map fun n=>[iv n]).length:Nat):Int))=false:=by simp;omega
  have e0:(l).drop i=[]:=List.drop_of_length_le Zo
  rw [e0]
  simp only [zf3]
  refine zaa ?_
  exact wkr [sb h0] kr
 | succ kk ih =>
  intro i  hi
  obtain ⟨x,hx⟩:=zbK (l:=l) (i:=i) Zo
  have h0:decide (((i:Nat):Int) < (((l.map fun n=>[iv n]).length:Nat):Int))=true:=by simp;omega
  have hw:=zbw i zsC
  rw [zcN hx]
  simp only [zf3]
  refine zaa ?_
  cases h1:!zhX x want
  ·exact wkl [sb h0,se (zai (fun n=>[iv n]) hx rfl),sc (zb6 x want),sb h1,si hw] [6,7,54,55,56] 0 kr (ih (i+1) Zo )
  ·exact wkr [sb h0,se (zai (fun n=>[iv n]) hx rfl),sc (zb6 x want),sb h1] kr
noncomputable def zy8 (l:List Int) (i:Nat) (want:Int):Cfg:=zan B.A4 0 [(1,isl l),(6,iv want),(7,iv 2),(12,isl l),(13,iv ((l.map fun n=>[iv n]).length:Nat)),(14,iv (i:Nat))] []
def zhn (l:List Int):List (Int)->Nat->(Int)->Int × Int
 | [],i,want =>
  zf3 l want 2 l 0
 | x::r,i,want =>
  bif x != 0 then
   zhn l r (i+1) (x)
  else
   zhn l r (i+1) (want)
theorem zme (l:List Int) (hl:zac l):∀ (kk i:Nat) (want:Int),i+kk=(l).length->Good E0 B.A4 [] (zy8 l i want) (Shut 0 fun r h=>r=(.tup [iv (zhn l ((l).drop i) i want).1,iv (zhn l ((l).drop i) i want).2])/\h=[]):=by
 intro kk
 induction kk with
 | zero =>
  intro i want hi
  have h0:decide (((i:Nat):Int) < (((l.map fun n=>[iv n]).length:Nat):Int))=false:=by simp;omega
  have e0:(l).drop i=[]:=List.drop_of_length_le Zo
  rw [e0]
  simp only [zhn]
  refine zaa ?_
  exact wkl [sb h0] [6,7,54,55,56] 0 kr (zfX l want 2 hl l.length 0 Zs)
 | succ kk ih =>
  intro i want hi
  obtain ⟨x,hx⟩:=zbK (l:=l) (i:=i) Zo
  have h0:decide (((i:Nat):Int) < (((l.map fun n=>[iv n]).length:Nat):Int))=true:=by simp;omega
  have hw:=zbw i zsC
  rw [zcN hx]
  simp only [zhn]
  refine zaa ?_
  cases h1:x != 0
  ·exact wkl [sb h0,se (zai (fun n=>[iv n]) hx rfl),sb h1,si hw] [1,6,7,12,13,14] 0 kr (ih (i+1) want Zo )
  ·exact wkl [sb h0,se (zai (fun n=>[iv n]) hx rfl),sb h1,si hw] [1,6,7,12,13,14] 0 kr (ih (i+1) x Zo )
def zkX (e:X) (l:List Int):Int × Int :=
 bif e.kind==6 then
  (2,0)
 else
  bif e.kind==3 then
   zf3 l 2 2 l 0
  else
   bif e.kind==5 then
    bif decide (e.op<=2) then
     zf3 l 2 2 l 0
    else
     bif e.kind==4 then
      zf3 l 1 1 l 0
     else
      bif decide (9<=e.op) then
       zf3 l 1 1 l 0
      else
       zhn l l 0 (-1)
   else
    bif e.kind==4 then
     zf3 l 1 1 l 0
    else
     zhn l l 0 (-1)
theorem zqL (e:X) (l:List Int) (hl:zac l):zab E0 S.A4 [e.av,isl l] [] (.tup [iv (zkX e l).1,iv (zkX e l).2]) []:=by
 unfold zkX
 cases h1:e.kind==6
 ·cases h2:e.kind==3
  ·cases h3:e.kind==5
   ·cases h4:e.kind==4
    ·exact wkc At.A4 [sb h1,sg h2,sb h3,sg h4,sb h3] [1,6,7,12,13,14] 0 kr (by have ih:=zme l hl l.length 0 (-1) Zs;exact ih)
    ·exact wkc At.A4 [sb h1,sg h2,sb h3,sb h4] [6,7,54,55,56] 0 kr zw2
   ·cases h5:decide (e.op<=2)
    ·cases h6:e.kind==4
     ·cases h7:decide (9<=e.op)
      ·exact wkc At.A4 [sb h1,sg h2,sg h3,sb h5,sg h6,sg h3,sb h7] [1,6,7,12,13,14] 0 kr (by have ih:=zme l hl l.length 0 (-1) Zs;exact ih)
      ·exact wkc At.A4 [sb h1,sg h2,sg h3,sb h5,sg h6,sg h3,sb h7] [6,7,54,55,56] 0 kr zw2
     ·exact wkc At.A4 [sb h1,sg h2,sg h3,sb h5,sb h6] [6,7,54,55,56] 0 kr zw2
    ·exact wkc At.A4 [sb h1,sg h2,sg h3,sb h5] [6,7,54,55,56] 0 kr (by have ih:=zfX l 2 2 hl l.length 0 Zs;exact ih)
  ·exact wkc At.A4 [sb h1,sb h2] [6,7,54,55,56] 0 kr (by have ih:=zfX l 2 2 hl l.length 0 Zs;exact ih)
 ·exact wk At.A4 [sb h1] kr
def zug (kind op:Int) (xs:List X) (qs:List Qy) (st:Bool) (it wh:List X):Bool :=
 bif kind==1 then
  bif (↑(zad xs).length:Int)==0 then
   (↑(zal qs).length:Int)==0
  else
   false
 else
  bif kind==2 then
   bif (↑(zad xs).length:Int)==0 then
    (↑(zal qs).length:Int)==0
   else
    false
  else
   bif kind==3 then
    bif (↑(zad xs).length:Int)==1 then
     (↑(zal qs).length:Int)==0
    else
     false
   else
    bif kind==4 then
     bif (↑(zad xs).length:Int)==1 then
      (↑(zal qs).length:Int)==0
     else
      false
    else
     bif kind==6 then
      bif (↑(zad xs).length:Int)==1 then
       (↑(zal qs).length:Int)==0
      else
       false
     else
      bif kind==5 then
       bif decide (op < 1) then
        false
       else
        bif decide (13 < op) then
         false
        else
         bif (↑(zad xs).length:Int)==2 then
          (↑(zal qs).length:Int)==0
         else
          false
      else
       bif kind==7 then
        bif (↑(zad xs).length:Int)==3 then
         (↑(zal qs).length:Int)==0
        else
         false
       else
        bif kind==8 then
         bif (↑(zad xs).length:Int)==0 then
          bif (↑(zal qs).length:Int)==1 then
           bif (↑(zad it).length:Int)==0 then
            decide ((↑(zad wh).length:Int)<=1)
           else
            false
          else
           false
         else
          false
        else
         bif kind==9 then
          bif (↑(zad xs).length:Int)==0 then
           bif (↑(zal qs).length:Int)==1 then
            bif (↑(zad it).length:Int)==0 then
             decide ((↑(zad wh).length:Int)<=1)
            else
             false
           else
            false
          else
           false
         else
          bif kind==10 then
           bif (↑(zad xs).length:Int)==0 then
            bif (↑(zal qs).length:Int)==1 then
             bif (↑(zad it).length:Int)==1 then
              decide ((↑(zad wh).length:Int)<=1)
             else
              false
            else
             false
           else
            false
          else
           bif kind==11 then
            bif (↑(zad xs).length:Int)==0 then
             bif (↑(zal qs).length:Int)==1 then
              bif (↑(zad it).length:Int)==1 then
               decide ((↑(zad wh).length:Int)<=1)
              else
               false
             else
              false
            else
             false
           else
            bif kind==12 then
             bif (↑(zad xs).length:Int)==0 then
              bif (↑(zal qs).length:Int)==1 then
               bif (↑(zad it).length:Int)==1 then
                decide ((↑(zad wh).length:Int)<=1)
               else
                false
              else
               false
             else
              false
            else
             false
theorem zoF (kind op:Int) (xs:List X) (qs:List Qy) (st:Bool) (it wh:List X) (nt:Bool) (val:V) (tn nm:Str) (fm:Str) (hq:qs[0]?=some (Qy.mk st it fm wh)):zab E0 S.Ae [X.av (.mk kind op nt val tn nm xs qs)] [] (bv (zug kind op xs qs st it wh)) []:=by
 unfold zug
 cases h1:kind==1
 ·cases h2:kind==2
  ·cases h3:kind==3
   ·cases h4:kind==4
    ·cases h5:kind==6
     ·cases h6:kind==5
      ·cases h7:kind==7
       ·cases h8:kind==8
        ·cases h9:kind==9
         ·cases h10:kind==10
          ·cases h11:kind==11
           ·cases h12:kind==12
            ·exact wk At.Ae [sb h1,sb h2,sb h3,sb h4,sb h5,sb h6,sb h7,sb h8,sb h9,sb h10,sb h11,sb h12] kr
            ·cases h13:(↑(zad xs).length:Int)==0
             ·exact wk At.Ae [sb h1,sb h2,sb h3,sb h4,sb h5,sb h6,sb h7,sb h8,sb h9,sb h10,sb h11,sb h12,sb Zf,sb h13] kr
             ·cases h14:(↑(zal qs).length:Int)==1
              ·exact wk At.Ae [sb h1,sb h2,sb h3,sb h4,sb h5,sb h6,sb h7,sb h8,sb h9,sb h10,sb h11,sb h12,sb Zf,sg h13,sb h14] kr
              ·cases h15:(↑(zad it).length:Int)==1
               ·exact wk At.Ae [sb h1,sb h2,sb h3,sb h4,sb h5,sb h6,sb h7,sb h8,sb h9,sb h10,sb h11,sb h12,sb Zf,sg h13,sg h14,se (zba hq),sb h15] kr
               ·exact wk At.Ae [sb h1,sb h2,sb h3,sb h4,sb h5,sb h6,sb h7,sb h8,sb h9,sb h10,sb h11,sb h12,sb Zf,sg h13,sg h14,se (zba hq),sg h15,se (zba hq)] kr
           ·cases h16:(↑(zad xs).length:Int)==0
            ·exact wk At.Ae [sb h1,sb h2,sb h3,sb h4,sb h5,sb h6,sb h7,sb h8,sb h9,sb h10,sb h11,sb Zf,sb h16] kr
            ·cases h17:(↑(zal qs).length:Int)==1
             ·exact wk At.Ae [sb h1,sb h2,sb h3,sb h4,sb h5,sb h6,sb h7,sb h8,sb h9,sb h10,sb h11,sb Zf,sg h16,sb h17] kr
             ·cases h18:(↑(zad it).length:Int)==1
              ·exact wk At.Ae [sb h1,sb h2,sb h3,sb h4,sb h5,sb h6,sb h7,sb h8,sb h9,sb h10,sb h11,sb Zf,sg h16,sg h17,se (zba hq),sb h18] kr
              ·exact wk At.Ae [sb h1,sb h2,sb h3,sb h4,sb h5,sb h6,sb h7,sb h8,sb h9,sb h10,sb h11,sb Zf,sg h16,sg h17,se (zba hq),sg h18,se (zba hq)] kr
          ·cases h19:(↑(zad xs).length:Int)==0
           ·exact wk At.Ae [sb h1,sb h2,sb h3,sb h4,sb h5,sb h6,sb h7,sb h8,sb h9,sb h10,sb Zf,sb h19] kr
           ·cases h20:(↑(zal qs).length:Int)==1
            ·exact wk At.Ae [sb h1,sb h2,sb h3,sb h4,sb h5,sb h6,sb h7,sb h8,sb h9,sb h10,sb Zf,sg h19,sb h20] kr
            ·cases h21:(↑(zad it).length:Int)==1
             ·exact wk At.Ae [sb h1,sb h2,sb h3,sb h4,sb h5,sb h6,sb h7,sb h8,sb h9,sb h10,sb Zf,sg h19,sg h20,se (zba hq),sb h21] kr
             ·exact wk At.Ae [sb h1,sb h2,sb h3,sb h4,sb h5,sb h6,sb h7,sb h8,sb h9,sb h10,sb Zf,sg h19,sg h20,se (zba hq),sg h21,se (zba hq)] kr
         ·cases h22:(↑(zad xs).length:Int)==0
          ·exact wk At.Ae [sb h1,sb h2,sb h3,sb h4,sb h5,sb h6,sb h7,sb h8,sb h9,sb Zf,sb h22] kr
          ·cases h23:(↑(zal qs).length:Int)==1
           ·exact wk At.Ae [sb h1,sb h2,sb h3,sb h4,sb h5,sb h6,sb h7,sb h8,sb h9,sb Zf,sg h22,sb h23] kr
           ·cases h24:(↑(zad it).length:Int)==0
            ·exact wk At.Ae [sb h1,sb h2,sb h3,sb h4,sb h5,sb h6,sb h7,sb h8,sb h9,sb Zf,sg h22,sg h23,se (zba hq),sb h24] kr
            ·exact wk At.Ae [sb h1,sb h2,sb h3,sb h4,sb h5,sb h6,sb h7,sb h8,sb h9,sb Zf,sg h22,sg h23,se (zba hq),sg h24,se (zba hq)] kr
        ·cases h25:(↑(zad xs).length:Int)==0
         ·exact wk At.Ae [sb h1,sb h2,sb h3,sb h4,sb h5,sb h6,sb h7,sb h8,sb Zf,sb h25] kr
         ·cases h26:(↑(zal qs).length:Int)==1
          ·exact wk At.Ae [sb h1,sb h2,sb h3,sb h4,sb h5,sb h6,sb h7,sb h8,sb Zf,sg h25,sb h26] kr
          ·cases h27:(↑(zad it).length:Int)==0
           ·exact wk At.Ae [sb h1,sb h2,sb h3,sb h4,sb h5,sb h6,sb h7,sb h8,sb Zf,sg h25,sg h26,se (zba hq),sb h27] kr
           ·exact wk At.Ae [sb h1,sb h2,sb h3,sb h4,sb h5,sb h6,sb h7,sb h8,sb Zf,sg h25,sg h26,se (zba hq),sg h27,se (zba hq)] kr
       ·cases h28:(↑(zad xs).length:Int)==3
        ·exact wk At.Ae [sb h1,sb h2,sb h3,sb h4,sb h5,sb h6,sb h7,sb Zt,sb h28] kr
        ·exact wk At.Ae [sb h1,sb h2,sb h3,sb h4,sb h5,sb h6,sb h7,sb Zt,sg h28] kr
      ·cases h29:decide (op < 1)
       ·cases h30:decide (13 < op)
        ·cases h31:(↑(zad xs).length:Int)==2
         ·exact wk At.Ae [sb h1,sb h2,sb h3,sb h4,sb h5,sb h6,sg h29,sb h30,sb Zt,sb h31] kr
         ·exact wk At.Ae [sb h1,sb h2,sb h3,sb h4,sb h5,sb h6,sg h29,sb h30,sb Zt,sg h31] kr
        ·exact wk At.Ae [sb h1,sb h2,sb h3,sb h4,sb h5,sb h6,sg h29,sb h30] kr
       ·exact wk At.Ae [sb h1,sb h2,sb h3,sb h4,sb h5,sb h6,sb h29] kr
     ·cases h32:(↑(zad xs).length:Int)==1
      ·exact wk At.Ae [sb h1,sb h2,sb h3,sb h4,sb h5,sb Zt,sb h32] kr
      ·exact wk At.Ae [sb h1,sb h2,sb h3,sb h4,sb h5,sb Zt,sg h32] kr
    ·cases h33:(↑(zad xs).length:Int)==1
     ·exact wk At.Ae [sb h1,sb h2,sb h3,sb h4,sb Zt,sb h33] kr
     ·exact wk At.Ae [sb h1,sb h2,sb h3,sb h4,sb Zt,sg h33] kr
   ·cases h34:(↑(zad xs).length:Int)==1
    ·exact wk At.Ae [sb h1,sb h2,sb h3,sb Zt,sb h34] kr
    ·exact wk At.Ae [sb h1,sb h2,sb h3,sb Zt,sg h34] kr
  ·cases h35:(↑(zad xs).length:Int)==0
   ·exact wk At.Ae [sb h1,sb h2,sb h35] kr
   ·exact wk At.Ae [sb h1,sb h2,sg h35] kr
 ·cases h36:(↑(zad xs).length:Int)==0
  ·exact wk At.Ae [sb h1,sb h36] kr
  ·exact wk At.Ae [sb h1,sg h36] kr
def zuf (kind op:Int) (xs:List X):Bool :=
 bif kind==1 then
  bif (↑(zad xs).length:Int)==0 then
   (↑(zal []).length:Int)==0
  else
   false
 else
  bif kind==2 then
   bif (↑(zad xs).length:Int)==0 then
    (↑(zal []).length:Int)==0
   else
    false
  else
   bif kind==3 then
    bif (↑(zad xs).length:Int)==1 then
     (↑(zal []).length:Int)==0
    else
     false
   else
    bif kind==4 then
     bif (↑(zad xs).length:Int)==1 then
      (↑(zal []).length:Int)==0
     else
      false
    else
     bif kind==6 then
      bif (↑(zad xs).length:Int)==1 then
       (↑(zal []).length:Int)==0
      else
       false
     else
      bif kind==5 then
       bif decide (op < 1) then
        false
       else
        bif decide (13 < op) then
         false
        else
         bif (↑(zad xs).length:Int)==2 then
          (↑(zal []).length:Int)==0
         else
          false
      else
       bif kind==7 then
        bif (↑(zad xs).length:Int)==3 then
         (↑(zal []).length:Int)==0
        else
         false
       else
        bif kind==8 then
         bif (↑(zad xs).length:Int)==0 then
          false
         else
          false
        else
         bif kind==9 then
          bif (↑(zad xs).length:Int)==0 then
           false
          else
           false
         else
          bif kind==10 then
           bif (↑(zad xs).length:Int)==0 then
            false
           else
            false
          else
           bif kind==11 then
            bif (↑(zad xs).length:Int)==0 then
             false
            else
             false
           else
            bif kind==12 then
             bif (↑(zad xs).length:Int)==0 then
              false
             else
              false
            else
             false
theorem zoE (kind op:Int) (xs:List X) (nt:Bool) (val:V) (tn nm:Str):zab E0 S.Ae [X.av (.mk kind op nt val tn nm xs [])] [] (bv (zuf kind op xs)) []:=by
 unfold zuf
 cases h1:kind==1
 ·cases h2:kind==2
  ·cases h3:kind==3
   ·cases h4:kind==4
    ·cases h5:kind==6
     ·cases h6:kind==5
      ·cases h7:kind==7
       ·cases h8:kind==8
        ·cases h9:kind==9
         ·cases h10:kind==10
          ·cases h11:kind==11
           ·cases h12:kind==12
            ·exact wk At.Ae [sb h1,sb h2,sb h3,sb h4,sb h5,sb h6,sb h7,sb h8,sb h9,sb h10,sb h11,sb h12] kr
            ·cases h13:(↑(zad xs).length:Int)==0
             ·exact wk At.Ae [sb h1,sb h2,sb h3,sb h4,sb h5,sb h6,sb h7,sb h8,sb h9,sb h10,sb h11,sb h12,sb Zf,sb h13] kr
             ·exact wk At.Ae [sb h1,sb h2,sb h3,sb h4,sb h5,sb h6,sb h7,sb h8,sb h9,sb h10,sb h11,sb h12,sb Zf,sg h13,sb Zf] kr
           ·cases h14:(↑(zad xs).length:Int)==0
            ·exact wk At.Ae [sb h1,sb h2,sb h3,sb h4,sb h5,sb h6,sb h7,sb h8,sb h9,sb h10,sb h11,sb Zf,sb h14] kr
            ·exact wk At.Ae [sb h1,sb h2,sb h3,sb h4,sb h5,sb h6,sb h7,sb h8,sb h9,sb h10,sb h11,sb Zf,sg h14,sb Zf] kr
          ·cases h15:(↑(zad xs).length:Int)==0
           ·exact wk At.Ae [sb h1,sb h2,sb h3,sb h4,sb h5,sb h6,sb h7,sb h8,sb h9,sb h10,sb Zf,sb h15] kr
           ·exact wk At.Ae [sb h1,sb h2,sb h3,sb h4,sb h5,sb h6,sb h7,sb h8,sb h9,sb h10,sb Zf,sg h15,sb Zf] kr
         ·cases h16:(↑(zad xs).length:Int)==0
          ·exact wk At.Ae [sb h1,sb h2,sb h3,sb h4,sb h5,sb h6,sb h7,sb h8,sb h9,sb Zf,sb h16] kr
          ·exact wk At.Ae [sb h1,sb h2,sb h3,sb h4,sb h5,sb h6,sb h7,sb h8,sb h9,sb Zf,sg h16,sb Zf] kr
        ·cases h17:(↑(zad xs).length:Int)==0
         ·exact wk At.Ae [sb h1,sb h2,sb h3,sb h4,sb h5,sb h6,sb h7,sb h8,sb Zf,sb h17] kr
         ·exact wk At.Ae [sb h1,sb h2,sb h3,sb h4,sb h5,sb h6,sb h7,sb h8,sb Zf,sg h17,sb Zf] kr
       ·cases h18:(↑(zad xs).length:Int)==3
        ·exact wk At.Ae [sb h1,sb h2,sb h3,sb h4,sb h5,sb h6,sb h7,sb Zt,sb h18] kr
        ·exact wk At.Ae [sb h1,sb h2,sb h3,sb h4,sb h5,sb h6,sb h7,sb Zt,sg h18] kr
      ·cases h19:decide (op < 1)
       ·cases h20:decide (13 < op)
        ·cases h21:(↑(zad xs).length:Int)==2
         ·exact wk At.Ae [sb h1,sb h2,sb h3,sb h4,sb h5,sb h6,sg h19,sb h20,sb Zt,sb h21] kr
         ·exact wk At.Ae [sb h1,sb h2,sb h3,sb h4,sb h5,sb h6,sg h19,sb h20,sb Zt,sg h21] kr
        ·exact wk At.Ae [sb h1,sb h2,sb h3,sb h4,sb h5,sb h6,sg h19,sb h20] kr
       ·exact wk At.Ae [sb h1,sb h2,sb h3,sb h4,sb h5,sb h6,sb h19] kr
     ·cases h22:(↑(zad xs).length:Int)==1
      ·exact wk At.Ae [sb h1,sb h2,sb h3,sb h4,sb h5,sb Zt,sb h22] kr
      ·exact wk At.Ae [sb h1,sb h2,sb h3,sb h4,sb h5,sb Zt,sg h22] kr
    ·cases h23:(↑(zad xs).length:Int)==1
     ·exact wk At.Ae [sb h1,sb h2,sb h3,sb h4,sb Zt,sb h23] kr
     ·exact wk At.Ae [sb h1,sb h2,sb h3,sb h4,sb Zt,sg h23] kr
   ·cases h24:(↑(zad xs).length:Int)==1
    ·exact wk At.Ae [sb h1,sb h2,sb h3,sb Zt,sb h24] kr
    ·exact wk At.Ae [sb h1,sb h2,sb h3,sb Zt,sg h24] kr
  ·cases h25:(↑(zad xs).length:Int)==0
   ·exact wk At.Ae [sb h1,sb h2,sb h25] kr
   ·exact wk At.Ae [sb h1,sb h2,sg h25] kr
 ·cases h26:(↑(zad xs).length:Int)==0
  ·exact wk At.Ae [sb h1,sb h26] kr
  ·exact wk At.Ae [sb h1,sg h26] kr
def zn4 (e:X):Bool:=match e.sub with
 | []=>zuf e.kind e.op e.args
 | q::r=>zug e.kind e.op e.args (q::r) q.star q.items q.wh
theorem zbu (e:X):Pure S.Ae [e.av] (bv (zn4 e)):=by
 cases e with
 | mk kind op nt val tn nm xs qs =>
  cases qs with
  | nil=>exact zoE kind op xs nt val tn nm
  | cons q r=>cases q with
   | mk st it fm wh=>exact zoF kind op xs _ st it wh nt val tn nm fm rfl
def ztr (e:X):Bool:=match e.sub with
 | []=>zqE e.kind e.op e.args
 | q::r=>zqF e.kind e.op e.args (q::r) q.items q.wh
theorem ztZ (frs:List Fr) (q n:Str) (k:Nat) (f:Fr) (els:Int × Int × Bool):∀ (c:List Col) (j:Nat),(zc7 frs q n k f els c j=els)\/(∃ (i:Nat) (x:Col),zc7 frs q n k f els c j=(((k:Nat):Int),((j+i:Nat):Int),true)/\c[i]?=some x)
 | [],j=>.inl rfl
 | x::r,j=>by
  rcases ztZ frs q n k f els r (j+1) with h|⟨i,y,h,hy⟩
  ·simp only [zc7,Bool.cond_eq_ite]
   split
   ·exact .inr ⟨0,x,rfl,rfl⟩
   ·exact .inl h
  ·simp only [zc7,Bool.cond_eq_ite]
   split
   ·exact .inr ⟨0,x,rfl,rfl⟩
   ·exact .inr ⟨i+1,y,by rw [h];congr 2;omega,hy⟩
theorem zvB (frs:List Fr) (q n:Str):∀ (k:Nat),k<=frs.length->(rres frs q n k).2.2=true->∃ (i j:Nat) (f:Fr) (c:Col),rres frs q n k=((i:Int),(j:Int),true)/\frs[i]?=some f/\f.cols[j]?=some c
 | 0,_,h=>by simp [rres] at h
 | k+1,hk,h=>by
  have ih:=zvB frs q n k Zo
  have hx:=zqH (l:=frs) (k:=k) za1 Zo
  have hi:=ztZ frs q n k (frs.getD k za1) (rres frs q n k) (frs.getD k za1).cols 0
  simp only [rres,Bool.cond_eq_ite] at h ⊢
  have key:(zc7 frs q n k (frs.getD k za1) (rres frs q n k) (frs.getD k za1).cols 0).2.2=true->∃ (i j:Nat) (f:Fr) (c:Col),zc7 frs q n k (frs.getD k za1) (rres frs q n k) (frs.getD k za1).cols 0=((i:Int),(j:Int),true)/\frs[i]?=some f/\f.cols[j]?=some c:=by
   intro h
   rcases hi with e|⟨i,y,e,hy⟩
   ·rw [e] at h ⊢;exact ih h
   ·exact ⟨k,0+i,_,y,e,hx,by simpa using hy⟩
  revert h
  repeat' split
  all_goals first|exact ih|exact key
def zwn:Col:=⟨⟨#[]⟩,0,false,false⟩
def rFr (frs:List Fr) (q n:Str):Fr:=frs.getD (za6 frs q n).1.toNat za1
def rCol (frs:List Fr) (q n:Str):Col:=(rFr frs q n).cols.getD (za6 frs q n).2.1.toNat zwn
theorem zoj {frs:List Fr} {q n:Str} (h:(za6 frs q n).2.2=true):∃ (i j:Nat),za6 frs q n=((i:Int),(j:Int),true)/\frs[i]?=some (rFr frs q n)/\(rFr frs q n).cols[j]?=some (rCol frs q n):=by
 have h':=h
 unfold za6 at h'
 obtain ⟨i,j,f,c,e,hf,hc⟩:=zvB frs q n frs.length (Nat.le_refl _) h'
 have e':za6 frs q n=((i:Int),(j:Int),true):=e
 have e1:rFr frs q n=f:=by simp [rFr,e',List.getD_eq_getElem?_getD,hf]
 have e2:rCol frs q n=c:=by simp [rCol,e1,e',List.getD_eq_getElem?_getD,hc]
 exact ⟨i,j,e',by rw [e1];exact hf,by rw [e1,e2];exact hc⟩
theorem zkL (frs:List Fr) (q n:Str) (h:(za6 frs q n).2.2=true):ElAt (frs.map Fr.cells) (za6 frs q n).1 (rFr frs q n).cells 4:=by
 obtain ⟨i,j,e,h1,h2⟩:=zoj h
 rw [show (za6 frs q n).1=(i:Int) by rw [e]]
 exact zai Fr.cells h1 rfl
theorem zvj (frs:List Fr) (q n:Str) (h:(za6 frs q n).2.2=true):ElAt ((rFr frs q n).cols.map Col.cells) (za6 frs q n).2.1 (rCol frs q n).cells 4:=by
 obtain ⟨i,j,e,h1,h2⟩:=zoj h
 rw [show (za6 frs q n).2.1=(j:Int) by rw [e]]
 exact zai Col.cells h2 rfl
def ztW (f:X->Int × Int) (x:X):Int :=
 bif (f x).snd != 0 then
  (f x).snd
 else
  bif !zhX (f x).fst 2 then
   5
  else
   0
theorem zlL (f:X->Int × Int) (x:X) (r:List X) (frs:List Fr) (tb:List Tb) (hn:((((zad (x::r)).length:Nat):Int)==0)=false) (hf:Pure S.AC [x.av,fsl frs,tsl tb] (.tup [iv (f x).1,iv (f x).2])):zab E0 S.AP [xsl (x::r),fsl frs,tsl tb] [] (iv (ztW f x)) []:=by
 unfold ztW
 cases h1:(f x).snd != 0
 ·cases h2:!zhX (f x).fst 2
  ·exact wk At.AP [sb Zf,se (zak (l:=x::r) (i:=0) (x:=x) rfl),sc hf,sb h1,sc (zb6 ((f x).fst) 2),sb h2] kr
  ·exact wk At.AP [sb Zf,se (zak (l:=x::r) (i:=0) (x:=x) rfl),sc hf,sb h1,sc (zb6 ((f x).fst) 2),sb h2] kr
 ·exact wk At.AP [sb Zf,se (zak (l:=x::r) (i:=0) (x:=x) rfl),sc hf,sb h1] kr
def zyD :Int :=
 0
theorem zlK  (frs:List Fr) (tb:List Tb):zab E0 S.AP [xsl [],fsl frs,tsl tb] [] (iv zyD) []:=by
 exact wk At.AP [sb Zt] kr
noncomputable def zo7 (f:X->Int × Int) (e:X) (frs:List Fr) (tb:List Tb) (i:Nat) (l:List Int):Cfg:=zan B.AC 0 [(1,fsl frs),(2,tsl tb),(3,.p 0 0),(11,.own 1 l.length),(60,xsl e.args),(61,iv ((zad e.args).length:Nat)),(62,iv (i:Nat))] [.box e.cells,.row Ty.int (l.map fun n=>[iv n]) false]
def rtyL (f:X->Int × Int) (e:X) (frs:List Fr) (tb:List Tb):List (X)->Nat->(List Int)->Int × Int
 | [],i,l =>
  ((zkX e l).fst,(zkX e l).snd)
 | x::r,i,l =>
  bif (f x).snd != 0 then
   (0,(f x).snd)
  else
   rtyL f e frs tb r (i+1) (l++[(f x).fst])
theorem Zcv0 {p:Prop} (h:p:=by first|rfl|(simp;done)|(simp [X.cells,Qy.cells,V.cells,Col.cells,Rw.cells,Tb.cells,Fr.cells,Sch.cells,Tp.cells,Pl.cells,xCol,xLit,xBin,xNeg];done)):p:=h
theorem zuT (f:X->Int × Int) (e:X) (frs:List Fr) (tb:List Tb) (hl:zac e.args) (hf:∀ x∈e.args,Pure S.AC [x.av,fsl frs,tsl tb] (.tup [iv (f x).1,iv (f x).2])):∀ (kk i:Nat) (l:List Int),i+kk=(e.args).length->l.length<=i->Good E0 B.AC [] (zo7 f e frs tb i l) (Shut 0 fun r h=>r=(.tup [iv (rtyL f e frs tb ((e.args).drop i) i l).1,iv (rtyL f e frs tb ((e.args).drop i) i l).2])/\h=[]):=by
 intro kk
 induction kk with
 | zero =>
  intro i l hi ho
  have h0:decide (((i:Nat):Int) < (((zad e.args).length:Nat):Int))=false:=by simp;omega
  have e0:(e.args).drop i=[]:=List.drop_of_length_le Zo
  rw [e0]
  simp only [rtyL]
  refine zaa ?_
  exact wkr [sb h0,skx ((True/\True/\True/\True/\True/\True/\True/\True/\True/\True/\True)/\l.length=(List.map (fun n=>[iv n]) l).length/\True) [] (zqL e l (by first|assumption|(simp only [zac] at *;omega)))] kr
 | succ kk ih =>
  intro i l hi ho
  obtain ⟨x,hx⟩:=zbK (l:=e.args) (i:=i) Zo
  have h0:decide (((i:Nat):Int) < (((zad e.args).length:Nat):Int))=true:=by simp;omega
  have hw:=zbw i (by first|omega|(simp only [zac,Few] at *;omega))
  have hfx:=hf x (List.mem_of_getElem? hx)
  rw [zcN hx]
  simp only [rtyL]
  refine zaa ?_
  cases h1:(f x).snd != 0
  ·exact wkl [sb h0,se (zak hx),sc hfx,sb h1,sqA (List.map (fun n=>[iv n]) l) [[iv (f x).fst]] l.length 1 8,si hw] [1,2,3,11,60,61,62] 2 kr (zaE 11 1 (List.map (fun n=>[iv n]) l++[[iv (f x).fst]]) (ih (i+1) (l++[(f x).fst]) Zo (by first|assumption|(simp;done)|(simp;omega)|omega|(simp at *;omega))) (he:=Zcv0) (hm:=Zcv0))
  ·exact wkr [sb h0,se (zak hx),sc hfx,sb h1] kr
noncomputable def L_rtqL (f:X->Int × Int) (cond:Int) (e:X) (q:Qy) (ins:List Fr) (tb:List Tb) (i:Nat) (item:Int):Cfg:=zan B.BE 0 [(2,tsl tb),(3,.p 0 0),(8,.p 1 0),(11,fsl ins),(12,iv item),(35,xsl q.items),(36,iv ((zad q.items).length:Nat)),(37,iv (i:Nat))] [.box e.cells,.box q.cells]
def rtqL (f:X->Int × Int) (cond:Int) (e:X) (q:Qy) (ins:List Fr) (tb:List Tb):List (X)->Nat->(Int)->Int × Int
 | [],i,item =>
  bif cond != 0 then
   (0,cond)
  else
   bif e.kind==10 then
    bif !zhX item 1 then
     (0,5)
    else
     bif e.kind==8 then
      (2,0)
     else
      bif e.kind==11 then
       (item,0)
      else
       bif e.kind==12 then
        (item,0)
       else
        (1,0)
   else
    bif e.kind==8 then
     (2,0)
    else
     bif e.kind==11 then
      (item,0)
     else
      bif e.kind==12 then
       (item,0)
      else
       (1,0)
 | x::r,i,item =>
  bif (f x).snd != 0 then
   (0,(f x).snd)
  else
   rtqL f cond e q ins tb r (i+1) ((f x).fst)
theorem zuS (f:X->Int × Int) (cond:Int) (e:X) (q:Qy) (ins:List Fr) (tb:List Tb) (hl:zac q.items) (hf:∀ x∈q.items,Pure S.AC [x.av,fsl ins,tsl tb] (.tup [iv (f x).1,iv (f x).2])) (hc:Pure S.AP [xsl q.wh,fsl ins,tsl tb] (iv cond)):∀ (kk i:Nat) (item:Int),i+kk=(q.items).length->Good E0 B.BE [] (L_rtqL f cond e q ins tb i item) (Shut 0 fun r h=>r=(.tup [iv (rtqL f cond e q ins tb ((q.items).drop i) i item).1,iv (rtqL f cond e q ins tb ((q.items).drop i) i item).2])/\h=[]):=by
 intro kk
 induction kk with
 | zero =>
  intro i item hi
  have h0:decide (((i:Nat):Int) < (((zad q.items).length:Nat):Int))=false:=by simp;omega
  have e0:(q.items).drop i=[]:=List.drop_of_length_le Zo
  rw [e0]
  simp only [rtqL]
  refine zaa ?_
  cases h1:cond != 0
  ·cases h2:e.kind==10
   ·cases h3:e.kind==8
    ·cases h4:e.kind==11
     ·cases h5:e.kind==12
      ·exact wkr [sb h0,sc hc,sb h1,sb h2,sb h3,sb h4,sb h5] kr
      ·exact wkr [sb h0,sc hc,sb h1,sb h2,sb h3,sb h4,sb h5] kr
     ·exact wkr [sb h0,sc hc,sb h1,sb h2,sb h3,sb h4] kr
    ·exact wkr [sb h0,sc hc,sb h1,sb h2,sb h3] kr
   ·cases h6:!zhX item 1
    ·cases h7:e.kind==8
     ·cases h8:e.kind==11
      ·cases h9:e.kind==12
       ·exact wkr [sb h0,sc hc,sb h1,sg h2,sc (zb6 item 1),sb h6,sb h7,sb h8,sb h9] kr
       ·exact wkr [sb h0,sc hc,sb h1,sg h2,sc (zb6 item 1),sb h6,sb h7,sb h8,sb h9] kr
      ·exact wkr [sb h0,sc hc,sb h1,sg h2,sc (zb6 item 1),sb h6,sb h7,sb h8] kr
     ·exact wkr [sb h0,sc hc,sb h1,sg h2,sc (zb6 item 1),sb h6,sb h7] kr
    ·exact wkr [sb h0,sc hc,sb h1,sg h2,sc (zb6 item 1),sb h6] kr
  ·exact wkr [sb h0,sc hc,sb h1] kr
 | succ kk ih =>
  intro i item hi
  obtain ⟨x,hx⟩:=zbK (l:=q.items) (i:=i) Zo
  have h0:decide (((i:Nat):Int) < (((zad q.items).length:Nat):Int))=true:=by simp;omega
  have hw:=zbw i (by first|omega|(simp only [zac,Few] at *;omega))
  have hfx:=hf x (List.mem_of_getElem? hx)
  rw [zcN hx]
  simp only [rtqL]
  refine zaa ?_
  cases h1:(f x).snd != 0
  ·exact wkl [sb h0,se (zak hx),sc hfx,sb h1,si hw] [2,3,8,11,12,35,36,37] 2 kr (ih (i+1) ((f x).fst) Zo )
  ·exact wkr [sb h0,se (zak hx),sc hfx,sb h1] kr
theorem zdw {p:Prop} (h:p:=by first|assumption|exact hfo.short|exact hfo.cols|exact hfo.wrap|(simp_all;done)):p:=h
theorem zpX {p:Prop} (h:p:=by first|assumption|exact hfo.short|exact hto.len|exact hto.cols):p:=h
structure FsOk (n:Nat) (frs:List Fr):Prop where
 len:frs.length+n<=1000000
 cols:∀ f∈frs,zac f.cols
 vals:∀ f∈frs,∀ v∈f.vals,v.small
structure TbOk (tb:List Tb):Prop where
 len:zac tb
 cols:∀ x∈tb,zac x.sch.cols
 rows:∀ x∈tb,x.rows.length<=1000
 vals:∀ x∈tb,∀ r∈x.rows,∀ v∈r.vals,v.small
theorem FsOk.short {n:Nat} {frs:List Fr} (h:FsOk n frs):zac frs:=by have:=h.len;simp only [zac];omega
theorem FsOk.wrap {n:Nat} {frs:List Fr} (h:FsOk n frs):IntKind.i64.wrap ((((frs.map Fr.cells).length:Nat):Int) - 1)=pm1 frs.length:=zuu _ _ h.short
theorem FsOk.less {n:Nat} {frs:List Fr} (h:FsOk (n+1) frs):FsOk n frs:=⟨by have:=h.len;omega,h.cols,h.vals⟩
def rtqF (f:X->Int × Int) (cond:Int) (e:X) (q:Qy) (frs:List Fr) (tb:List Tb):Int × Int :=
 bif !(zaf tb q.frm).snd then
  (0,3)
 else
  rtqL f cond e q (zar frs (zaf tb q.frm).1 []) tb q.items 0 (1)
theorem zmu (f:X->Int × Int) (cond:Int) (e:X) (q:Qy) (frs:List Fr) (tb:List Tb) (n:Nat) (hq:e.sub[0]?=some q) (hfo:FsOk n frs) (hto:TbOk tb) (hl:zac q.items) (hf:∀ x∈q.items,Pure S.AC [x.av,fsl (zar frs (zaf tb q.frm).1 []),tsl tb] (.tup [iv (f x).1,iv (f x).2])) (hc:Pure S.AP [xsl q.wh,fsl (zar frs (zaf tb q.frm).1 []),tsl tb] (iv cond)):zab E0 S.BE [e.av,fsl frs,tsl tb] [] (.tup [iv (rtqF f cond e q frs tb).1,iv (rtqF f cond e q frs tb).2]) []:=by
 unfold rtqF
 cases h1:!(zaf tb q.frm).snd
 ·exact wkc At.BE [se (zba hq),sc (zbe tb q.frm zpX zpX),sb h1,sc (zc2 frs ((zaf tb q.frm).fst) ([]) zpX)] [2,3,8,11,12,35,36,37] 2 kr (by have ih:=zuS f cond e q (zar frs (zaf tb q.frm).1 []) tb hl hf hc q.items.length 0 1 Zs;exact ih)
 ·exact wk At.BE [se (zba hq),sc (zbe tb q.frm zpX zpX),sb h1] kr
def zsz (f:X->Int × Int) (e:X) (frs:List Fr) (tb:List Tb):Int × Int :=
 bif !zn4 e then
  (0,17)
 else
  bif e.kind==1 then
   (e.val.kind,0)
  else
   bif e.kind==2 then
    bif !(za6 frs e.table e.name).snd.snd then
     (0,3)
    else
     ((rCol frs e.table e.name).type,0)
   else
    rtyL f e frs tb e.args 0 ([])
theorem zpA (f:X->Int × Int) (e:X) (frs:List Fr) (tb:List Tb) (n:Nat) (hfo:FsOk n frs) (hl:zac e.args) (hn:decide ((0:Int) < (((zal e.sub).length:Nat):Int))=false) (hf:∀ x∈e.args,Pure S.AC [x.av,fsl frs,tsl tb] (.tup [iv (f x).1,iv (f x).2])):zab E0 S.AC [e.av,fsl frs,tsl tb] [] (.tup [iv (zsz f e frs tb).1,iv (zsz f e frs tb).2]) []:=by
 unfold zsz
 cases h1:!zn4 e
 ·cases h2:e.kind==1
  ·cases h3:e.kind==2
   ·exact wkc At.AC (c':=(Cfg.mk (zo7 f e frs tb 0 []).n (zo7 f e frs tb 0 []).todo [(1,fsl frs),(2,tsl tb),(3,AV.p 0 0),(11,AV.nl),(60,AV.sl (zad e.args)),(61,iv (↑(zad e.args).length:Int)),(62,iv 0)] [Blk.box e.cells])) [sc (zbu e),sb h1,sb h2,sb h3,sb hn] [1,2,3,11,60,61,62] 1 kr (zcl (c':=zo7 f e frs tb 0 []) 11 Ty.int [1,2,3,11,60,61,62] 2 kr kr kr (by have ih:=zuT f e frs tb hl hf e.args.length 0 ([]) Zs Zs;exact ih))
   ·cases h4:!(za6 frs e.table e.name).snd.snd
    ·exact wk At.AC [sc (zbu e),sb h1,sb h2,sb h3,sc (zdi frs e.table e.name zdw zdw zdw),sb h4,se (zkL frs e.table e.name zdw),se (zvj frs e.table e.name zdw)] kr
    ·exact wk At.AC [sc (zbu e),sb h1,sb h2,sb h3,sc (zdi frs e.table e.name zdw zdw zdw),sb h4] kr
  ·exact wk At.AC [sc (zbu e),sb h1,sb h2] kr
 ·exact wk At.AC [sc (zbu e),sb h1] kr
def zsA (tq:Int × Int) (e:X) (frs:List Fr) (tb:List Tb):Int × Int :=
 bif !zn4 e then
  (0,17)
 else
  bif e.kind==1 then
   (e.val.kind,0)
  else
   bif e.kind==2 then
    bif !(za6 frs e.table e.name).snd.snd then
     (0,3)
    else
     ((rCol frs e.table e.name).type,0)
   else
    (tq.fst,tq.snd)
theorem zpB (tq:Int × Int) (e:X) (frs:List Fr) (tb:List Tb) (n:Nat) (hfo:FsOk n frs) (hn:decide ((0:Int) < (((zal e.sub).length:Nat):Int))=true) (hq:Pure S.BE [e.av,fsl frs,tsl tb] (.tup [iv tq.1,iv tq.2])):zab E0 S.AC [e.av,fsl frs,tsl tb] [] (.tup [iv (zsA tq e frs tb).1,iv (zsA tq e frs tb).2]) []:=by
 unfold zsA
 cases h1:!zn4 e
 ·cases h2:e.kind==1
  ·cases h3:e.kind==2
   ·exact wk At.AC [sc (zbu e),sb h1,sb h2,sb h3,sb hn,sc hq] kr
   ·cases h4:!(za6 frs e.table e.name).snd.snd
    ·exact wk At.AC [sc (zbu e),sb h1,sb h2,sb h3,sc (zdi frs e.table e.name zdw zdw zdw),sb h4,se (zkL frs e.table e.name zdw),se (zvj frs e.table e.name zdw)] kr
    ·exact wk At.AC [sc (zbu e),sb h1,sb h2,sb h3,sc (zdi frs e.table e.name zdw zdw zdw),sb h4] kr
  ·exact wk At.AC [sc (zbu e),sb h1,sb h2] kr
 ·exact wk At.AC [sc (zbu e),sb h1] kr
theorem zaD {α:Type} {l:List α} (h:Few l):zac l:=by simp only [Few] at h;simp only [zac];omega
def zyE (f:X->Int × Int):List X->Int
 | []=>zyD
 | x::_=>ztW f x
abbrev rIns (frs:List Fr) (tb:List Tb) (q:Qy):List Fr:=zar frs (zaf tb q.frm).1 []
def zhY:Nat->X->List Fr->List Tb->Int × Int
 | 0,_,_,_=>(0,0)
 | n+1,e,frs,tb=>match e.sub with
  | []=>zsz (fun x=>zhY n x frs tb) e frs tb
  | q::_=>zsA (rtqF (fun x=>zhY n x (rIns frs tb q) tb) (zyE (fun x=>zhY n x (rIns frs tb q) tb) q.wh) e q frs tb) e frs tb
theorem zer (tb:List Tb) (n:Str):∀ (l:List Tb) (i:Nat),(∀ x∈l,zac x.sch.cols)->zac (zbS tb n l i).1.cols
 | [],i,_=>by simp [zbS]
 | x::r,i,h=>by
  simp only [zbS,Bool.cond_eq_ite]
  split
  ·exact h x Zs
  ·exact zer tb n r _ (fun y hy=>h y (by simp [hy]))
theorem FsOk.ins {n:Nat} {frs:List Fr} (h:FsOk (n+1) frs) {tb:List Tb} (ht:TbOk tb) (q:Qy):FsOk n (rIns frs tb q):=by
 refine ⟨by have:=h.len;simp [zar];omega,fun f hf=>?_,fun f hf=>?_⟩
 ·simp only [zar,List.mem_append,List.mem_singleton] at hf
  rcases hf with hf|rfl
  ·exact h.cols f hf
  ·exact zer tb q.frm tb 0 ht.cols
 ·simp only [zar,List.mem_append,List.mem_singleton] at hf
  rcases hf with hf|rfl
  ·exact h.vals f hf
  ·intro v hv;cases hv
theorem zkc {f:X->Int × Int} {wh:List X} {frs:List Fr} {tb:List Tb} (hf:∀ x∈wh,Pure S.AC [x.av,fsl frs,tsl tb] (.tup [iv (f x).1,iv (f x).2])):Pure S.AP [xsl wh,fsl frs,tsl tb] (iv (zyE f wh)):=by
 cases wh with
 | nil=>exact zlK frs tb
 | cons x r=>exact zlL f x r frs tb (by first|(simp;done)|(simp;omega)) (hf x Zs)
theorem zir:∀ (n:Nat) (e:X) (frs:List Fr) (tb:List Tb),XOk n e->FsOk n frs->TbOk tb->Pure S.AC [e.av,fsl frs,tsl tb] (.tup [iv (zhY n e frs tb).1,iv (zhY n e frs tb).2])
 | 0,e,frs,tb,h,_,_=>h.elim
 | n+1,e,frs,tb,h,hf,ht=>by
  obtain ⟨_,ha,hx,hs⟩:=h
  unfold zhY
  cases hsub:e.sub with
  | nil =>
   simp only
   exact zpA (fun x=>zhY n x frs tb) e frs tb (n+1) hf (Thin.short ha.1) (by simp [hsub]) (fun x hx'=>zir n x frs tb (hx x hx') hf.less ht)
  | cons q r =>
   simp only
   obtain ⟨h1,h2,h3⟩:=hs q (by simp [hsub])
   refine zpB _ e frs tb (n+1) hf (by first|(simp [hsub];done)|(simp [hsub];omega)) ?_
   exact zmu _ _ e q frs tb (n+1) (by simp [hsub]) hf ht (Thin.short h1.1) (fun x hx'=>zir n x _ tb (h2 x hx') (hf.ins ht q) ht) (zkc fun x hx'=>zir n x _ tb (h3 x hx') (hf.ins ht q) ht)
def zwk (a b c:Int):Int × Int:=((a+b+c) % 18446744073709551616,(a+b+c) / 18446744073709551616)
def sumL (l:List Int):List (Int)->Nat->(Int)->(Int)->Int × Bool
 | [],i,high,low =>
  bif high != IntKind.u64.wrap ((IntKind.i64.wrap low).fdiv (2 ^ min (Int.toNat 63) IntKind.i64.bits)) then
   (0,false)
  else
   (IntKind.i64.wrap low,true)
 | x::r,i,high,low =>
  sumL l r (i+1) ((zwk high (IntKind.u64.wrap (x.fdiv (2 ^ min (Int.toNat 63) IntKind.i64.bits))) (zwk low (IntKind.u64.wrap x) 0).snd).fst) ((zwk low (IntKind.u64.wrap x) 0).fst)
def aSum (l:List Int):Int × Bool :=
 sumL l l 0 0 (0)
def esumL (its:List V):List (V)->Nat->(List Int)->V × Int
 | [],i,l =>
  bif !(aSum l).snd then
   (V.mk 0 0 Zs0,6)
  else
   (V.mk 1 (aSum l).fst Zs0,0)
 | x::r,i,l =>
  esumL its r (i+1) (l++[x.int])
def eSum (its:List V):V × Int :=
 esumL its its 0 ([])
def minL (l:List V):List (V)->Nat->(V)->V
 | [],i,m =>
  m
 | x::r,i,m =>
  bif decide (cmpV x m < 0) then
   minL l r (i+1) (x)
  else
   minL l r (i+1) (m)
def minV (l:List V):V :=
 minL l (l.drop 1) 1 (l.headD V.null)
def maxL (l:List V):List (V)->Nat->(V)->V
 | [],i,m =>
  m
 | x::r,i,m =>
  bif decide (0 < cmpV x m) then
   maxL l r (i+1) (x)
  else
   maxL l r (i+1) (m)
def maxV (l:List V):V :=
 maxL l (l.drop 1) 1 (l.headD V.null)
def eTrue1 (f:X->V × Int) (x:X):Bool × Int :=
 bif (f x).snd==0 then
  bif !zkW (f x).fst then
   (false,5)
  else
   (isTrue (f x).fst,(f x).snd)
 else
  (false,(f x).snd)
def eTrue0 :Bool × Int :=
 (true,0)
noncomputable def clC (frs:List Fr):Cfg:=(upto (mk E0) (List.range 40) 0 3000 ⟨B.Bt.ntmps,[.code (B.Bt.body.getD .skip)],zbU 0 [fsl frs],[]⟩ []).2
theorem zAL (frs:List Fr) (hl:zac frs):Good E0 B.Bt [] (zcD (clC frs) false) (fun r h=>r=.own 0 frs.length/\h=[.row Ty.Frame (frs.map Fr.cells) false]):=by
 exact zdn E0ok mix0 3000 (y:=AV.own (0:Nat) (List.map Fr.cells frs).length) (H:=[Blk.row Ty.Frame (List.map Fr.cells frs) false]) [sb Zf,sq (show AllLen (List.map Fr.cells frs) (4:Nat)/\((List.map Fr.cells frs).length * (72:Nat)).le (140737488355328:Nat) by first|assumption|(simp;done)|(simp;omega)|omega|rfl|(refine ⟨⟨by simp⟩,?_⟩;first|(simp;done)|(simp;omega)|omega)|(refine ⟨⟨by simp⟩,?_,?_⟩ <;> first|(simp;done)|(simp;omega)|omega))] kr (⟨by first|rfl|(simp;done),rfl⟩)
theorem zAM:Good E0 B.Bt [] (zcD (clC []) true) (fun r h=>r=.nl/\h=[]):=by
 exact zdn E0ok mix0 3000 (y:=AV.nl) (H:=[]) [sb Zt] kr (⟨rfl,rfl⟩)
theorem zlM (frs:List Fr) (hl:zac frs):zab E0 S.Bt [fsl frs] [] (.own 0 frs.length) [.row Ty.Frame (frs.map Fr.cells) false]:=by
 refine zaY At.Bt rfl kr (Nat.le_of_ble_eq_true kr) (zdW E0ok mix0 3000 [] (List.range 40) 0 (c':=clC frs) kr kr (zgE E0ok (xs:=frs.map Fr.cells) (e:=true) kr fun b hb=>?_))
 cases b with
 | false=>exact zAL frs hl
 | true =>
  cases frs with
  | nil=>exact zd0 Ty.Frame zAM ⟨rfl,rfl⟩
  | cons x r=>exact absurd (hb Zs) Zs
def zcA (frs:List Fr) (t:Tb) (v:List V):(List Fr) :=
 frs++[Fr.mk t.sch.name false t.sch.cols v]
def eAgg (sel:Int × Nat × List V) (e:X):V × Int :=
 bif sel.1 != 0 then (V.null,sel.1)
 else bif e.kind==8 then (⟨2,if decide (0 < ((sel.2.1:Nat):Int)) then 1 else 0,⟨#[]⟩⟩,0)
 else bif e.kind==9 then (⟨1,(sel.2.1:Nat),⟨#[]⟩⟩,0)
 else bif ((sel.2.2.length:Nat):Int)==0 then (V.null,0)
 else bif e.kind==10 then eSum sel.2.2
 else bif e.kind==11 then (minV sel.2.2,0)
 else (maxV sel.2.2,0)
theorem zoN (frs:List Fr) (q n:Str) (k:Nat) (f:Fr) (els:Int × Int × Bool):∀ (c:List Col) (j:Nat),zc7 frs q n k f els c j=bif decide (0<=idxF (fun c=>colC c n) c j) then (pm1 (k+1),idxF (fun c=>colC c n) c j,true) else els
 | [],j=>by simp [zc7,idxF]
 | x::r,j=>by
  rcases Bool.eq_false_or_eq_true (x.name.toList==n.toList) with h|h
  ·simp [zc7,idxF,colC,h]
  ·have ih:=zoN frs q n k f els r (j+1)
   simp only [colC] at ih
   simp only [zc7,idxF,colC,h,cond_false]
   exact ih
theorem zvE (frs:List Fr) (q n:Str):∀ k,sres frs q n k=rres frs q n k
 | 0=>rfl
 | k+1=>by simp only [sres,rres,zoN,zvE frs q n k]
theorem zom (frs:List Fr) (q n:Str):zcn frs q n=za6 frs q n:=zvE frs q n _
theorem ztn (frs:List Fr) (q n:Str) (h:(!(zcn frs q n).2.2)=false):ElAt (frs.map Fr.cells) (zcn frs q n).1 (rFr frs q n).cells 4:=by
 rw [zom] at h ⊢;exact zkL frs q n (by simpa using h)
def evL (f:X->V × Int) (op:List V->V × Int) (e:X) (frs:List Fr) (tb:List Tb):List (X)->Nat->(List V)->V × Int
 | [],i,out =>
  ((op out).fst,(op out).snd)
 | x::r,i,out =>
  bif (f x).snd != 0 then
   (V.mk 0 0 Zs0,(f x).snd)
  else
   evL f op e frs tb r (i+1) (out++[(f x).fst])
structure OpKind (e:X):Prop where
 fok:ztr e=true
 k1:e.kind≠1
 k2:e.kind≠2
 k8:¬(8<=e.kind/\e.kind<=12)
def valF (f:X->V × Int) (op:List V->V × Int) (agg:V × Int) (e:X) (frs:List Fr) (tb:List Tb):V × Int :=
 bif !ztr e then
  (V.mk 0 0 Zs0,17)
 else
  bif e.kind==1 then
   (e.val,0)
  else
   bif e.kind==2 then
    bif !(zcn frs e.table e.name).snd.snd then
     (V.mk 0 0 Zs0,3)
    else
     bif decide ((↑(List.map V.cells (rFr frs e.table e.name).vals).length:Int)<=(zcn frs e.table e.name).snd.fst) then
      (V.mk 0 0 Zs0,17)
     else
      (zee (rFr frs e.table e.name).vals (zcn frs e.table e.name).snd.fst,0)
   else
    bif e.kind==8 then
     (agg.fst,agg.snd)
    else
     bif e.kind==9 then
      (agg.fst,agg.snd)
     else
      bif e.kind==10 then
       (agg.fst,agg.snd)
      else
       bif e.kind==11 then
        (agg.fst,agg.snd)
       else
        bif e.kind==12 then
         (agg.fst,agg.snd)
        else
         evL f op e frs tb e.args 0 ([])
theorem zrH {k o:Int} {xs:List X} (h:zqE k o xs=true):((k=1\/k=2)/\xs.length=0)\/((k=3\/k=4\/k=6)/\xs.length=1)\/(k=5/\xs.length=2/\1<=o/\o<=13)\/(k=7/\xs.length=3):=by
 simp only [zqE,Bool.cond_eq_ite,zdR] at h
 simp at h
 repeat' split at h
 all_goals simp_all
 all_goals omega
theorem zrI {k o:Int} {xs:List X} {qs:List Qy} {it wh:List X} (hq:qs≠[]) (h:zqF k o xs qs it wh=true):xs.length=0/\qs.length=1/\wh.length<=1/\(((k=8\/k=9)/\it.length=0)\/((k=10\/k=11\/k=12)/\it.length=1)):=by
 simp only [zqF,Bool.cond_eq_ite,zdR,zmd] at h
 simp [hq] at h
 obtain ⟨h1,h2,h3,h4,h5,h6,h7,h⟩:=h
 repeat' split at h
 all_goals simp_all
 all_goals omega
def eOp (e:X) (l:List V):V × Int:=match l with
 | [a]=>if e.kind=6 then zz2 e.op e.not a else if e.kind=3 then opNot e.op e.not a else opNeg e.op e.not a
 | [a,b]=>opBin e.op e.not a b
 | [a,b,c]=>opBet e.op e.not a b c
 | _=>(V.null,0)
theorem OpKind.cases {e:X} (h:OpKind e):e.sub=[]/\(((e.kind=3\/e.kind=4\/e.kind=6)/\e.args.length=1)\/(e.kind=5/\e.args.length=2/\1<=e.op/\e.op<=13)\/(e.kind=7/\e.args.length=3)):=by
 have hf:=h.fok
 have k1:=h.k1
 have k2:=h.k2
 have k8:=h.k8
 unfold ztr at hf
 cases hs:e.sub with
 | nil =>
  rw [hs] at hf
  have:=zrH hf
  refine ⟨rfl,?_⟩
  omega
 | cons q r =>
  rw [hs] at hf
  have:=(zrI Zs hf).2.2.2
  omega
def rowI (f:X->V × Int) (k:Int):List X->List V->Int × List V
 | [],its=>(0,its)
 | x::r,its=>bif (f x).2 != 0 then ((f x).2,its) else bif (f x).1.kind==0 then rowI f k r its else bif k==10&&(f x).1.kind != 1 then (5,its) else rowI f k r (its++[(f x).1])
def selR (tr:Rw->Bool × Int) (g:Rw->List V->Int × List V):List Rw->Nat->List V->Int × Nat × List V
 | [],n,its=>(0,n,its)
 | r::l,n,its=>bif (tr r).2 != 0 then ((tr r).2,n,its) else bif (tr r).1 then (bif (g r its).1 != 0 then ((g r its).1,n+1,(g r its).2) else selR tr g l (n+1) (g r its).2) else selR tr g l n its
def eTrueL (f:X->V × Int):List X->Bool × Int
 | []=>eTrue0
 | x::_=>eTrue1 f x
def evalA (F:List Fr->X->V × Int) (e:X) (frs:List Fr) (tb:List Tb):V × Int:=match e.sub with
 | []=>(V.null,0)
 | q::_=>match zsq tb q.frm with
  | none=>eAgg (3,0,[]) e
  | some t=>eAgg (selR (fun r=>eTrueL (F (zcA frs t r.vals)) q.wh) (fun r its=>rowI (F (zcA frs t r.vals)) e.kind q.items its) t.rows 0 []) e
def eval:Nat->X->List Fr->List Tb->V × Int
 | 0,_,_,_=>(V.null,0)
 | n+1,e,frs,tb=>valF (fun x=>eval n x frs tb) (eOp e) (evalA (fun w x=>eval n x w tb) e frs tb) e frs tb
/- ### values are valid -/
abbrev FsG (frs:List Fr):Prop:=∀ f∈frs,∀ v∈f.vals,v.Good
structure TbG (tb:List Tb):Prop where
 vals:∀ x∈tb,∀ r∈x.rows,∀ v∈r.vals,v.Good
 rows:∀ x∈tb,x.rows.length<=1000
theorem FsG.ins {frs:List Fr} (h:FsG frs) {t:Tb} {v:List V} (hv:∀ x∈v,x.Good):FsG (zcA frs t v):=fun f hf=>by
 simp only [zcA,List.mem_append,List.mem_singleton] at hf
 rcases hf with hf|rfl
 ·exact h f hf
 ·exact hv
theorem FsOk.eins {n:Nat} {frs:List Fr} (h:FsOk (n+1) frs) {t:Tb} (hc:zac t.sch.cols) {v:List V} (hv:∀ x∈v,x.Good):FsOk n (zcA frs t v):=by
 refine ⟨by have:=h.len;simp [zcA];omega,fun f hf=>?_,fun f hf=>?_⟩
 ·simp only [zcA,List.mem_append,List.mem_singleton] at hf
  rcases hf with hf|rfl
  ·exact h.cols f hf
  ·exact hc
 ·simp only [zcA,List.mem_append,List.mem_singleton] at hf
  rcases hf with hf|rfl
  ·exact h.vals f hf
  ·exact fun x hx=>(hv x hx).small
noncomputable def clCV (l:List V):Cfg:=(upto (mk E0) (List.range 40) 0 3000 ⟨B.Br.ntmps,[.code (B.Br.body.getD .skip)],zbU 0 [vsl l],[]⟩ []).2
theorem zzG (l:List V) (hl:zac l):Good E0 B.Br [] (zcD (clCV l) false) (fun r h=>r=.own 0 l.length/\h=[.row Ty.Value (l.map V.cells) false]):=by
 exact zdn E0ok mix0 3000 (y:=AV.own 0 (List.map V.cells l).length) (H:=[Blk.row Ty.Value (List.map V.cells l) false]) [sb Zf,sqx (AllLen (List.map V.cells l) 3/\((List.map V.cells l).length * 32).le 140737488355328)] kr (⟨by simp,rfl⟩)
theorem zzH:Good E0 B.Br [] (zcD (clCV []) true) (fun r h=>r=.nl/\h=[]):=by
 exact zdn E0ok mix0 3000 (y:=AV.nl) (H:=[]) [sb Zt] kr (⟨rfl,rfl⟩)
theorem zbH (l:List V) (hl:zac l):zab E0 S.Br [vsl l] [] (.own 0 l.length) [.row Ty.Value (l.map V.cells) false]:=by
 refine zaY At.Br rfl kr (Nat.le_of_ble_eq_true kr) (zdW E0ok mix0 3000 [] (List.range 40) 0 (c':=clCV l) kr kr (zgE E0ok (xs:=l.map V.cells) (e:=true) kr fun b hb=>?_))
 cases b with
 | false=>exact zzG l hl
 | true =>
  cases l with
  | nil=>exact zd0 Ty.Value zzH ⟨rfl,rfl⟩
  | cons x r=>exact absurd (hb Zs) Zs
abbrev vrow (v:List V):List AV:=[vsl v]
structure QOk (n:Nat) (q:Qy):Prop where
 few:Few q.items
 items:∀ x∈q.items,XOk n x
 wh:∀ x∈q.wh,XOk n x
def cmpB (a b:Str):Int:=Lib.compareBytes a.data.toList b.data.toList
def cmpB2 (a b:Str):Int :=
 cmpB a b
def cmpB3 (a b:Str):Int :=
 cmpB2 a b
def rCmp (a b:V):Int :=
 bif a.kind != b.kind then
  bif decide (a.kind < b.kind) then
   -1
  else
   1
 else
  bif a.int != b.int then
   bif decide (a.int < b.int) then
    -1
   else
    1
  else
   cmpB3 a.text b.text
def znb (a b:List V):List (V)->Nat->Int
 | [],i =>
  bif decide ((↑(List.map V.cells a).length:Int) < (↑(List.map V.cells b).length:Int)) then
   -1
  else
   bif decide ((↑(List.map V.cells b).length:Int) < (↑(List.map V.cells a).length:Int)) then
    1
   else
    0
 | x::r,i =>
  bif decide ((i:Int) < (↑(List.map V.cells b).length:Int)) then
   bif rCmp x (zee b (i:Int)) != 0 then
    rCmp x (zee b (i:Int))
   else
    znb a b r (i+1)
  else
   bif decide ((↑(List.map V.cells a).length:Int) < (↑(List.map V.cells b).length:Int)) then
    -1
   else
    bif decide ((↑(List.map V.cells b).length:Int) < (↑(List.map V.cells a).length:Int)) then
     1
    else
     0
def znR (a b:List V):Int :=
 znb a b a (0)
noncomputable def zfj (fn:Func) (args:List AV) (h:Heap) (m:Nat):Cfg:=(upto (mk E0) (List.range 40) m 3000 ⟨fn.ntmps,[.code (fn.body.getD .skip)],zbU 0 args,h⟩ []).2
structure Lk where
 fst:Str
 snd:Str
def Lk.cells (l:Lk):List AV:=[sv l.fst,sv l.snd]
abbrev ZL (l:List Lk):AV:=.sl (l.map Lk.cells)
abbrev Lk.av (l:Lk):AV:=.agg l.cells
@[simp] theorem Lk.cells_length (x:Lk):x.cells.length=2:=rfl
structure Im where
 trig:Str
 row:Int
 old:List V
 new:List V
def Im.cells (x:Im):List AV:=[sv x.trig,iv x.row,vsl x.old,vsl x.new]
abbrev Im.av (x:Im):AV:=.agg x.cells
@[simp] theorem Im.cells_length (x:Im):x.cells.length=4:=rfl
theorem ziR:StructEq E0.P Ty.Link [.str,.str] :=
 zud E0ok (fs:=E0.P.fieldsOf Ty.Link) kr kr kr kr
abbrev Room (l:List Int):Prop:=l.length<=17592186044416
theorem zwu (l:List Col) (hl:zac l):Good E0 B.A7 [] (zcD (zfj B.A7 [.sl (l.map Col.cells)] [] 0) false) (fun r h=>r=.own 0 l.length/\h=[.row Ty.Column (l.map Col.cells) false]) :=
 zdn E0ok mix0 3000 (y:=AV.own 0 (List.map Col.cells l).length) (H:=[Blk.row Ty.Column (List.map Col.cells l) false]) [sb Zf,sqx (AllLen (List.map Col.cells l) 4/\((List.map Col.cells l).length * 32).le 140737488355328)] kr (⟨by simp,rfl⟩)
theorem zwv:Good E0 B.A7 [] (zcD (zfj B.A7 [.sl []] [] 0) true) (fun r h=>r=.nl/\h=[]) :=
 zdn E0ok mix0 3000 (y:=AV.nl) (H:=[]) [sb Zt] kr (⟨rfl,rfl⟩)
theorem zbn (l:List Col) (hl:zac l):zab E0 S.A7 [.sl (l.map Col.cells)] [] (.own 0 l.length) [.row Ty.Column (l.map Col.cells) false]:=by
 refine zaY At.A7 rfl kr (Nat.le_of_ble_eq_true kr) (zdW E0ok mix0 3000 [] (List.range 40) 0 (c':=zfj B.A7 [.sl (l.map Col.cells)] [] 0) kr kr (zgE E0ok (xs:=l.map Col.cells) (e:=true) kr fun b hb=>?_))
 cases b with
 | false=>exact zwu l hl
 | true =>
  cases l with
  | nil=>exact zd0 Ty.Column zwv ⟨rfl,rfl⟩
  | cons x r=>exact absurd (hb Zs) Zs
def lkIx (l:List Lk) (v:Lk):List (Lk)->Nat->Int
 | [],i =>
  -1
 | x::r,i =>
  bif v.fst==x.fst&&(v.snd==x.snd&&true) then
   (i:Int)
  else
   lkIx l v r (i+1)
def zA7 (l:List Lk) (v:Lk):Int :=
 lkIx l v l (0)
def lkHas (l:List Lk) (v:Lk):Bool :=
 decide ((0:Int)<=zA7 l v)
def oPrec (l:List Lk) (a b:Str):Bool :=
 lkHas l (Lk.mk a b)
def blk (its:List Im) (l:List Lk) (i k:Nat):Bool:=k != i&&match its[k]?,its[i]? with
 | some y,some x=>oPrec l y.trig x.trig
 | _,_=>false
def zbZ (t:Tg) (s:Sch) (a b:List V):(List Fr) :=
 bif !t.each then
  []
 else
  bif t.event==2 then
   bif t.event==1 then
    [Fr.mk ZsO true s.cols a,Fr.mk ZsN true s.cols b]
   else
    [Fr.mk ZsO true s.cols a,Fr.mk ZsN true s.cols b]
  else
   bif t.event==3 then
    bif t.event==1 then
     [Fr.mk ZsO true s.cols a,Fr.mk ZsN true s.cols b]
    else
     [Fr.mk ZsO true s.cols a]
   else
    bif t.event==1 then
     [Fr.mk ZsN true s.cols b]
    else
     []
end Go.AM
