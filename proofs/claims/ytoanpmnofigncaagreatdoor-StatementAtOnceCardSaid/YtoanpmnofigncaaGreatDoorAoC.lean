/-
  Contracts of the program's functions, part 2.
-/
import Derived.Test.YtoanpmnofigncaaGreatDoorAoB
import Derived.Test.YtoanpmnofigncaaGreatDoorProg
import Derived.KernelRfl
import Derived.Laws.StructEq
set_option maxRecDepth 100000
set_option maxHeartbeats 40000000
set_option linter.unusedSimpArgs false
set_option linter.unusedVariables false
namespace Go.AM
theorem kr {p : Prop} (h : p := by kernel_rfl) : p := h
theorem Zo {p:Prop} (h:p:=by omega):p:=h
theorem Zf:false=false:=rfl
theorem Zt:true=true:=rfl
abbrev Zs0:ByteArray:=ByteArray.mk #[]
abbrev ZsO:ByteArray:=ByteArray.mk #[79,76,68]
abbrev ZsN:ByteArray:=ByteArray.mk #[78,69,87]
abbrev ZsI:ByteArray:=ByteArray.mk #[73,78,83,69,82,84,69,68]
abbrev ZsD:ByteArray:=ByteArray.mk #[68,69,76,69,84,69,68]
abbrev Zsi:ByteArray:=ByteArray.mk #[105,100]
abbrev Zsn:ByteArray:=ByteArray.mk #[110]
abbrev Zsu:ByteArray:=ByteArray.mk #[117]
abbrev Zsl:ByteArray:=ByteArray.mk #[108,111,103]
theorem Zs {p:Prop} (h:p:=by simp):p:=h
theorem Za {p:Prop} (h:p:=by first|assumption|rfl|omega):p:=h
theorem Zp {p:Prop} (h:p:=by simp;omega):p:=h
theorem Zr {p:Prop} (h:p:=by rfl):p:=h
theorem Zb {p:Prop} (h:p:=by first|assumption|omega):p:=h
theorem Zj {p:Prop} (h:p:=by exact ⟨rfl,rfl⟩):p:=h
theorem Zd {p:Prop} (h:p:=by decide):p:=h
theorem Zg {p:Prop} (h:p:=by first|rfl|assumption):p:=h
namespace S
abbrev Ar:FuncId:=5
abbrev Dx:FuncId:=6
abbrev BB:FuncId:=7
abbrev B5:FuncId:=8
abbrev Dy:FuncId:=9
abbrev DJ:FuncId:=10
abbrev AF:FuncId:=11
abbrev DD:FuncId:=12
abbrev C2:FuncId:=13
abbrev Ap:FuncId:=14
abbrev DH:FuncId:=15
abbrev AN:FuncId:=16
abbrev AA:FuncId:=17
abbrev Bf:FuncId:=18
abbrev BH:FuncId:=19
abbrev Dw:FuncId:=20
abbrev AH:FuncId:=21
abbrev Cc:FuncId:=22
abbrev AM:FuncId:=23
abbrev Ai:FuncId:=24
abbrev Dp:FuncId:=25
abbrev Bg:FuncId:=26
abbrev A9:FuncId:=27
abbrev BC:FuncId:=28
abbrev Bq:FuncId:=29
abbrev Ab:FuncId:=30
abbrev AV:FuncId:=31
abbrev Cq:FuncId:=32
abbrev CV:FuncId:=33
abbrev Dd:FuncId:=34
abbrev Dz:FuncId:=35
abbrev B1:FuncId:=36
abbrev Dg:FuncId:=37
abbrev Br:FuncId:=38
abbrev B8:FuncId:=39
abbrev De:FuncId:=40
abbrev Aa:FuncId:=41
abbrev DK:FuncId:=42
abbrev DL:FuncId:=43
abbrev CL:FuncId:=44
abbrev As:FuncId:=45
abbrev Aw:FuncId:=46
abbrev AT:FuncId:=47
abbrev BZ:FuncId:=48
abbrev CD:FuncId:=49
abbrev Ct:FuncId:=50
abbrev Cd:FuncId:=51
abbrev C5:FuncId:=52
abbrev Bb:FuncId:=53
abbrev CS:FuncId:=54
abbrev Al:FuncId:=55
abbrev Bn:FuncId:=56
abbrev B7:FuncId:=57
abbrev Ag:FuncId:=58
abbrev Ca:FuncId:=59
abbrev CJ:FuncId:=60
abbrev By:FuncId:=61
abbrev Ax:FuncId:=62
abbrev Bs:FuncId:=63
abbrev Dt:FuncId:=64
abbrev AD:FuncId:=65
abbrev Bw:FuncId:=66
abbrev Bh:FuncId:=67
abbrev Bd:FuncId:=68
abbrev BV:FuncId:=69
abbrev Cm:FuncId:=72
abbrev CB:FuncId:=74
abbrev CK:FuncId:=75
abbrev Ce:FuncId:=76
abbrev Bi:FuncId:=77
abbrev A3:FuncId:=78
abbrev AW:FuncId:=79
abbrev Az:FuncId:=80
abbrev B3:FuncId:=81
abbrev Dh:FuncId:=82
abbrev BS:FuncId:=83
abbrev A6:FuncId:=84
abbrev Bc:FuncId:=85
abbrev Am:FuncId:=86
abbrev A7:FuncId:=87
abbrev DA:FuncId:=88
abbrev A4:FuncId:=89
abbrev Cf:FuncId:=90
abbrev BW:FuncId:=91
abbrev Cn:FuncId:=92
abbrev BT:FuncId:=93
abbrev C6:FuncId:=94
abbrev Bo:FuncId:=95
abbrev Be:FuncId:=96
abbrev AX:FuncId:=97
abbrev Ah:FuncId:=98
abbrev CX:FuncId:=99
abbrev Aj:FuncId:=100
abbrev Bz:FuncId:=101
abbrev A2:FuncId:=102
abbrev B2:FuncId:=103
abbrev Bj:FuncId:=104
abbrev C3:FuncId:=105
abbrev DB:FuncId:=106
abbrev DE:FuncId:=107
abbrev Dq:FuncId:=108
abbrev Bt:FuncId:=109
abbrev Co:FuncId:=110
abbrev BQ:FuncId:=112
abbrev A8:FuncId:=118
abbrev Cu:FuncId:=119
abbrev B6:FuncId:=120
abbrev Cg:FuncId:=121
abbrev Ch:FuncId:=122
abbrev BM:FuncId:=123
abbrev BI:FuncId:=124
abbrev CT:FuncId:=125
abbrev Au:FuncId:=126
abbrev AY:FuncId:=127
abbrev AJ:FuncId:=128
abbrev A5:FuncId:=129
abbrev AS:FuncId:=130
abbrev Ad:FuncId:=131
abbrev BN:FuncId:=132
abbrev AB:FuncId:=133
abbrev AI:FuncId:=134
abbrev CE:FuncId:=135
abbrev B4:FuncId:=136
abbrev Da:FuncId:=137
abbrev DF:FuncId:=138
abbrev Ci:FuncId:=139
abbrev Cr:FuncId:=140
abbrev AO:FuncId:=141
abbrev BD:FuncId:=142
abbrev AR:FuncId:=143
abbrev AP:FuncId:=144
abbrev Bk:FuncId:=145
abbrev Cj:FuncId:=147
abbrev Ac:FuncId:=148
abbrev Cz:FuncId:=149
abbrev AZ:FuncId:=150
abbrev At:FuncId:=151
abbrev Av:FuncId:=152
abbrev AQ:FuncId:=153
abbrev An:FuncId:=154
abbrev BG:FuncId:=155
abbrev Dr:FuncId:=156
abbrev Aq:FuncId:=157
abbrev CH:FuncId:=158
abbrev A0:FuncId:=166
abbrev B0:FuncId:=171
abbrev BX:FuncId:=172
abbrev Bv:FuncId:=173
abbrev C4:FuncId:=174
abbrev Db:FuncId:=175
abbrev Ak:FuncId:=176
abbrev CU:FuncId:=177
abbrev Du:FuncId:=178
abbrev Bp:FuncId:=179
abbrev Ds:FuncId:=180
abbrev Df:FuncId:=181
abbrev Ao:FuncId:=182
abbrev Ba:FuncId:=183
abbrev Cv:FuncId:=184
abbrev CI:FuncId:=185
abbrev Di:FuncId:=186
abbrev B9:FuncId:=187
abbrev AG:FuncId:=188
abbrev AU:FuncId:=189
abbrev CA:FuncId:=190
abbrev Ae:FuncId:=191
abbrev Bx:FuncId:=192
abbrev Ay:FuncId:=193
abbrev Dj:FuncId:=194
abbrev DC:FuncId:=195
abbrev CF:FuncId:=196
abbrev BJ:FuncId:=197
abbrev Cb:FuncId:=198
abbrev BK:FuncId:=199
abbrev C1:FuncId:=200
abbrev Dk:FuncId:=201
abbrev Cw:FuncId:=202
abbrev Af:FuncId:=203
abbrev Dl:FuncId:=204
abbrev Dv:FuncId:=205
abbrev BR:FuncId:=206
abbrev BO:FuncId:=207
abbrev Dm:FuncId:=208
abbrev CM:FuncId:=209
abbrev BL:FuncId:=213
abbrev CN:FuncId:=214
abbrev Cx:FuncId:=215
abbrev DG:FuncId:=216
abbrev C9:FuncId:=217
abbrev CR:FuncId:=218
abbrev CO:FuncId:=219
abbrev CP:FuncId:=220
abbrev Ck:FuncId:=221
abbrev AK:FuncId:=222
abbrev BU:FuncId:=223
abbrev A1:FuncId:=224
abbrev BY:FuncId:=225
abbrev BA:FuncId:=226
abbrev AC:FuncId:=227
abbrev Bl:FuncId:=228
abbrev C7:FuncId:=229
abbrev CY:FuncId:=230
abbrev CC:FuncId:=231
abbrev Cp:FuncId:=232
abbrev Cl:FuncId:=233
abbrev Cs:FuncId:=234
abbrev BE:FuncId:=235
abbrev AL:FuncId:=236
abbrev CG:FuncId:=237
abbrev CZ:FuncId:=238
abbrev CW:FuncId:=239
abbrev Cy:FuncId:=240
abbrev C8:FuncId:=242
abbrev DI:FuncId:=243
abbrev CQ:FuncId:=244
abbrev Dc:FuncId:=245
abbrev C0:FuncId:=246
abbrev Dn:FuncId:=247
abbrev BF:FuncId:=248
abbrev AE:FuncId:=249
abbrev Do:FuncId:=250
abbrev BP:FuncId:=251
abbrev Bu:FuncId:=252
abbrev Bm:FuncId:=253
abbrev DM:Nat:=0
end S
namespace Ty
abbrev int64:TypeId:=2
abbrev int:TypeId:=3
abbrev bool:TypeId:=4
abbrev string:TypeId:=9
abbrev LExpr:TypeId:=28
abbrev Value:TypeId:=33
abbrev Expr:TypeId:=35
abbrev Set:TypeId:=37
abbrev Trigger:TypeId:=46
abbrev Table:TypeId:=58
abbrev LValue:TypeId:=59
abbrev Row:TypeId:=61
abbrev run:TypeId:=95
abbrev Column:TypeId:=106
abbrev Pair:TypeId:=116
abbrev Frame:TypeId:=148
abbrev M_int_bool:TypeId:=156
abbrev M_Value_bool:TypeId:=161
abbrev row:TypeId:=216
end Ty
noncomputable abbrev ZT1:TI:=⟨.scalar,1,8,[.v .nilFunc]⟩
noncomputable abbrev ZT0:TI:=⟨.scalar,0,0,[]⟩
noncomputable def tabA:List TI:=[
ZT0,ZT1, ⟨.int .i64,1,8,[(.v (.int .i64 0))]⟩,
 ⟨.int .i64,1,8,[(.v (.int .i64 0))]⟩,
 ⟨.bool,1,1,[.bl false]⟩,
 ⟨.int .u8,1,1,[(.v (.int .u8 0))]⟩,
 ⟨.int .u8,1,1,[(.v (.int .u8 0))]⟩,
 ⟨.struct [0,1,2,3],4,24,[(.v (.int .i64 0)),(.v (.int .i64 0)),.bl false,(.v (.int .u8 0))]⟩,
 ⟨.struct [0,1,2,3],4,24,[(.v (.int .i64 0)),(.v (.int .i64 0)),.bl false,(.v (.int .u8 0))]⟩,
 ⟨.str,1,16,[.v (.string ⟨#[]⟩)]⟩,
 ⟨.str,1,16,[.v (.string ⟨#[]⟩)]⟩,
 ⟨.str,1,16,[.v (.string ⟨#[]⟩)]⟩,
 ⟨.int .u64,1,8,[(.v (.int .u64 0))]⟩,
 ⟨.struct [0,1],2,24,[.v (.string ⟨#[]⟩),(.v (.int .u64 0))]⟩,
 ⟨.struct [0,1],2,24,[.v (.string ⟨#[]⟩),(.v (.int .u64 0))]⟩,
 ⟨.scalar,1,8,[.v (.pointer none)]⟩,
 ⟨.scalar,1,8,[.v (.pointer none)]⟩,
 ⟨.scalar,1,8,[.v (.pointer none)]⟩,
 ⟨.struct [0],1,8,[.v (.pointer none)]⟩,
 ⟨.struct [0],1,8,[.v (.pointer none)]⟩,
 ⟨.scalar,1,16,[.v .nilIface]⟩,
 ⟨.int .i32,1,4,[(.v (.int .i32 0))]⟩,
 ⟨.slice 3,1,24,[.nl]⟩,
 ⟨.scalar,1,8,[.v (.pointer none)]⟩,
ZT1, ⟨.slice 58,1,24,[.nl]⟩,
ZT1,ZT1, ⟨.slice 35,1,24,[.nl]⟩,
 ⟨.struct [0,1,2,3],4,72,[.bl false,.nl,.v (.string ⟨#[]⟩),.nl]⟩,
 ⟨.struct [0,1,2,3],4,72,[.bl false,.nl,.v (.string ⟨#[]⟩),.nl]⟩,
 ⟨.slice 30,1,24,[.nl]⟩,
 ⟨.struct [0,1,2],3,32,[(.v (.int .i64 0)),(.v (.int .i64 0)),.v (.string ⟨#[]⟩)]⟩,
 ⟨.struct [0,1,2],3,32,[(.v (.int .i64 0)),(.v (.int .i64 0)),.v (.string ⟨#[]⟩)]⟩,
 ⟨.struct [0,1,2,3,6,7,8,9],10,136,[(.v (.int .i64 0)),(.v (.int .i64 0)),.bl false,(.v (.int .i64 0)),(.v (.int .i64 0)),.v (.string ⟨#[]⟩),.v (.string ⟨#[]⟩),.v (.string ⟨#[]⟩),.nl,.nl]⟩,
 ⟨.struct [0,1,2,3,6,7,8,9],10,136,[(.v (.int .i64 0)),(.v (.int .i64 0)),.bl false,(.v (.int .i64 0)),(.v (.int .i64 0)),.v (.string ⟨#[]⟩),.v (.string ⟨#[]⟩),.v (.string ⟨#[]⟩),.nl,.nl]⟩,
 ⟨.struct [0,1],11,152,[.v (.string ⟨#[]⟩),(.v (.int .i64 0)),(.v (.int .i64 0)),.bl false,(.v (.int .i64 0)),(.v (.int .i64 0)),.v (.string ⟨#[]⟩),.v (.string ⟨#[]⟩),.v (.string ⟨#[]⟩),.nl,.nl]⟩,
 ⟨.struct [0,1],11,152,[.v (.string ⟨#[]⟩),(.v (.int .i64 0)),(.v (.int .i64 0)),.bl false,(.v (.int .i64 0)),(.v (.int .i64 0)),.v (.string ⟨#[]⟩),.v (.string ⟨#[]⟩),.v (.string ⟨#[]⟩),.nl,.nl]⟩,
 ⟨.slice 37,1,24,[.nl]⟩,
 ⟨.slice 28,1,24,[.nl]⟩,
 ⟨.struct [0,1,2,3,4,5,6],7,136,[(.v (.int .i64 0)),.v (.string ⟨#[]⟩),.nl,.nl,.nl,.nl,.v (.string ⟨#[]⟩)]⟩,
 ⟨.struct [0,1,2,3,4,5,6],7,136,[(.v (.int .i64 0)),.v (.string ⟨#[]⟩),.nl,.nl,.nl,.nl,.v (.string ⟨#[]⟩)]⟩,
 ⟨.slice 41,1,24,[.nl]⟩,
 ⟨.slice 9,1,24,[.nl]⟩,
 ⟨.slice 178,1,24,[.nl]⟩,
 ⟨.struct [0,1,2,3,4,5,6,7,8,9,10],11,200,[.v (.string ⟨#[]⟩),.v (.string ⟨#[]⟩),.bl false,(.v (.int .i64 0)),.nl,.bl false,.nl,.nl,.nl,.nl,.nl]⟩,
 ⟨.struct [0,1,2,3,4,5,6,7,8,9,10],11,200,[.v (.string ⟨#[]⟩),.v (.string ⟨#[]⟩),.bl false,(.v (.int .i64 0)),.nl,.bl false,.nl,.nl,.nl,.nl,.nl]⟩,
ZT1,ZT1, ⟨.int .i64,1,8,[(.v (.int .i64 0))]⟩,
ZT0,ZT1, ⟨.slice 46,1,24,[.nl]⟩,
 ⟨.slice 106,1,24,[.nl]⟩,
 ⟨.struct [0,1],2,40,[.v (.string ⟨#[]⟩),.nl]⟩,
 ⟨.struct [0,1],2,40,[.v (.string ⟨#[]⟩),.nl]⟩,
 ⟨.slice 61,1,24,[.nl]⟩,
 ⟨.struct [0,2,3],4,72,[.v (.string ⟨#[]⟩),.nl,(.v (.int .i64 0)),.nl]⟩,
 ⟨.struct [0,2,3],4,72,[.v (.string ⟨#[]⟩),.nl,(.v (.int .i64 0)),.nl]⟩,
 ⟨.slice 33,1,24,[.nl]⟩,
 ⟨.struct [0,1],2,32,[(.v (.int .i64 0)),.nl]⟩,
 ⟨.struct [0,1],2,32,[(.v (.int .i64 0)),.nl]⟩,
ZT1,ZT1,ZT1,ZT1, ⟨.slice 148,1,24,[.nl]⟩,
 ⟨.slice 55,1,24,[.nl]⟩,
 ⟨.struct [0,1],2,48,[.nl,.nl]⟩,
 ⟨.struct [0,1],2,48,[.nl,.nl]⟩,
ZT1, ⟨.slice 59,1,24,[.nl]⟩,
 ⟨.slice 116,1,24,[.nl]⟩,
 ⟨.struct [0,1,2],3,72,[.nl,.nl,.nl]⟩,
 ⟨.struct [0,1,2],3,72,[.nl,.nl,.nl]⟩,
ZT0,ZT1,ZT1,ZT0,ZT1,ZT1,ZT1, ⟨.struct [0,1],2,32,[.nl,(.v (.int .i64 0))]⟩,
 ⟨.struct [0,1],2,32,[.nl,(.v (.int .i64 0))]⟩,
ZT1,ZT1, ⟨.slice 257,1,24,[.nl]⟩,
ZT1,ZT1,ZT1,ZT1,ZT1,ZT1, ⟨.scalar,1,8,[.v (.pointer none)]⟩,
 ⟨.struct [0,1,2,3,5,6],7,160,[.nl,.nl,.nl,.v (.string ⟨#[]⟩),.nl,.nl,.nl]⟩,
 ⟨.struct [0,1,2,3,5,6],7,160,[.nl,.nl,.nl,.v (.string ⟨#[]⟩),.nl,.nl,.nl]⟩,
ZT1, ⟨.scalar,1,8,[.v (.pointer none)]⟩,
ZT1,ZT1,ZT1,ZT1,ZT1,ZT1,ZT1, ⟨.struct [0,1,2,3],4,32,[.v (.string ⟨#[]⟩),(.v (.int .i64 0)),.bl false,.bl false]⟩,
 ⟨.struct [0,1,2,3],4,32,[.v (.string ⟨#[]⟩),(.v (.int .i64 0)),.bl false,.bl false]⟩,
ZT1,ZT1,ZT1,ZT1,ZT1,ZT1,ZT1,ZT1, ⟨.struct [0,1,2],3,56,[(.v (.int .i64 0)),.nl,.nl]⟩,
 ⟨.struct [0,1,2],3,56,[(.v (.int .i64 0)),.nl,.nl]⟩,
ZT1,ZT1,ZT0,ZT1,ZT1,ZT1,ZT1,ZT1,ZT1,ZT1,ZT1, ⟨.slice 25,1,24,[.nl]⟩,
ZT1,ZT0,ZT1,ZT0,ZT1,ZT1,ZT0,ZT1,ZT0,ZT1,ZT1,ZT1,ZT1,ZT1,ZT1,ZT1,ZT1,ZT1, ⟨.struct [0,1,2,3],4,72,[.v (.string ⟨#[]⟩),.bl false,.nl,.nl]⟩,
 ⟨.struct [0,1,2,3],4,72,[.v (.string ⟨#[]⟩),.bl false,.nl,.nl]⟩,
ZT0,ZT1,ZT1,ZT0,ZT1,ZT1,ZT1, ⟨.map 3 4,1,8,[.v (.map none)]⟩,
ZT1,ZT1,ZT1,ZT1, ⟨.map 33 4,1,8,[.v (.map none)]⟩,
ZT1,ZT1,ZT0,ZT1,ZT1,ZT1,ZT1,ZT1,ZT1,ZT1,ZT1,ZT1,ZT1,ZT1,ZT1, ⟨.struct [0,1,2,3],4,48,[.v (.string ⟨#[]⟩),.v (.string ⟨#[]⟩),(.v (.int .i64 0)),(.v (.int .i64 0))]⟩,
 ⟨.struct [0,1,2,3],4,48,[.v (.string ⟨#[]⟩),.v (.string ⟨#[]⟩),(.v (.int .i64 0)),(.v (.int .i64 0))]⟩,
ZT1,ZT1,ZT1,ZT1,ZT0,ZT1,ZT1, ⟨.array 6 9,6,96,[.v (.string ⟨#[]⟩),.v (.string ⟨#[]⟩),.v (.string ⟨#[]⟩),.v (.string ⟨#[]⟩),.v (.string ⟨#[]⟩),.v (.string ⟨#[]⟩)]⟩,
ZT1,ZT1,ZT1,ZT0,ZT1,ZT1,ZT0,ZT1,ZT1,ZT1,ZT1,ZT1,ZT0,ZT1,ZT1,ZT1,ZT1,ZT1,ZT1,ZT1,ZT1,ZT1,ZT1,ZT1,ZT1,ZT1,ZT1, ⟨.scalar,1,8,[.v (.pointer none)]⟩,
 ⟨.struct [0,2,3,4],5,112,[.v (.string ⟨#[]⟩),.nl,.nl,.nl,.nl]⟩,
 ⟨.struct [0,2,3,4],5,112,[.v (.string ⟨#[]⟩),.nl,.nl,.nl,.nl]⟩,
ZT1, ⟨.slice 220,1,24,[.nl]⟩,
 ⟨.struct [0,1,2,3],4,72,[.v (.string ⟨#[]⟩),(.v (.int .i64 0)),.nl,.nl]⟩,
 ⟨.struct [0,1,2,3],4,72,[.v (.string ⟨#[]⟩),(.v (.int .i64 0)),.nl,.nl]⟩,
ZT1,ZT0,ZT1,ZT1,ZT1,ZT1,ZT1,ZT1,ZT1,ZT1,ZT1,ZT1, ⟨.slice 5,1,24,[.nl]⟩,
ZT1,ZT1,ZT1,ZT1,ZT0,ZT1,ZT1,ZT1,ZT1,ZT1, ⟨.slice 2,1,24,[.nl]⟩,
ZT0,ZT1,ZT1,ZT1,ZT1,ZT1,ZT1,ZT1,ZT1, ⟨.array 9 4,9,9,[.bl false,.bl false,.bl false,.bl false,.bl false,.bl false,.bl false,.bl false,.bl false]⟩,
ZT1, ⟨.struct [0,1],2,32,[.v (.string ⟨#[]⟩),.v (.string ⟨#[]⟩)]⟩,
 ⟨.struct [0,1],2,32,[.v (.string ⟨#[]⟩),.v (.string ⟨#[]⟩)]⟩,
 ⟨.int .u64,1,8,[(.v (.int .u64 0))]⟩,
 ⟨.struct [0,1],2,16,[(.v (.int .i64 0)),(.v (.int .u64 0))]⟩,
 ⟨.struct [0,1],2,16,[(.v (.int .i64 0)),(.v (.int .u64 0))]⟩,
ZT1,ZT1,ZT1,ZT1,ZT0,ZT1,ZT1,ZT1,ZT1, ⟨.int .u64,1,8,[(.v (.int .u64 0))]⟩,
ZT1,ZT1, ⟨.struct [0,1,2,3],4,40,[.v (.pointer none),.v (.pointer none),.v (.pointer none),.v (.string ⟨#[]⟩)]⟩,
 ⟨.struct [0,1,2,3],4,40,[.v (.pointer none),.v (.pointer none),.v (.pointer none),.v (.string ⟨#[]⟩)]⟩,
ZT0,ZT0,ZT0,ZT1, ⟨.int .u32,1,4,[(.v (.int .u32 0))]⟩,
 ⟨.int .u8,1,1,[(.v (.int .u8 0))]⟩,
 ⟨.int .u8,1,1,[(.v (.int .u8 0))]⟩,
ZT1, ⟨.scalar,1,8,[.v (.pointer none)]⟩,
 ⟨.int .i32,1,4,[(.v (.int .i32 0))]⟩,
 ⟨.int .i32,1,4,[(.v (.int .i32 0))]⟩,
 ⟨.struct [0,1,2,3,4,5,6,7,8,9,10],11,48,[(.v (.int .u64 0)),(.v (.int .u64 0)),(.v (.int .u32 0)),(.v (.int .u8 0)),(.v (.int .u8 0)),(.v (.int .u8 0)),(.v (.int .u8 0)),.v .nilFunc,.v (.pointer none),(.v (.int .i32 0)),(.v (.int .i32 0))]⟩,
 ⟨.struct [0,1,2,3,4,5,6,7,8,9,10],11,48,[(.v (.int .u64 0)),(.v (.int .u64 0)),(.v (.int .u32 0)),(.v (.int .u8 0)),(.v (.int .u8 0)),(.v (.int .u8 0)),(.v (.int .u8 0)),.v .nilFunc,.v (.pointer none),(.v (.int .i32 0)),(.v (.int .i32 0))]⟩,
 ⟨.scalar,0,0,[]⟩]
theorem zB8:zmo Proofs.Tryz.prog tabA tabA.length=true:=by kernel_rfl
theorem mix_ok:Proofs.Tryz.prog.follows .mixedOrders=true:=by kernel_rfl
namespace B
open Proofs.Tryz
noncomputable abbrev Ar:Func:=f5
noncomputable abbrev BB:Func:=f7
noncomputable abbrev B5:Func:=f8
noncomputable abbrev Ap:Func:=f14
noncomputable abbrev AN:Func:=f16
noncomputable abbrev AA:Func:=f17
noncomputable abbrev Bf:Func:=f18
noncomputable abbrev AH:Func:=f21
noncomputable abbrev AM:Func:=f23
noncomputable abbrev Ai:Func:=f24
noncomputable abbrev Bg:Func:=f26
noncomputable abbrev A9:Func:=f27
noncomputable abbrev BC:Func:=f28
noncomputable abbrev Bq:Func:=f29
noncomputable abbrev Ab:Func:=f30
noncomputable abbrev AV:Func:=f31
noncomputable abbrev Cq:Func:=f32
noncomputable abbrev Br:Func:=f38
noncomputable abbrev As:Func:=f45
noncomputable abbrev Aw:Func:=f46
noncomputable abbrev AT:Func:=f47
noncomputable abbrev BZ:Func:=f48
noncomputable abbrev CD:Func:=f49
noncomputable abbrev Ct:Func:=f50
noncomputable abbrev Cd:Func:=f51
noncomputable abbrev Bb:Func:=f53
noncomputable abbrev Al:Func:=f55
noncomputable abbrev B7:Func:=f57
noncomputable abbrev Ag:Func:=f58
noncomputable abbrev Ax:Func:=f62
noncomputable abbrev Bw:Func:=f66
noncomputable abbrev Bh:Func:=f67
noncomputable abbrev Bd:Func:=f68
noncomputable abbrev Ce:Func:=f76
noncomputable abbrev Bi:Func:=f77
noncomputable abbrev A3:Func:=f78
noncomputable abbrev AW:Func:=f79
noncomputable abbrev Az:Func:=f80
noncomputable abbrev Am:Func:=f86
noncomputable abbrev A7:Func:=f87
noncomputable abbrev Cf:Func:=f90
noncomputable abbrev BW:Func:=f91
noncomputable abbrev Cn:Func:=f92
noncomputable abbrev BT:Func:=f93
noncomputable abbrev Bo:Func:=f95
noncomputable abbrev Be:Func:=f96
noncomputable abbrev AX:Func:=f97
noncomputable abbrev Aj:Func:=f100
noncomputable abbrev Bz:Func:=f101
noncomputable abbrev Bj:Func:=f104
noncomputable abbrev Bt:Func:=f109
noncomputable abbrev BQ:Func:=f112
noncomputable abbrev A8:Func:=f118
noncomputable abbrev Cu:Func:=f119
noncomputable abbrev B6:Func:=f120
noncomputable abbrev Cg:Func:=f121
noncomputable abbrev Ch:Func:=f122
noncomputable abbrev BI:Func:=f124
noncomputable abbrev Au:Func:=f126
noncomputable abbrev AY:Func:=f127
noncomputable abbrev AJ:Func:=f128
noncomputable abbrev A5:Func:=f129
noncomputable abbrev AS:Func:=f130
noncomputable abbrev BN:Func:=f132
noncomputable abbrev AB:Func:=f133
noncomputable abbrev CE:Func:=f135
noncomputable abbrev B4:Func:=f136
noncomputable abbrev Ci:Func:=f139
noncomputable abbrev AO:Func:=f141
noncomputable abbrev AP:Func:=f144
noncomputable abbrev Cz:Func:=f149
noncomputable abbrev AZ:Func:=f150
noncomputable abbrev Av:Func:=f152
noncomputable abbrev AQ:Func:=f153
noncomputable abbrev An:Func:=f154
noncomputable abbrev Aq:Func:=f157
noncomputable abbrev A0:Func:=f166
noncomputable abbrev B0:Func:=f171
noncomputable abbrev Ak:Func:=f176
noncomputable abbrev Bp:Func:=f179
noncomputable abbrev Bx:Func:=f192
noncomputable abbrev Ay:Func:=f193
noncomputable abbrev CF:Func:=f196
noncomputable abbrev BJ:Func:=f197
noncomputable abbrev BK:Func:=f199
noncomputable abbrev CM:Func:=f209
noncomputable abbrev Cx:Func:=f215
noncomputable abbrev AK:Func:=f222
noncomputable abbrev BY:Func:=f225
noncomputable abbrev C7:Func:=f229
noncomputable abbrev CY:Func:=f230
noncomputable abbrev AE:Func:=f249
end B
abbrev ZFn (n:FuncId) (f:Func):Prop:=Proofs.Tryz.prog.funcs[n]?=some f
namespace At
open Proofs.Tryz
theorem Ar:ZFn S.Ar B.Ar:=func5
theorem Dx:ZFn S.Dx f6:=func6
theorem BB:ZFn S.BB B.BB:=func7
theorem B5:ZFn S.B5 B.B5:=func8
theorem Dy:ZFn S.Dy f9:=func9
theorem DJ:ZFn S.DJ f10:=func10
theorem AF:ZFn S.AF f11:=func11
theorem DD:ZFn S.DD f12:=func12
theorem C2:ZFn S.C2 f13:=func13
theorem Ap:ZFn S.Ap B.Ap:=func14
theorem DH:ZFn S.DH f15:=func15
theorem AN:ZFn S.AN B.AN:=func16
theorem AA:ZFn S.AA B.AA:=func17
theorem Bf:ZFn S.Bf B.Bf:=func18
theorem BH:ZFn S.BH f19:=func19
theorem Dw:ZFn S.Dw f20:=func20
theorem AH:ZFn S.AH B.AH:=func21
theorem Cc:ZFn S.Cc f22:=func22
theorem AM:ZFn S.AM B.AM:=func23
theorem Ai:ZFn S.Ai B.Ai:=func24
theorem Dp:ZFn S.Dp f25:=func25
theorem Bg:ZFn S.Bg B.Bg:=func26
theorem A9:ZFn S.A9 B.A9:=func27
theorem BC:ZFn S.BC B.BC:=func28
theorem Bq:ZFn S.Bq B.Bq:=func29
theorem Ab:ZFn S.Ab B.Ab:=func30
theorem AV:ZFn S.AV B.AV:=func31
theorem Cq:ZFn S.Cq B.Cq:=func32
theorem CV:ZFn S.CV f33:=func33
theorem Dd:ZFn S.Dd f34:=func34
theorem Dz:ZFn S.Dz f35:=func35
theorem B1:ZFn S.B1 f36:=func36
theorem Dg:ZFn S.Dg f37:=func37
theorem Br:ZFn S.Br B.Br:=func38
theorem B8:ZFn S.B8 f39:=func39
theorem De:ZFn S.De f40:=func40
theorem Aa:ZFn S.Aa f41:=func41
theorem DK:ZFn S.DK f42:=func42
theorem DL:ZFn S.DL f43:=func43
theorem CL:ZFn S.CL f44:=func44
theorem As:ZFn S.As B.As:=func45
theorem Aw:ZFn S.Aw B.Aw:=func46
theorem AT:ZFn S.AT B.AT:=func47
theorem BZ:ZFn S.BZ B.BZ:=func48
theorem CD:ZFn S.CD B.CD:=func49
theorem Ct:ZFn S.Ct B.Ct:=func50
theorem Cd:ZFn S.Cd B.Cd:=func51
theorem C5:ZFn S.C5 f52:=func52
theorem Bb:ZFn S.Bb B.Bb:=func53
theorem CS:ZFn S.CS f54:=func54
theorem Al:ZFn S.Al B.Al:=func55
theorem Bn:ZFn S.Bn f56:=func56
theorem B7:ZFn S.B7 B.B7:=func57
theorem Ag:ZFn S.Ag B.Ag:=func58
theorem Ca:ZFn S.Ca f59:=func59
theorem CJ:ZFn S.CJ f60:=func60
theorem By:ZFn S.By f61:=func61
theorem Ax:ZFn S.Ax B.Ax:=func62
theorem Bs:ZFn S.Bs f63:=func63
theorem Dt:ZFn S.Dt f64:=func64
theorem AD:ZFn S.AD f65:=func65
theorem Bw:ZFn S.Bw B.Bw:=func66
theorem Bh:ZFn S.Bh B.Bh:=func67
theorem Bd:ZFn S.Bd B.Bd:=func68
theorem BV:ZFn S.BV f69:=func69
theorem Cm:ZFn S.Cm f72:=func72
theorem CB:ZFn S.CB f74:=func74
theorem CK:ZFn S.CK f75:=func75
theorem Ce:ZFn S.Ce B.Ce:=func76
theorem Bi:ZFn S.Bi B.Bi:=func77
theorem A3:ZFn S.A3 B.A3:=func78
theorem AW:ZFn S.AW B.AW:=func79
theorem Az:ZFn S.Az B.Az:=func80
theorem B3:ZFn S.B3 f81:=func81
theorem Dh:ZFn S.Dh f82:=func82
theorem BS:ZFn S.BS f83:=func83
theorem A6:ZFn S.A6 f84:=func84
theorem Bc:ZFn S.Bc f85:=func85
theorem Am:ZFn S.Am B.Am:=func86
theorem A7:ZFn S.A7 B.A7:=func87
theorem DA:ZFn S.DA f88:=func88
theorem A4:ZFn S.A4 f89:=func89
theorem Cf:ZFn S.Cf B.Cf:=func90
theorem BW:ZFn S.BW B.BW:=func91
theorem Cn:ZFn S.Cn B.Cn:=func92
theorem BT:ZFn S.BT B.BT:=func93
theorem C6:ZFn S.C6 f94:=func94
theorem Bo:ZFn S.Bo B.Bo:=func95
theorem Be:ZFn S.Be B.Be:=func96
theorem AX:ZFn S.AX B.AX:=func97
theorem Ah:ZFn S.Ah f98:=func98
theorem CX:ZFn S.CX f99:=func99
theorem Aj:ZFn S.Aj B.Aj:=func100
theorem Bz:ZFn S.Bz B.Bz:=func101
theorem A2:ZFn S.A2 f102:=func102
theorem B2:ZFn S.B2 f103:=func103
theorem Bj:ZFn S.Bj B.Bj:=func104
theorem C3:ZFn S.C3 f105:=func105
theorem DB:ZFn S.DB f106:=func106
theorem DE:ZFn S.DE f107:=func107
theorem Dq:ZFn S.Dq f108:=func108
theorem Bt:ZFn S.Bt B.Bt:=func109
theorem Co:ZFn S.Co f110:=func110
theorem BQ:ZFn S.BQ B.BQ:=func112
theorem A8:ZFn S.A8 B.A8:=func118
theorem Cu:ZFn S.Cu B.Cu:=func119
theorem B6:ZFn S.B6 B.B6:=func120
theorem Cg:ZFn S.Cg B.Cg:=func121
theorem Ch:ZFn S.Ch B.Ch:=func122
theorem BM:ZFn S.BM f123:=func123
theorem BI:ZFn S.BI B.BI:=func124
theorem CT:ZFn S.CT f125:=func125
theorem Au:ZFn S.Au B.Au:=func126
theorem AY:ZFn S.AY B.AY:=func127
theorem AJ:ZFn S.AJ B.AJ:=func128
theorem A5:ZFn S.A5 B.A5:=func129
theorem AS:ZFn S.AS B.AS:=func130
theorem Ad:ZFn S.Ad f131:=func131
theorem BN:ZFn S.BN B.BN:=func132
theorem AB:ZFn S.AB B.AB:=func133
theorem AI:ZFn S.AI f134:=func134
theorem CE:ZFn S.CE B.CE:=func135
theorem B4:ZFn S.B4 B.B4:=func136
theorem Da:ZFn S.Da f137:=func137
theorem DF:ZFn S.DF f138:=func138
theorem Ci:ZFn S.Ci B.Ci:=func139
theorem Cr:ZFn S.Cr f140:=func140
theorem AO:ZFn S.AO B.AO:=func141
theorem BD:ZFn S.BD f142:=func142
theorem AR:ZFn S.AR f143:=func143
theorem AP:ZFn S.AP B.AP:=func144
theorem Bk:ZFn S.Bk f145:=func145
theorem Cj:ZFn S.Cj f147:=func147
theorem Ac:ZFn S.Ac f148:=func148
theorem Cz:ZFn S.Cz B.Cz:=func149
theorem AZ:ZFn S.AZ B.AZ:=func150
theorem At:ZFn S.At f151:=func151
theorem Av:ZFn S.Av B.Av:=func152
theorem AQ:ZFn S.AQ B.AQ:=func153
theorem An:ZFn S.An B.An:=func154
theorem BG:ZFn S.BG f155:=func155
theorem Dr:ZFn S.Dr f156:=func156
theorem Aq:ZFn S.Aq B.Aq:=func157
theorem CH:ZFn S.CH f158:=func158
theorem A0:ZFn S.A0 B.A0:=func166
theorem B0:ZFn S.B0 B.B0:=func171
theorem BX:ZFn S.BX f172:=func172
theorem Bv:ZFn S.Bv f173:=func173
theorem C4:ZFn S.C4 f174:=func174
theorem Db:ZFn S.Db f175:=func175
theorem Ak:ZFn S.Ak B.Ak:=func176
theorem CU:ZFn S.CU f177:=func177
theorem Du:ZFn S.Du f178:=func178
theorem Bp:ZFn S.Bp B.Bp:=func179
theorem Ds:ZFn S.Ds f180:=func180
theorem Df:ZFn S.Df f181:=func181
theorem Ao:ZFn S.Ao f182:=func182
theorem Ba:ZFn S.Ba f183:=func183
theorem Cv:ZFn S.Cv f184:=func184
theorem CI:ZFn S.CI f185:=func185
theorem Di:ZFn S.Di f186:=func186
theorem B9:ZFn S.B9 f187:=func187
theorem AG:ZFn S.AG f188:=func188
theorem AU:ZFn S.AU f189:=func189
theorem CA:ZFn S.CA f190:=func190
theorem Ae:ZFn S.Ae f191:=func191
theorem Bx:ZFn S.Bx B.Bx:=func192
theorem Ay:ZFn S.Ay B.Ay:=func193
theorem Dj:ZFn S.Dj f194:=func194
theorem DC:ZFn S.DC f195:=func195
theorem CF:ZFn S.CF B.CF:=func196
theorem BJ:ZFn S.BJ B.BJ:=func197
theorem Cb:ZFn S.Cb f198:=func198
theorem BK:ZFn S.BK B.BK:=func199
theorem C1:ZFn S.C1 f200:=func200
theorem Dk:ZFn S.Dk f201:=func201
theorem Cw:ZFn S.Cw f202:=func202
theorem Af:ZFn S.Af f203:=func203
theorem Dl:ZFn S.Dl f204:=func204
theorem Dv:ZFn S.Dv f205:=func205
theorem BR:ZFn S.BR f206:=func206
theorem BO:ZFn S.BO f207:=func207
theorem Dm:ZFn S.Dm f208:=func208
theorem CM:ZFn S.CM B.CM:=func209
theorem BL:ZFn S.BL f213:=func213
theorem CN:ZFn S.CN f214:=func214
theorem Cx:ZFn S.Cx B.Cx:=func215
theorem DG:ZFn S.DG f216:=func216
theorem C9:ZFn S.C9 f217:=func217
theorem CR:ZFn S.CR f218:=func218
theorem CO:ZFn S.CO f219:=func219
theorem CP:ZFn S.CP f220:=func220
theorem Ck:ZFn S.Ck f221:=func221
theorem AK:ZFn S.AK B.AK:=func222
theorem BU:ZFn S.BU f223:=func223
theorem A1:ZFn S.A1 f224:=func224
theorem BY:ZFn S.BY B.BY:=func225
theorem BA:ZFn S.BA f226:=func226
theorem AC:ZFn S.AC f227:=func227
theorem Bl:ZFn S.Bl f228:=func228
theorem C7:ZFn S.C7 B.C7:=func229
theorem CY:ZFn S.CY B.CY:=func230
theorem CC:ZFn S.CC f231:=func231
theorem Cp:ZFn S.Cp f232:=func232
theorem Cl:ZFn S.Cl f233:=func233
theorem Cs:ZFn S.Cs f234:=func234
theorem BE:ZFn S.BE f235:=func235
theorem AL:ZFn S.AL f236:=func236
theorem CG:ZFn S.CG f237:=func237
theorem CZ:ZFn S.CZ f238:=func238
theorem CW:ZFn S.CW f239:=func239
theorem Cy:ZFn S.Cy f240:=func240
theorem C8:ZFn S.C8 f242:=func242
theorem DI:ZFn S.DI f243:=func243
theorem CQ:ZFn S.CQ f244:=func244
theorem Dc:ZFn S.Dc f245:=func245
theorem C0:ZFn S.C0 f246:=func246
theorem Dn:ZFn S.Dn f247:=func247
theorem BF:ZFn S.BF f248:=func248
theorem AE:ZFn S.AE B.AE:=func249
theorem Do:ZFn S.Do f250:=func250
theorem BP:ZFn S.BP f251:=func251
theorem Bu:ZFn S.Bu f252:=func252
theorem Bm:ZFn S.Bm f253:=func253
end At
theorem Rel.nilRow {E:Env0} {h:Heap} {β:List Con} {S:Addr->Prop} {w:World} (r:Rel E h β S w) (e:TypeId) (a:Option Addr) :
  Ext h β S w (h++[Blk.row e [] false]) (β++[.nil a]) S w/\Rel E (h++[Blk.row e [] false]) (β++[.nil a]) S w :=
 r.newRow e [] false (.nil a) ⟨⟨rfl,rfl,rfl,Nat.le_refl _,fun _ _=>rfl⟩,Nat.le_refl _⟩ (fun g hg=>by cases hg) rfl
theorem zky {T:TypeId->TI} {h:Heap} {β:List Con} {S:Addr->Prop} {w:World} {v:Value} (hv:RelV T h β w S .nl v):∃ a,v=.slice a 0 0:=by
 cases hv with
 | d _ _ hd=>cases hd
 | nl a=>exact ⟨a,rfl⟩
theorem Rel.ownNil {E:Env0} {h:Heap} {β:List Con} {S:Addr->Prop} {w:World} (r:Rel E h β S w) (e:TypeId) (a:Option Addr) :
  RelV E.T (h++[Blk.row e [] false]) (β++[.nil a]) w S (.own h.length 0) (.slice a 0 0) :=
 .own _ _ _ e [] false (getElem?_append_new _ _) (Nat.le_refl _) (fun _=>by rw [← r.len,getElem?_append_new];rfl) rfl
theorem zAi {E:Env0} {fn:Func} {h0:Heap} {c:Cfg} {R:AV->Heap->Prop} (t:Nat) (e:TypeId) (hc:look c.ts t=.nl)
  (hg:Good E fn h0 ⟨c.n,c.todo,(t,.own c.h.length 0)::c.ts,c.h++[Blk.row e [] false]⟩ R):Good E fn h0 c R:=by
 intro β0 S0 w0 β S w tmps hb0 hn x0 r rt
 have ht:=rt t
 rw [hc] at ht
 obtain ⟨a,ha⟩:=zky ht
 obtain ⟨x1,r1⟩:=r.nilRow e a
 refine hg β0 S0 w0 _ S w tmps hb0 hn (x0.trans x1) r1 fun t'=>?_
 simp only [look]
 cases hb:Nat.beq t t' with
 | true =>
  have:=Nat.eq_of_beq_eq_true hb
  subst this
  simp only
  rw [ha]
  exact r.ownNil e a
 | false=>exact (rt t').ext x1
theorem zej {E:Env0} {fn:Func} {h0 H:Heap} {c:Cfg} {R:AV->Heap->Prop} (e:TypeId) (hg:Good E fn h0 c fun r h=>r=.nl/\h=H)
  (hR:R (.own H.length 0) (H++[Blk.row e [] false])):Good E fn h0 c R:=by
 intro β0 S0 w0 β S w tmps hb0 hn x0 r rt
 refine zdc (zq3 fun en w' hp=>?_) _ _ _ _ (hg β0 S0 w0 β S w tmps hb0 hn x0 r rt)
 obtain ⟨y,h',β',S',v,he,⟨rfl,rfl⟩,r',x',hv⟩:=hp
 obtain ⟨a,rfl⟩:=zky hv
 obtain ⟨x1,r1⟩:=r'.nilRow e a
 exact ⟨_,_,_,S',_,he,hR,r1,x'.trans x1,r'.ownNil e a⟩
theorem zfa {h:Heap} {β:List Con} {S:Addr->Prop} {w:World} {b:Nat} {cs:List AV} (hb:h[b]?=some (.box cs)) (cs':List AV):Ext h β S w (h.set b (.box cs')) β S w :=
 { Ext.refl h β S w with
  box:=fun b' cs1 h1=>by
   by_cases hbb:b=b'
   ·subst hbb
    exact ⟨cs',by rw [List.getElem?_set_self (List.getElem?_eq_some_iff.1 hb).1]⟩
   ·exact ⟨cs1,by rw [List.getElem?_set_ne hbb];exact h1⟩
  row:=fun b' e xs sh h1=>by
   have hbb:b≠b':=fun e=>by subst e;rw [hb] at h1;cases h1
   exact ⟨xs,sh,by rw [List.getElem?_set_ne hbb];exact h1,Nat.le_refl _,fun _=>rfl⟩
  mp:=fun b' es h1=>by
   have hbb:b≠b':=fun e=>by subst e;rw [hb] at h1;cases h1
   exact ⟨es,by rw [List.getElem?_set_ne hbb];exact h1⟩ }
theorem Rel.setBox {E:Env0} {h:Heap} {β:List Con} {S:Addr->Prop} {w:World} (r:Rel E h β S w) {b:Nat} {cs:List AV} (hb:h[b]?=some (.box cs)) (cs':List AV)
  (hc:∀ (g:Nat) (vs:List Value) (t:TypeId),β[b]?=some (.box g)->w.heap[g]?=some (.cells vs.toArray t (0,0))->cs.length=vs.length->(∀ (i:Nat) (x:AV) (y:Value),cs[i]?=some x->vs[i]?=some y->RelV E.T h β w S x y/\y.oneCell'=true) ->
   cs'.length=vs.length/\∀ (i:Nat) (x:AV) (y:Value),cs'[i]?=some x->vs[i]?=some y->RelV E.T h β w S x y/\y.oneCell'=true):Rel E (h.set b (.box cs')) β S w:=by
 have x:=zfa (β:=β) (S:=S) (w:=w) hb cs'
 have ne:∀ {b':Nat} {e:TypeId} {xs:List (List AV)} {sh:Bool},(h.set b (.box cs'))[b']?=some (.row e xs sh)->b≠b'/\h[b']?=some (.row e xs sh):=by
  intro b' e xs sh h1
  by_cases hbb:b=b'
  ·subst hbb
   rw [List.getElem?_set_self (List.getElem?_eq_some_iff.1 hb).1] at h1
   cases h1
  ·rw [List.getElem?_set_ne hbb] at h1
   exact ⟨hbb,h1⟩
 have nem:∀ {b':Nat} {es:List (AV × AV)},(h.set b (.box cs'))[b']?=some (.mp es)->h[b']?=some (.mp es):=by
  intro b' es h1
  by_cases hbb:b=b'
  ·subst hbb
   rw [List.getElem?_set_self (List.getElem?_eq_some_iff.1 hb).1] at h1
   cases h1
  ·rw [List.getElem?_set_ne hbb] at h1
   exact h1
 refine { r with len:=by simpa using r.len,box:=?_,row:=fun b' e xs sh h1=>r.row b' e xs sh (ne h1).2,mp:=fun b' es h1=>r.mp b' es (nem h1),free:=?_ }
 ·intro b' cs1 h1
  by_cases hbb:b=b'
  ·subst hbb
   rw [List.getElem?_set_self (List.getElem?_eq_some_iff.1 hb).1] at h1
   cases h1
   obtain ⟨g,vs,t,h2,h3,h4,h5⟩:=r.box b cs hb
   obtain ⟨h6,h7⟩:=hc g vs t h2 h3 h4 h5
   exact ⟨g,vs,t,h2,h3,h6,fun i y z hy hz=>⟨(h7 i y z hy hz).1.ext x,(h7 i y z hy hz).2⟩⟩
  ·rw [List.getElem?_set_ne hbb] at h1
   obtain ⟨g,vs,t,h2,h3,h4,h5⟩:=r.box b' cs1 h1
   exact ⟨g,vs,t,h2,h3,h4,fun i y z hy hz=>⟨(h5 i y z hy hz).1.ext x,(h5 i y z hy hz).2⟩⟩
 ·intro b' k g a h1 h2 h3 h4
  obtain ⟨e,xs,h5,h6⟩:=r.free b' k g a h1 h2 h3 h4
  have hbb:b≠b':=fun e=>by subst e;rw [hb] at h5;cases h5
  exact ⟨e,xs,by rw [List.getElem?_set_ne hbb];exact h5,h6⟩
theorem zuB {E:Env0} {fn:Func} {h0:Heap} {c:Cfg} {R:AV->Heap->Prop} (b i:Nat) (e:TypeId) {cs:List AV} (hb:c.h[b]?=some (.box cs)) (hi:cs[i]?=some .nl)
  (hg:Good E fn h0 ⟨c.n,c.todo,c.ts,(c.h++[Blk.row e [] false]).set b (.box (cs.set i (.own c.h.length 0)))⟩ R):Good E fn h0 c R:=by
 intro β0 S0 w0 β S w tmps hb0 hn x0 r rt
 obtain ⟨g,vs,t,h2,h3,h4,h5⟩:=r.box b cs hb
 have hil:i < vs.length:=by rw [← h4];exact (List.getElem?_eq_some_iff.1 hi).1
 have hv:=h5 i .nl vs[i] hi (by simp [hil])
 obtain ⟨a,ha⟩:=zky hv.1
 obtain ⟨x1,r1⟩:=r.nilRow e a
 have hb1:(c.h++[Blk.row e [] false])[b]?=some (.box cs):=by rw [List.getElem?_append_left (List.getElem?_eq_some_iff.1 hb).1];exact hb
 have x2:=zfa (β:=β++[.nil a]) (S:=S) (w:=w) hb1 (cs.set i (.own c.h.length 0))
 have r2:=r1.setBox hb1 (cs.set i (.own c.h.length 0)) (fun g' vs' t' e2 e3 e4 e5=>by
  refine ⟨by simpa using e4,fun j x y hx hy=>?_⟩
  by_cases hij:i=j
  ·subst hij
   rw [List.getElem?_set_self (List.getElem?_eq_some_iff.1 hi).1] at hx
   cases hx
   have:=e5 i .nl y hi hy
   refine ⟨?_,this.2⟩
   have hg:(β++[Con.nil a])[b]?=some (.box g):=x1.con b g h2
   rw [hg] at e2
   cases e2
   rw [h3] at e3
   have hvs:vs=vs':=by
    have e6:vs.toArray=vs'.toArray:=by injection e3 with e3;injection e3
    simpa using congrArg Array.toList e6
   subst hvs
   have:y=vs[i]:=by
    rw [List.getElem?_eq_getElem hil] at hy
    cases hy
    rfl
   rw [this,ha]
   exact r.ownNil e a
  ·rw [List.getElem?_set_ne hij] at hx
   exact e5 j x y hx hy)
 exact hg β0 S0 w0 _ S w tmps hb0 hn ((x0.trans x1).trans x2) r2 fun t'=>((rt t').ext x1).ext x2
theorem znn {E:Env0} {fn:Func} {h0:Heap} {c c':Cfg} {R:AV->Heap->Prop} (t:Nat) (e:TypeId) (live:List Nat) (m:Nat) (hc:look c.ts t=.nl) (hm:Nat.ble h0.length m=true)
  (he:cut live m ⟨c.n,c.todo,(t,.own c.h.length 0)::c.ts,c.h++[Blk.row e [] false]⟩=c') (hg:Good E fn h0 c' R):Good E fn h0 c R :=
 zAi t e hc (zdi live m (Nat.le_of_ble_eq_true hm) (he ▸ hg))
theorem zcL {E:Env0} {fn:Func} {h0:Heap} {c c':Cfg} {R:AV->Heap->Prop} (b i:Nat) (e:TypeId) (live:List Nat) (m:Nat) {cs:List AV} (hb:c.h[b]?=some (.box cs)) (hi:cs[i]?=some .nl) (hm:Nat.ble h0.length m=true)
  (he:cut live m ⟨c.n,c.todo,c.ts,(c.h++[Blk.row e [] false]).set b (.box (cs.set i (.own c.h.length 0)))⟩=c') (hg:Good E fn h0 c' R):Good E fn h0 c R :=
 zuB b i e hb hi (zdi live m (Nat.le_of_ble_eq_true hm) (he ▸ hg))
theorem zxd {E:Env0} {fn:Func} {h0:Heap} {c c':Cfg} {R:AV->Heap->Prop} (t:Nat) (b:Bool) (live:List Nat) (m:Nat) (hc:look c.ts t=.bl b) (hm:Nat.ble h0.length m=true)
  (he:cut live m ⟨c.n,c.todo,(t,.v (.bool b))::c.ts,c.h⟩=c') (hg:Good E fn h0 c' R):Good E fn h0 c R:=by
 have hg':=zdi live m (Nat.le_of_ble_eq_true hm) (he ▸ hg)
 intro β0 S0 w0 β S w tmps hb0 hn x0 r rt
 refine hg' β0 S0 w0 β S w tmps hb0 hn x0 r fun t'=>?_
 simp only [look]
 cases hb:Nat.beq t t' with
 | true =>
  have:=Nat.eq_of_beq_eq_true hb
  subst this
  have ht:=rt t
  rw [hc] at ht
  rw [ht.bl_inv]
  exact zcq _
 | false=>exact rt t'
theorem zuA {E:Env0} {fn:Func} {h0:Heap} {c c':Cfg} {R:AV->Heap->Prop} (t:Nat) {v:AV} {q:Prop} (live:List Nat) (m:Nat) (hc:look c.ts t=v) (hq:frzO c.h v=q) (ho:q) (hm:Nat.ble h0.length m=true)
  (he:cut live m ⟨c.n,c.todo,(t,frz c.h v)::c.ts,share c.h (frzM v)⟩=c') (hg:Good E fn h0 c' R):Good E fn h0 c R:=by
 have hg':=zdi live m (Nat.le_of_ble_eq_true hm) (he ▸ hg)
 intro β0 S0 w0 β S w tmps hb0 hn x0 r rt
 have hv:=rt t
 rw [hc] at hv
 obtain ⟨S',⟨x1,r1⟩,d1⟩:=zoI E v c.h β S w _ r hv (by rw [hq];exact ho)
 refine hg' β0 S0 w0 β S' w tmps hb0 hn (x0.trans x1) r1 fun t'=>?_
 simp only [look]
 cases hb:Nat.beq t t' with
 | true =>
  have:=Nat.eq_of_beq_eq_true hb
  subst this
  exact .d _ _ d1
 | false=>exact (rt t').ext x1
theorem zxe {E:Env0} {fn:Func} {h0:Heap} {c c':Cfg} {R:AV->Heap->Prop} (t b n:Nat) (live:List Nat) (m:Nat) (hc:look c.ts t=.own b n) (hm:Nat.ble h0.length m=true)
  (he:cut live m ⟨c.n,c.todo,(t,.os b n 0 n)::c.ts,c.h⟩=c') (hg:Good E fn h0 c' R):Good E fn h0 c R:=by
 have hg':=zdi live m (Nat.le_of_ble_eq_true hm) (he ▸ hg)
 intro β0 S0 w0 β S w tmps hb0 hn x0 r rt
 refine hg' β0 S0 w0 β S w tmps hb0 hn x0 r fun t'=>?_
 simp only [look]
 cases hb:Nat.beq t t' with
 | true =>
  have:=Nat.eq_of_beq_eq_true hb
  subst this
  have ht:=rt t
  rw [hc] at ht
  exact r.own_os ht
 | false=>exact rt t'
theorem zrm {E:Env0} {fn:Func} {h0:Heap} {c c':Cfg} {R:AV->Heap->Prop} (b i:Nat) (x:Bool) (live:List Nat) (m:Nat) {cs:List AV} (hb:c.h[b]?=some (.box cs)) (hi:cs[i]?=some (.bl x)) (hm:Nat.ble h0.length m=true)
  (he:cut live m ⟨c.n,c.todo,c.ts,c.h.set b (.box (cs.set i (.v (.bool x))))⟩=c') (hg:Good E fn h0 c' R):Good E fn h0 c R:=by
 have hg':=zdi live m (Nat.le_of_ble_eq_true hm) (he ▸ hg)
 intro β0 S0 w0 β S w tmps hb0 hn x0 r rt
 have x2:=zfa (β:=β) (S:=S) (w:=w) hb (cs.set i (.v (.bool x)))
 have r2:=r.setBox hb (cs.set i (.v (.bool x))) (fun g' vs' t' e2 e3 e4 e5=>by
  refine ⟨by simpa using e4,fun j x' y hx hy=>?_⟩
  by_cases hij:i=j
  ·subst hij
   rw [List.getElem?_set_self (List.getElem?_eq_some_iff.1 hi).1] at hx
   cases hx
   have:=e5 i (.bl x) y hi hy
   refine ⟨?_,this.2⟩
   rw [this.1.bl_inv]
   exact zcq _
  ·rw [List.getElem?_set_ne hij] at hx
   exact e5 j x' y hx hy)
 exact hg' β0 S0 w0 β S w tmps hb0 hn (x0.trans x2) r2 fun t'=>(rt t').ext x2
theorem zaA {E:Env0} {fn:Func} {h0:Heap} {n:Nat} {todo:List It} {ts ts':TS} {h h':Heap} {R:AV->Heap->Prop} (e1:ts=ts') (e2:h=h') (hg:Good E fn h0 ⟨n,todo,ts',h'⟩ R):Good E fn h0 ⟨n,todo,ts,h⟩ R:=by
 subst e1;subst e2;exact hg
structure St where
 o:List Orc
 p:List Prop
 h:allP p
def orcs:List St->List Orc
 | []=>[]
 | s::r=>s.o++orcs r
def zbl:List St->List Prop
 | []=>[]
 | s::r=>s.p++zbl r
theorem zsi:∀ {a b:List Prop},allP a->allP b->allP (a++b)
 | [],_,_,hb=>hb
 | [_],[],ha,_=>ha
 | [_],_::_,ha,hb=>⟨ha,hb⟩
 | _::q::r,_,ha,hb=>⟨ha.1,zsi (a:=q::r) ha.2 hb⟩
theorem zbb:∀ l:List St,allP (zbl l)
 | []=>trivial
 | s::r=>zsi s.h (zbb r)
def sb {c b:Bool} (h:c=b):St:=⟨[.b b],[c=b],h⟩
def si {e n:Int} (h:e=n):St:=⟨[.i n],[e=n],h⟩
def se {xs:List (List AV)} {i:Int} {c:List AV} {n:Nat} (h:ElAt xs i c n):St:=⟨[.el c],[ElAt xs i c n],h⟩
def sa {cs:List AV} {i:Int} {n:Nat} {c:List AV} {k:Nat} (h:ArrAt cs i n c k):St:=⟨[.el c],[ArrAt cs i n c k],h⟩
def sy {s:ByteArray} {i n:Int} (h:ByteAt s i n):St:=⟨[.i n],[ByteAt s i n],h⟩
def sc {E:Env0} {f:FuncId} {args:List AV} {r:AV} {h':Heap} (h:zab E f args [] r h'):St:=⟨[.call [] r h'],[zab E f args [] r h'],h⟩
def sl {E:Env0} {f:FuncId} {args:List AV} {hl:Heap} {r:AV} {h':Heap} (lend:List Nat) (h:zab E f args hl r h'):St:=⟨[.call lend r h'],[zab E f args hl r h'],h⟩
def sln {E:Env0} {f:FuncId} {args:List AV} {hl:Heap} {r:AV} {h':Heap} (lend:List Nat) (h:zab E f args hl r h'):St:=⟨[.calln lend r h'],[zab E f args hl r h'],h⟩
def sk {E:Env0} {f:FuncId} {args:List AV} {hl:Heap} {r:AV} {h':Heap} {p:Prop} (hp:p) (lend:List Nat) (h:zab E f args hl r h'):St:=⟨[.call lend r h'],[p/\zab E f args hl r h'],⟨hp,h⟩⟩
theorem conv {E:Env0} {f:FuncId} {args args':List AV} {hl hl':Heap} {r:AV} {h':Heap} (h:zab E f args' hl' r h') (e1:args=args') (e2:hl=hl'):zab E f args hl r h':=by
 subst e1;subst e2;exact h
def sq {p:Prop} (h:p):St:=⟨[],[p],h⟩
def sx (o:Orc) {p:Prop} (h:p):St:=⟨[o],[p],h⟩
def sg {c b:Bool} (h:c=b):St:=⟨[.b b],[c=b/\True],⟨h,trivial⟩⟩
def so {c b:Bool} (h:c=b) (s:St):St:=⟨.b b::s.o,[c=b/\allP s.p],⟨h,s.h⟩⟩
def zw2:List (Nat × List St)->List (Nat × List Orc)
 | []=>[]
 | (i,l)::r=>(i,orcs l)::zw2 r
def zrL:List (Nat × List St)->List St
 | []=>[]
 | (_,l)::r=>l++zrL r
def sd (l:List (Nat × List St)):St:=⟨[.draw (zw2 l)],[allP (zbl (zrL l))],zbb _⟩
def zx0 (p:Prop) (ts:TS) (h:Heap):Nat->Prop
 | 0=>True
 | n+1=>(p/\ts=ts/\h=h)/\zx0 p ts h n
theorem ztW {p:Prop} (hp:p) (ts:TS) (h:Heap):∀ n,zx0 p ts h n
 | 0=>trivial
 | n+1=>⟨⟨hp,rfl,rfl⟩,ztW hp ts h n⟩
def sdm (l:List (Nat × List St)) (n:Nat) (ts:TS) (h:Heap):St:=⟨[.draw (zw2 l)],[allP (zbl (zrL l))/\zx0 (allP (zbl (zrL l))) ts h (n+1)],⟨zbb _,ztW (zbb _) ts h _⟩⟩
theorem walk {E : Env0} (ht : zaC E) (hmix : E.P.follows .mixedOrders = true) {f : FuncId} {fn : Func} {c : Code} {args : List AV} {r y : AV} (hf : E.P.funcs[f]? = some fn) (hb : fn.body = some c) (hname : (fn.name == "runtime.NumGoroutine") = false)
  (hn:Nat.ble args.length fn.ntmps=true) (n:Nat) (l:List St) (hfin:fin (mk E) fn 0 n ⟨fn.ntmps,[.code c],zb1 0 args,[]⟩ (orcs l)=some (zbl l,y,[])) (hr:y=r):zab E f args [] r [] :=
 zg1 ht hmix hf hb hname hn n (orcs l) hfin (zbb l) ⟨hr,rfl⟩
theorem walkH {E : Env0} (ht : zaC E) (hmix : E.P.follows .mixedOrders = true) {f : FuncId} {fn : Func} {c : Code} {args : List AV} {h : Heap} {r y : AV} {H H' : Heap} (hf : E.P.funcs[f]? = some fn) (hb : fn.body = some c) (hname : (fn.name == "runtime.NumGoroutine") = false)
  (hn:Nat.ble args.length fn.ntmps=true) (n:Nat) (l:List St) (hfin:fin (mk E) fn h.length n ⟨fn.ntmps,[.code c],zb1 0 args,h⟩ (orcs l)=some (zbl l,y,H)) (hr:y=r/\H=H'):zab E f args h r H' :=
 zg1 ht hmix hf hb hname hn n (orcs l) hfin (zbb l) hr
def upto (E:Env) (live:List Nat) (m n:Nat) (c:Cfg) (os:List Orc):List Prop × Cfg:=match run E n c os with
 | (q,c',_)=>(q,cut live m c')
theorem zc9 {E:Env0} (ht:zaC E) (hmix:E.P.follows .mixedOrders=true) {fn:Func} {R:AV->Heap->Prop} {h0:Heap} {c c':Cfg} (n:Nat) (l:List St) (live:List Nat) (m:Nat) (hm:Nat.ble h0.length m=true)
  (hu:upto (mk E) live m n c (orcs l)=(zbl l,c')) (hg:Good E fn h0 c' R):Good E fn h0 c R:=by
 unfold upto at hu
 have h1:(run (mk E) n c (orcs l)).1=zbl l:=by
  have:=congrArg Prod.fst hu
  exact this
 have h2:cut live m (run (mk E) n c (orcs l)).2.1=c':=congrArg Prod.snd hu
 exact zmL ht hmix n (orcs l) live m hm h1 h2 (zbb l) hg
theorem zeJ {E:Env0} (ht:zaC E) (hmix:E.P.follows .mixedOrders=true) {fn:Func} {R:AV->Heap->Prop} {h0:Heap} {c:Cfg} {y:AV} {H:Heap} {m:Nat} (n:Nat) (l:List St)
  (hfin:fin (mk E) fn m n c (orcs l)=some (zbl l,y,H)) (hR:R y H):Good E fn h0 c (Shut m R) :=
 zkq ht hmix n (orcs l) hfin (zbb l) hR
theorem zdY {E:Env0} (ht:zaC E) (hmix:E.P.follows .mixedOrders=true) {fn:Func} {R:AV->Heap->Prop} {h0:Heap} {c:Cfg} {y:AV} {H:Heap} (n:Nat) (l:List St)
  (hfin:finK (mk E) fn n c (orcs l)=some (zbl l,y,H)) (hR:R y H):Good E fn h0 c R :=
 zqA ht hmix n (orcs l) hfin (zbb l) hR
theorem zyT {E:Env0} (ht:zaC E) (hmix:E.P.follows .mixedOrders=true) {f:FuncId} {fn:Func} {c:Code} {args:List AV} {h:Heap} {R:AV->Heap->Prop} (hf:E.P.funcs[f]?=some fn) (hb:fn.body=some c)
  (hname : (fn.name == "runtime.NumGoroutine") = false) (hn : Nat.ble args.length fn.ntmps = true) (n : Nat) (l : List St) (live : List Nat) (m : Nat) {c' : Cfg} (hm : Nat.ble h.length m = true)
  (hu:upto (mk E) live m n ⟨fn.ntmps,[.code c],zb1 0 args,h⟩ (orcs l)=(zbl l,c')) (hg:Good E fn h c' R):zbG E f args h R :=
 za6 hf hb hname (Nat.le_of_ble_eq_true hn) (zc9 ht hmix n l live m hm hu hg)
theorem zfX {E:Env0} (ht:zaC E) (hmix:E.P.follows .mixedOrders=true) {f:FuncId} {fn:Func} {c:Code} {args:List AV} {h:Heap} {R:AV->Heap->Prop} (hf:E.P.funcs[f]?=some fn) (hb:fn.body=some c)
  (hname : (fn.name == "runtime.NumGoroutine") = false) (hn : Nat.ble args.length fn.ntmps = true) (n : Nat) (l : List St) (live : List Nat) (m : Nat) {c' : Cfg} (hm : Nat.ble h.length m = true)
  (hu:upto (mk E) live m n ⟨fn.ntmps,[.code c],zb1 0 args,h⟩ (orcs l)=(zbl l,c')) (hg:Good E fn h c' (Shut h.length R)):zbG E f args h R :=
 zeh (za6 hf hb hname (Nat.le_of_ble_eq_true hn) (zc9 ht hmix n l live m hm hu hg))
end Go.AM
namespace Go.AM
open Go.RowKit
theorem zvO {x:Value} {k:IntKind} (h:shp x=.int k):∃ a,x=.int k a:=by
 cases x <;> simp [shp] at h
 rename_i k' n;subst h;exact ⟨n,rfl⟩
def zm5 (t:TI):Shp->Bool
 | .int _=>match t.kind with|.int _=>Nat.beq t.size 1&&!t.isAgg|_=>false
 | .str=>match t.kind with|.str=>Nat.beq t.size 1&&!t.isAgg|_=>false
 | .bool=>match t.kind with|.bool=>Nat.beq t.size 1&&!t.isAgg|_=>false
 | .other=>false
def flat (T:TypeId->TI):Nat->List Field->List Shp->Bool
 | _,[],[]=>true
 | i, f :: fs, s :: ss => (f.name != "_") && Nat.beq f.offset i && zm5 (T f.type) s && flat T (i + 1) fs ss
 | _,_,_=>false
theorem eqCell {E:Env0} (ht:zaC E) {t:TypeId} {x y:Value} {r:Bool} (d:Nat) (hs:zm5 (E.T t) (shp x)=true) (he:zdg x y=some r) (w:World):(Op.equalIn (d+1) t x y).run E.P w=.ok r w:=by
 cases x <;> simp [shp,zm5] at hs
 case bool a =>
  split at hs
  ·rename_i hk
   obtain ⟨i,dd,z,tok⟩:=ht.at_ (t:=t) (by intro h;rw [h] at hk;cases hk)
   cases y <;> simp [zdg] at he
   subst he
   have:=tok.bool_ hk
   subst this
   exact run_equalIn_bool' w d t _ _ tok.und
  ·cases hs
 case int k a =>
  split at hs
  ·rename_i k' hk
   obtain ⟨i,dd,z,tok⟩:=ht.at_ (t:=t) (by intro h;rw [h] at hk;cases hk)
   cases y <;> simp [zdg] at he
   obtain ⟨rfl,rfl⟩:=he
   have:=tok.int_ hk
   subst this
   exact run_equalIn_int w d t _ _ _ _ tok.und
  ·cases hs
 case string a =>
  split at hs
  ·rename_i hk
   obtain ⟨i,dd,z,tok⟩:=ht.at_ (t:=t) (by intro h;rw [h] at hk;cases hk)
   cases y <;> simp [zdg] at he
   subst he
   have:=tok.str_ hk
   subst this
   rw [run_equalIn_string w d t _ _ tok.und,beq_toListBytes]
  ·cases hs
theorem zpD {t:TI} {s:Shp} (h:zm5 t s=true):t.size=1/\t.isAgg=false/\t≠⟨.scalar,0,0,[]⟩:=by
 unfold zm5 at h
 split at h <;> try cases h
 all_goals
  split at h
  ·rename_i hk
   simp only [Bool.and_eq_true,Bool.not_eq_true'] at h
   exact ⟨Nat.eq_of_beq_eq_true h.1,h.2,by intro h';rw [h'] at hk;cases hk⟩
  ·cases h
theorem znk {E:Env0} (ht:zaC E) (d:Nat) (w:World):∀ (fs:List Field) (px py xs ys:List Value) (r:Bool),px.length=py.length->flat E.T px.length fs (xs.map shp)=true->za9 xs ys=some r ->
  (Op.eqFields (d+1) (px++xs).toArray (py++ys).toArray fs).run E.P w=.ok r w
 | [],px,py,xs,ys,r,hp,hf,he=>by
  cases xs with
  | cons x xs=>simp [flat] at hf
  | nil =>
   cases ys <;> simp [za9] at he
   subst he
   rfl
 | f::fs,px,py,[],ys,r,hp,hf,he=>by simp [flat] at hf
 | f::fs,px,py,x::xs,[],r,hp,hf,he=>by simp [za9] at he
 | f::fs,px,py,x::xs,y::ys,r,hp,hf,he=>by
  simp only [List.map_cons,flat,Bool.and_eq_true,bne_iff_ne] at hf
  obtain ⟨⟨⟨hn,ho⟩,hs⟩,hrest⟩:=hf
  have ho:=Nat.eq_of_beq_eq_true ho
  simp only [za9] at he
  split at he
  ·rename_i a b h1 h2
   simp only [Option.some.injEq] at he
   subst he
   obtain ⟨hsz,hagg,hne⟩:=zpD hs
   obtain ⟨i,dd,z,tok⟩:=ht.at_ hne
   have p1:=zh5 tok w (px++x::xs) f.offset (by rw [hsz,ho];simp)
   have p2:=zh5 tok w (py++y::ys) f.offset (by rw [hsz,ho,hp];simp)
   rw [hsz,ho] at p1
   rw [hsz,ho,hp] at p2
   simp only [List.drop_left,List.take_succ_cons,List.take_zero,zfi,hagg] at p1 p2
   have p3:=eqCell ht d hs h1 w
   have ih:=znk ht d w fs (px++[x]) (py++[y]) xs ys b (by simp [hp]) (by simpa using hrest) h2
   simp only [List.append_assoc,List.singleton_append] at ih
   simp only [Op.eqFields,ne_eq,hn,not_false_eq_true,if_true,Sem.run_bind,ho]
   rw [p1,Result.andThen_ok,hp,p2,Result.andThen_ok]
   simp only [List.headD_cons]
   rw [p3,Result.andThen_ok]
   cases a
   ·rfl
   ·simpa using ih
  ·cases he
theorem zzu {E:Env0} (ht:zaC E) {t:TypeId} {fs:Array Field} {ss:List Shp} (hu:E.P.underlying t=some (.struct fs)) (hp:E.P.stoodInHeld t=false) (hg:E.P.eqGuardType E.P.depth t=false) (hf:flat E.T 0 fs.toList ss=true) :
  StructEq E.P t ss:=by
 refine ⟨hg,fun w xs ys r hs he=>?_⟩
 have hfo:E.P.fieldsOf t=fs:=by simp [Program.fieldsOf,hu]
 have h1:=run_equalIn_struct (P:=E.P) w 9999 t xs.toArray ys.toArray (by rw [hfo];exact hu) hp
 rw [hfo] at h1
 have h2:=znk ht 9998 w fs.toList [] [] xs ys r rfl (by rw [hs];exact hf) he
 simp only [List.nil_append] at h2
 unfold Op.equal Op.maxDepth
 rw [h1]
 exact h2
end Go.AM
namespace Go.AM
abbrev Str:=ByteArray
def zfk (l:List UInt8):Str:=⟨l.toArray⟩
abbrev iv (n:Int):AV:=.v (.int .i64 n)
abbrev bv (b:Bool):AV:=.v (.bool b)
abbrev sv (s:Str):AV:=.v (.string s)
def zeq:List Str:=[zfk [],zfk [97],zfk [98],zfk [105,116,39,115],zfk [90,32,122],zfk [126]]
def globs (g:Nat):Option (List AV) :=
 match Nat.beq g S.DM with
 | true=>some (zeq.map sv)
 | false=>none
noncomputable def E0:Env0:=⟨Proofs.Tryz.prog,zkU tabA,globs⟩
theorem E0ok:zaC E0:=zAO zB8
theorem mix0:E0.P.follows .mixedOrders=true:=mix_ok
structure V where
 kind:Int
 int:Int
 text:Str
def V.cells (v:V):List AV:=[iv v.kind,iv v.int,sv v.text]
abbrev V.av (v:V):AV:=.agg v.cells
def V.null:V:=⟨0,0,⟨#[]⟩⟩
mutual
inductive X where
 | mk (kind op:Int) (not:Bool) (val:V) (table name:Str) (args:List X) (sub:List Qy)
inductive Qy where
 | mk (star:Bool) (items:List X) (frm:Str) (wh:List X)
end
def X.kind:X->Int|.mk k _ _ _ _ _ _ _=>k
def X.op:X->Int|.mk _ o _ _ _ _ _ _=>o
def X.not:X->Bool|.mk _ _ n _ _ _ _ _=>n
def X.val:X->V|.mk _ _ _ v _ _ _ _=>v
def X.table:X->Str|.mk _ _ _ _ t _ _ _=>t
def X.name:X->Str|.mk _ _ _ _ _ m _ _=>m
def X.args:X->List X|.mk _ _ _ _ _ _ xs _=>xs
def X.sub:X->List Qy|.mk _ _ _ _ _ _ _ qs=>qs
def Qy.star:Qy->Bool|.mk s _ _ _=>s
def Qy.items:Qy->List X|.mk _ i _ _=>i
def Qy.frm:Qy->Str|.mk _ _ f _=>f
def Qy.wh:Qy->List X|.mk _ _ _ w=>w
@[simp] theorem X.kind_mk (k o:Int) (n:Bool) (v:V) (t m:Str) (xs:List X) (qs:List Qy):(X.mk k o n v t m xs qs).kind=k:=rfl
@[simp] theorem X.op_mk (k o:Int) (n:Bool) (v:V) (t m:Str) (xs:List X) (qs:List Qy):(X.mk k o n v t m xs qs).op=o:=rfl
@[simp] theorem X.not_mk (k o:Int) (n:Bool) (v:V) (t m:Str) (xs:List X) (qs:List Qy):(X.mk k o n v t m xs qs).not=n:=rfl
@[simp] theorem X.val_mk (k o:Int) (n:Bool) (v:V) (t m:Str) (xs:List X) (qs:List Qy):(X.mk k o n v t m xs qs).val=v:=rfl
@[simp] theorem X.table_mk (k o:Int) (n:Bool) (v:V) (t m:Str) (xs:List X) (qs:List Qy):(X.mk k o n v t m xs qs).table=t:=rfl
@[simp] theorem X.name_mk (k o:Int) (n:Bool) (v:V) (t m:Str) (xs:List X) (qs:List Qy):(X.mk k o n v t m xs qs).name=m:=rfl
@[simp] theorem X.args_mk (k o:Int) (n:Bool) (v:V) (t m:Str) (xs:List X) (qs:List Qy):(X.mk k o n v t m xs qs).args=xs:=rfl
@[simp] theorem X.sub_mk (k o:Int) (n:Bool) (v:V) (t m:Str) (xs:List X) (qs:List Qy):(X.mk k o n v t m xs qs).sub=qs:=rfl
@[simp] theorem Qy.star_mk (s:Bool) (i:List X) (f:Str) (w:List X):(Qy.mk s i f w).star=s:=rfl
@[simp] theorem Qy.items_mk (s:Bool) (i:List X) (f:Str) (w:List X):(Qy.mk s i f w).items=i:=rfl
@[simp] theorem Qy.frm_mk (s:Bool) (i:List X) (f:Str) (w:List X):(Qy.mk s i f w).frm=f:=rfl
@[simp] theorem Qy.wh_mk (s:Bool) (i:List X) (f:Str) (w:List X):(Qy.mk s i f w).wh=w:=rfl
mutual
def X.raw:X->List AV
 | .mk k o n v t m xs qs=>[iv k,iv o,bv n,iv v.kind,iv v.int,sv v.text,sv t,sv m,.sl (zad xs),.sl (zah qs)]
def Qy.raw:Qy->List AV
 | .mk s is f w=>[bv s,.sl (zad is),sv f,.sl (zad w)]
def zad:List X->List (List AV)
 | []=>[]
 | x::r=>X.raw x::zad r
def zah:List Qy->List (List AV)
 | []=>[]
 | x::r=>Qy.raw x::zah r
end
def X.cells (x:X):List AV:=[iv x.kind,iv x.op,bv x.not,iv x.val.kind,iv x.val.int,sv x.val.text,sv x.table,sv x.name,.sl (zad x.args),.sl (zah x.sub)]
def Qy.cells (x:Qy):List AV:=[bv x.star,.sl (zad x.items),sv x.frm,.sl (zad x.wh)]
theorem X.raw_eq (x:X):x.raw=x.cells:=by cases x;simp [X.raw,X.cells,X.kind,X.op,X.not,X.val,X.table,X.name,X.args,X.sub]
theorem Qy.raw_eq (x:Qy):x.raw=x.cells:=by cases x;simp [Qy.raw,Qy.cells,Qy.star,Qy.items,Qy.frm,Qy.wh]
theorem zbh:∀ l:List X,zad l=l.map X.cells
 | []=>by simp [zad]
 | x::r=>by simp [zad,zbh r,X.raw_eq]
theorem zd4:∀ l:List Qy,zah l=l.map Qy.cells
 | []=>by simp [zah]
 | x::r=>by simp [zah,zd4 r,Qy.raw_eq]
@[simp] theorem ze8:zad []=[]:=zbh []
@[simp] theorem zei (x:X) (r:List X):zad (x::r)=x.cells::zad r:=by simp [zbh]
@[simp] theorem zwX (a b:List X):zad (a++b)=zad a++zad b:=by simp [zbh]
@[simp] theorem zbK (a:List X):(zad a).length=a.length:=by simp [zbh]
@[simp] theorem zg4:zah []=[]:=zd4 []
@[simp] theorem zgf (x:Qy) (r:List Qy):zah (x::r)=x.cells::zah r:=by simp [zd4]
@[simp] theorem zev (a:List Qy):(zah a).length=a.length:=by simp [zd4]
@[simp] theorem X.cells_length (x:X):x.cells.length=10:=rfl
@[simp] theorem Qy.cells_length (x:Qy):x.cells.length=4:=rfl
abbrev X.av (x:X):AV:=.agg x.cells
abbrev Qy.av (x:Qy):AV:=.agg x.cells
structure Col where
 name:Str
 type:Int
 notNull:Bool
 key:Bool
def Col.cells (c:Col):List AV:=[sv c.name,iv c.type,bv c.notNull,bv c.key]
abbrev ZC (l:List Col):AV:=.sl (l.map Col.cells)
structure Sch where
 name:Str
 cols:List Col
def Sch.cells (s:Sch):List AV:=[sv s.name,.sl (s.cols.map Col.cells)]
abbrev ZS (l:List Sch):AV:=.sl (l.map Sch.cells)
abbrev Sch.av (s:Sch):AV:=.agg s.cells
structure Rw where
 id:Int
 vals:List V
def Rw.cells (r:Rw):List AV:=[iv r.id,.sl (r.vals.map V.cells)]
abbrev ZW (l:List Rw):AV:=.sl (l.map Rw.cells)
structure Tb where
 sch:Sch
 next:Int
 rows:List Rw
def Tb.cells (t:Tb):List AV:=[sv t.sch.name,.sl (t.sch.cols.map Col.cells),iv t.next,.sl (t.rows.map Rw.cells)]
abbrev Tb.av (t:Tb):AV:=.agg t.cells
structure Fr where
 name:Str
 strict:Bool
 cols:List Col
 vals:List V
def Fr.cells (f:Fr):List AV:=[sv f.name,bv f.strict,.sl (f.cols.map Col.cells),.sl (f.vals.map V.cells)]
abbrev vsl (l:List V):AV:=.sl (l.map V.cells)
abbrev fsl (l:List Fr):AV:=.sl (l.map Fr.cells)
abbrev tsl (l:List Tb):AV:=.sl (l.map Tb.cells)
abbrev xsl (l:List X):AV:=.sl (zad l)
abbrev Pure (f:FuncId) (args:List AV) (r:AV):Prop:=zab E0 f args [] r []
theorem zcf {f : FuncId} {fn : Func} {c : Code} {args : List AV} {r : AV} (hf : E0.P.funcs[f]? = some fn) (hb : fn.body = some c) (hname : (fn.name == "runtime.NumGoroutine") = false) (hn : Nat.ble args.length fn.ntmps = true)
  (n:Nat) (os:List Orc) {q:List Prop} (hfin:fin (mk E0) fn 0 n ⟨fn.ntmps,[.code c],zb1 0 args,[]⟩ os=some (q,r,[])) (hq:allP q):Pure f args r :=
 zg1 E0ok mix0 hf hb hname hn n os hfin hq ⟨rfl,rfl⟩
@[simp] theorem V.cells_length (x:V):x.cells.length=3:=rfl
@[simp] theorem Col.cells_length (x:Col):x.cells.length=4:=rfl
@[simp] theorem Sch.cells_length (x:Sch):x.cells.length=2:=rfl
@[simp] theorem Rw.cells_length (x:Rw):x.cells.length=2:=rfl
@[simp] theorem Tb.cells_length (x:Tb):x.cells.length=4:=rfl
@[simp] theorem Fr.cells_length (x:Fr):x.cells.length=4:=rfl
theorem zbt {l:List X} {i:Nat} {x:X} (h:l[i]?=some x):ElAt (zad l) (i:Int) x.cells 10 :=
 ⟨by omega,by simp [zbh,h],rfl⟩
theorem zaB {l:List Qy} {i:Nat} {x:Qy} (h:l[i]?=some x):ElAt (zah l) (i:Int) x.cells 4 :=
 ⟨by omega,by simp [zd4,h],rfl⟩
theorem zae {α:Type} (f:α->List AV) {l:List α} {i:Nat} {x:α} (h:l[i]?=some x) {n:Nat} (hn:(f x).length=n):ElAt (l.map f) (i:Int) (f x) n :=
 ⟨by omega,by simp [h],hn⟩
theorem zBS {l:List X} {n i:Nat} {x:X} (hn:n=l.length) (h:l[i]?=some x):OwnEl (zad l) n i x.cells :=
 ⟨by simp [hn],by simp [zbh,h]⟩
theorem zdQ {α:Type} (f:α->List AV) {l:List α} {n i:Nat} {x:α} (hn:n=l.length) (h:l[i]?=some x):OwnEl (l.map f) n i (f x) :=
 ⟨by simp [hn],by simp [h]⟩
theorem zaL (i:Nat) (h:i < 9223372036854775807):IntKind.i64.wrap ((i:Int)+1)=((i+1:Nat):Int):=by
 rw [IntKind.wrap_i64];omega
theorem zbB {t:Int} {n:Nat} (h1:t=(n:Int)) (h2:n<=9223372036854775807):IntKind.i64.wrap t=(n:Int):=by
 rw [h1,IntKind.wrap_i64];omega
def pm1:Nat->Int
 | 0=>-1
 | k+1=>(k:Int)
theorem pm1_eq (k:Nat):pm1 k=(k:Int) - 1:=by cases k <;> simp [pm1]
theorem zn4 (k:Nat) (h:k < 9223372036854775806):IntKind.i64.wrap ((k:Int) - 1)=pm1 k:=by
 rw [pm1_eq,IntKind.wrap_i64];omega
theorem zam {α:Type} {l:List α} {i:Nat} {x:α} (h:l[i]?=some x):l.drop i=x::l.drop (i+1):=by
 obtain ⟨h1,h2⟩:=List.getElem?_eq_some_iff.mp h
 rw [List.drop_eq_getElem_cons h1,h2]
theorem zbu {α:Type} {l:List α} {i:Nat} {x:α} (h:l[i]?=some x):i < l.length:=(List.getElem?_eq_some_iff.mp h).1
theorem za4 {α:Type} {l:List α} {i:Nat} (h:i < l.length):∃ x,l[i]?=some x:=⟨l[i],by simp [h]⟩
structure Tp where
 l:List Int
 pos:Nat
 ok:l.length<=500
def Tp.cells (t:Tp):List AV:=[.sl (t.l.map fun n=>[iv n]),iv t.pos]
structure Pl where
 frs:List Fr
 tbs:List Sch
def Pl.cells (p:Pl):List AV:=[.sl (p.frs.map Fr.cells),.sl (p.tbs.map Sch.cells)]
abbrev Pl.av (p:Pl):AV:=.agg p.cells
abbrev ssl (l:List Str):AV:=.sl (l.map fun s=>[sv s])
structure Se where
 col:Str
 ex:X
def Se.cells (s:Se):List AV:=sv s.col::s.ex.cells
abbrev ZE (l:List Se):AV:=.sl (l.map Se.cells)
structure Ac where
 kind:Int
 table:Str
 rows:List (List X)
 query:List Qy
 sets:List Se
 wh:List X
 text:Str
def Ac.cells (a:Ac):List AV:=[iv a.kind,sv a.table,.sl (a.rows.map fun r=>[.sl (zad r)]),.sl (zah a.query),.sl (a.sets.map Se.cells),.sl (zad a.wh),sv a.text]
abbrev ZA (l:List Ac):AV:=.sl (l.map Ac.cells)
abbrev Ac.av (a:Ac):AV:=.agg a.cells
structure Rk where
 table:Str
 col:Str
 low:Int
 high:Int
def Rk.cells (r:Rk):List AV:=[sv r.table,sv r.col,iv r.low,iv r.high]
abbrev ZR (l:List Rk):AV:=.sl (l.map Rk.cells)
structure Tg where
 name:Str
 table:Str
 before:Bool
 event:Int
 of:List Str
 each:Bool
 prec:List Str
 foll:List Str
 rank:List Rk
 when_:List X
 acts:List Ac
def Tg.cells (t:Tg):List AV:=[sv t.name,sv t.table,bv t.before,iv t.event,ssl t.of,bv t.each,ssl t.prec,ssl t.foll,.sl (t.rank.map Rk.cells),.sl (zad t.when_),.sl (t.acts.map Ac.cells)]
abbrev ZG (l:List Tg):AV:=.sl (l.map Tg.cells)
abbrev Tg.av (t:Tg):AV:=.agg t.cells
@[simp] theorem Se.cells_length (x:Se):x.cells.length=11:=rfl
@[simp] theorem Ac.cells_length (x:Ac):x.cells.length=7:=rfl
@[simp] theorem Rk.cells_length (x:Rk):x.cells.length=4:=rfl
@[simp] theorem Tg.cells_length (x:Tg):x.cells.length=11:=rfl
theorem za3:StructEq E0.P Ty.Value [.int .i64,.int .i64,.str] :=
 zzu E0ok (fs:=E0.P.fieldsOf Ty.Value) kr kr kr kr
noncomputable def runF (fn:Func) (args:List AV) (h:Heap) (os:List Orc):Option (List Prop × AV × Heap) :=
 match fn.body, (fn.name == "runtime.NumGoroutine"), Nat.ble args.length fn.ntmps with
 | some c,false,true=>fin (mk E0) fn h.length 3000 ⟨fn.ntmps,[.code c],zb1 0 args,h⟩ os
 | _,_,_=>none
noncomputable def zkW (fn:Func) (args:List AV) (h:Heap) (live:List Nat) (m:Nat) (os:List Orc):Option (List Prop × Cfg) :=
 match fn.body, (fn.name == "runtime.NumGoroutine"), Nat.ble args.length fn.ntmps, Nat.ble h.length m with
 | some c,false,true,true=>some (upto (mk E0) live m 3000 ⟨fn.ntmps,[.code c],zb1 0 args,h⟩ os)
 | _,_,_,_=>none
noncomputable def zkV (h0:Heap) (live:List Nat) (m:Nat) (c:Cfg) (os:List Orc):Option (List Prop × Cfg) :=
 match Nat.ble h0.length m with
 | true=>some (upto (mk E0) live m 3000 c os)
 | false=>none
theorem wk {f:FuncId} {fn:Func} {args:List AV} {h H:Heap} {r:AV} (hf:E0.P.funcs[f]?=some fn) (l:List St) (hfin:runF fn args h (orcs l)=some (zbl l,r,H)):zab E0 f args h r H:=by
 unfold runF at hfin
 split at hfin
 ·rename_i c hb hn ha
  exact zg1 E0ok mix0 hf hb hn ha 3000 (orcs l) hfin (zbb l) ⟨rfl,rfl⟩
 ·cases hfin
theorem wkc {f:FuncId} {fn:Func} {args:List AV} {h:Heap} {R:AV->Heap->Prop} {c':Cfg} (hf:E0.P.funcs[f]?=some fn) (l:List St) (live:List Nat) (m:Nat) (hu:zkW fn args h live m (orcs l)=some (zbl l,c'))
  (hg:Good E0 fn h c' (Shut h.length R)):zbG E0 f args h R:=by
 unfold zkW at hu
 split at hu
 ·rename_i c hb hn ha hm
  exact zfX E0ok mix0 hf hb hn ha 3000 l live m hm (Option.some.inj hu) hg
 ·cases hu
theorem wkl {fn:Func} {R:AV->Heap->Prop} {h0:Heap} {c c':Cfg} (l:List St) (live:List Nat) (m:Nat) (hu:zkV h0 live m c (orcs l)=some (zbl l,c')) (hg:Good E0 fn h0 c' R):Good E0 fn h0 c R:=by
 unfold zkV at hu
 split at hu
 ·rename_i hm
  exact zc9 E0ok mix0 3000 l live m hm (Option.some.inj hu) hg
 ·cases hu
theorem wkr {fn:Func} {h0:Heap} {c:Cfg} {r:AV} {H:Heap} {m:Nat} (l:List St) (hfin:fin (mk E0) fn m 3000 c (orcs l)=some (zbl l,r,H)):Good E0 fn h0 c (Shut m fun y h=>y=r/\h=H) :=
 zeJ E0ok mix0 3000 l hfin ⟨rfl,rfl⟩
noncomputable def runFK (fn:Func) (args:List AV) (h:Heap) (os:List Orc):Option (List Prop × AV × Heap) :=
 match fn.body, (fn.name == "runtime.NumGoroutine"), Nat.ble args.length fn.ntmps with
 | some c,false,true=>finK (mk E0) fn 3000 ⟨fn.ntmps,[.code c],zb1 0 args,h⟩ os
 | _,_,_=>none
theorem wkK {f:FuncId} {fn:Func} {args:List AV} {h H:Heap} {r:AV} (hf:E0.P.funcs[f]?=some fn) (l:List St) (hfin:runFK fn args h (orcs l)=some (zbl l,r,H)):zab E0 f args h r H:=by
 unfold runFK at hfin
 split at hfin
 ·rename_i c hb hn ha
  exact zud E0ok mix0 hf hb hn ha 3000 (orcs l) hfin (zbb l) ⟨rfl,rfl⟩
 ·cases hfin
theorem wkS {f:FuncId} {fn:Func} {args:List AV} {h H H':Heap} {r y:AV} (hf:E0.P.funcs[f]?=some fn) (l:List St) (hfin:runF fn args h (orcs l)=some (zbl l,y,H)) (e:y=r/\H=H'):zab E0 f args h r H':=by
 obtain ⟨rfl,rfl⟩:=e
 exact wk hf l hfin
theorem wkrS {fn:Func} {h0:Heap} {c:Cfg} {r y:AV} {H H':Heap} {m:Nat} (l:List St) (hfin:fin (mk E0) fn m 3000 c (orcs l)=some (zbl l,y,H)) (e:y=r/\H=H'):Good E0 fn h0 c (Shut m fun y h=>y=r/\h=H'):=by
 obtain ⟨rfl,rfl⟩:=e
 exact wkr l hfin
theorem owed {p:Prop} (h:p:=by first|assumption|(simp;done)|(simp;omega)|omega|rfl|(refine ⟨⟨?_⟩,?_⟩ <;> first|(simp;done)|(simp;omega)|omega)|(refine ⟨⟨?_⟩,?_,?_⟩ <;> first|(simp;done)|(simp;omega)|omega)|(refine ⟨?_,?_,?_⟩ <;> first|(simp;done)|(simp;omega)|omega)|(refine ⟨?_,⟨?_⟩,?_,?_⟩ <;> first|(simp;done)|(simp;omega)|omega)|(constructor <;> first|(simp;done)|(simp;omega)|omega|(simp at *;omega))):p:=h
def sqx (p:Prop) (h:p:=by first|assumption|(simp;done)|(simp;omega)|omega|rfl|(refine ⟨⟨?_⟩,?_⟩ <;> first|(simp;done)|(simp;omega)|omega)|(refine ⟨⟨?_⟩,?_,?_⟩ <;> first|(simp;done)|(simp;omega)|omega)|(refine ⟨?_,?_,?_⟩ <;> first|(simp;done)|(simp;omega)|omega)|(refine ⟨?_,⟨?_⟩,?_,?_⟩ <;> first|(simp;done)|(simp;omega)|omega)|(constructor <;> first|(simp;done)|(simp;omega)|omega|(simp at *;omega))):St:=sq h
def skx (p:Prop) {E:Env0} {f:FuncId} {args:List AV} {hl:Heap} {r:AV} {h':Heap} (lend:List Nat) (h:zab E f args hl r h') (hp:p:=by first|assumption|(simp;done)|(simp;omega)|omega|rfl|(refine ⟨⟨?_⟩,?_⟩ <;> first|(simp;done)|(simp;omega)|omega)|(refine ⟨⟨?_⟩,?_,?_⟩ <;> first|(simp;done)|(simp;omega)|omega)|(refine ⟨?_,?_,?_⟩ <;> first|(simp;done)|(simp;omega)|omega)|(refine ⟨?_,⟨?_⟩,?_,?_⟩ <;> first|(simp;done)|(simp;omega)|omega)|(constructor <;> first|(simp;done)|(simp;omega)|omega|(simp at *;omega))):St:=sk hp lend h
theorem Zih {σ:Type} {Q:σ->Prop} {D:Prop} {E:Env0} {fn:Func} {h0:Heap} {c:σ->Cfg} {a b:Cfg} (h:∃ s,Q s/\D/\∀ R,Good E fn h0 (c s) R->Good E fn h0 a R) (k:∀ R,Good E fn h0 a R->Good E fn h0 b R):∃ s,Q s/\D/\∀ R,Good E fn h0 (c s) R->Good E fn h0 b R:=by
 obtain ⟨s,q,d,g⟩:=h
 exact ⟨s,q,d,fun R r=>k R (g R r)⟩
theorem zlp {P:Nat->Prop} (n:Nat) (s:∀ i,i < n->P (i+1)->P i) (z:P n:=by first|exact fun a _ hI _=>⟨a,hI,by simp,fun R hg=>hg⟩|exact fun _ hI _=>⟨hI,by simp,fun R hg=>hg⟩|exact fun _ hI _=>.inl ⟨hI,by simp,fun R hg=>hg⟩|exact fun a _ hI _=>.inl ⟨a,hI,by simp,fun R hg=>hg⟩|exact fun a b _ hI _=>⟨a,b,hI,by simp,fun R hg=>hg⟩|exact fun a b _ hI _=>.inl ⟨a,b,hI,by simp,fun R hg=>hg⟩) (g:∀ i,n < i->P i:=by intros;omega):∀ i,P i:=by
 intro i
 by_cases h:n < i
 ·exact g i h
 ·obtain ⟨k,hk⟩:∃ k,i+k=n:=⟨n - i,by omega⟩
  clear h
  induction k generalizing i with
  | zero =>
   have e:i=n:=by omega
   rw [e]
   exact z
  | succ k ih=>exact s i Zo (ih (i+1) Zo)
theorem zlq {α:Type} {l:List α} {i:Nat} (m:Nat) (hi:i < l.length) (hw:i < 9223372036854775807:=by first|omega|(simp only [zac,Few] at *;omega)) (hm:m=l.length:=by simp):∃ x,l[i]?=some x/\decide (((i:Nat):Int) < ((m:Nat):Int))=true/\IntKind.i64.wrap (((i:Nat):Int)+1)=((i+1:Nat):Int):=by
 obtain ⟨x,hx⟩:=za4 hi
 refine ⟨x,hx,?_,zaL i hw⟩
 rw [hm];simp;omega
theorem zie1 {Q D:Prop} {E:Env0} {fn:Func} {h0:Heap} {c a b:Cfg} {α:Type} {F:α->AV->Heap->Prop} (h:(Q/\D/\∀ R,Good E fn h0 c R->Good E fn h0 a R)\/∃ r,Good E fn h0 a (F r)) (k:∀ R,Good E fn h0 a R->Good E fn h0 b R):(Q/\D/\∀ R,Good E fn h0 c R->Good E fn h0 b R)\/∃ r,Good E fn h0 b (F r) :=
 h.elim (fun ⟨q,d,g⟩=>.inl ⟨q,d,fun R r=>k R (g R r)⟩) fun ⟨r,g⟩=>.inr ⟨r,k _ g⟩
theorem zie2 {Q D:Prop} {E:Env0} {fn:Func} {h0:Heap} {c a b:Cfg} {α:Type} {P:α->Prop} {F:α->AV->Heap->Prop} (h:(Q/\D/\∀ R,Good E fn h0 c R->Good E fn h0 a R)\/∃ r,P r/\Good E fn h0 a (F r)) (k:∀ R,Good E fn h0 a R->Good E fn h0 b R):(Q/\D/\∀ R,Good E fn h0 c R->Good E fn h0 b R)\/∃ r,P r/\Good E fn h0 b (F r) :=
 h.elim (fun ⟨q,d,g⟩=>.inl ⟨q,d,fun R r=>k R (g R r)⟩) fun ⟨r,p,g⟩=>.inr ⟨r,p,k _ g⟩
theorem zie3 {Q D:Prop} {E:Env0} {fn:Func} {h0:Heap} {c a b:Cfg} {P:Prop} {F:AV->Heap->Prop} (h:(Q/\D/\∀ R,Good E fn h0 c R->Good E fn h0 a R)\/(P/\Good E fn h0 a F)) (k:∀ R,Good E fn h0 a R->Good E fn h0 b R):(Q/\D/\∀ R,Good E fn h0 c R->Good E fn h0 b R)\/(P/\Good E fn h0 b F) :=
 h.elim (fun ⟨q,d,g⟩=>.inl ⟨q,d,fun R r=>k R (g R r)⟩) fun ⟨p,g⟩=>.inr ⟨p,k _ g⟩
set_option linter.defProp false in
def zsl:=And.intro @X.av.eq_1 (And.intro @Qy.av.eq_1 (And.intro @V.av.eq_1 (And.intro @Tb.av.eq_1 (And.intro @Sch.av.eq_1 (And.intro @Pl.av.eq_1 (And.intro @xsl.eq_1 (And.intro @fsl.eq_1 (And.intro @vsl.eq_1 (And.intro @tsl.eq_1 (And.intro @List.map_append.{0,0} (And.intro @List.map_cons.{0,0} (And.intro @List.map_nil.{0,0} (And.intro @V.cells.eq_1 (And.intro @Col.cells.eq_1 (And.intro @Rw.cells.eq_1 (And.intro @Tb.cells.eq_1 (And.intro @Fr.cells.eq_1 (And.intro @Sch.cells.eq_1 (And.intro @Pl.cells.eq_1 (And.intro @zwX (And.intro @zei (And.intro @ze8 (And.intro @zgf (And.intro @zg4 (And.intro @X.cells.eq_1 (And.intro @Qy.cells.eq_1 (And.intro @X.args_mk (And.intro @X.sub_mk (And.intro @Qy.items_mk @Qy.wh_mk)))))))))))))))))))))))))))))
def sqA (xs ys:List (List AV)) (n k sz:Nat) (h:AllLen ys k/\n=xs.length/\((xs.length+ys.length) * sz).le 140737488355328:=by first|assumption|(refine ⟨⟨?_⟩,?_,?_⟩ <;> first|(simp;done)|(simp;omega)|omega)|(simp;done)|(simp;omega)):St:=sq h
def getS:TS->Nat->AV
 | [],_=>.un
 | (j,x)::r,k=>match Nat.beq j k with|true=>x|false=>getS r k
def setS:TS->Nat->AV->TS
 | [],_,_=>[]
 | (j,x)::r,k,v=>match Nat.beq j k with|true=>(j,v)::r|false=>(j,x)::setS r k v
def getB:Heap->Nat->Blk
 | [],_=>.box []
 | x::_,0=>x
 | _::r,k+1=>getB r k
def setB:Heap->Nat->Blk->Heap
 | [],_,_=>[]
 | _::r,0,y=>y::r
 | x::r,k+1,y=>x::setB r k y
theorem zvM:∀ (ts:TS) (k:Nat),setS ts k (getS ts k)=ts
 | [],_=>rfl
 | (j,x)::r,k=>by
  cases h:Nat.beq j k
  ·simp only [setS,getS,h,zvM r k]
  ·simp only [setS,getS,h]
theorem zqi:∀ (h:Heap) (k:Nat),setB h k (getB h k)=h
 | [],_=>rfl
 | _::_,0=>rfl
 | _::r,k+1=>by simp only [setB,getB,zqi r k]
theorem zaw {E:Env0} {fn:Func} {h0:Heap} {c:Cfg} {R:AV->Heap->Prop} {e:TypeId} {ys:List (List AV)} {sh:Bool} {m:Nat} (k b:Nat) (xs:List (List AV)) (hg:Good E fn h0 c R) (h1:getS c.ts k=.own b m:=by rfl) (h2:getB c.h b=.row e ys sh:=by rfl) (he:xs=ys) (hm:ys.length=m):Good E fn h0 ⟨c.n,c.todo,setS c.ts k (.own b xs.length),setB c.h b (.row e xs sh)⟩ R:=by
 subst he
 rw [hm,← h1,← h2,zvM,zqi]
 exact hg
theorem good_rowB {E:Env0} {fn:Func} {h0:Heap} {c:Cfg} {R:AV->Heap->Prop} {e:TypeId} {ys:List (List AV)} {sh:Bool} (b:Nat) (xs:List (List AV)) (hg:Good E fn h0 c R) (h2:getB c.h b=.row e ys sh:=by rfl) (he:xs=ys):Good E fn h0 ⟨c.n,c.todo,c.ts,setB c.h b (.row e xs sh)⟩ R:=by
 subst he
 rw [← h2,zqi]
 exact hg
def cmpI (a b:Int):Int:=if a < b then -1 else if b < a then 1 else 0
def ltS (a b:Str):Bool:=Op.bytesLess a.toList b.toList
def eqS (a b:Str):Bool:=a.toList==b.toList
def cmpS (a b:Str):Int:=if ltS a b then -1 else if !(ltS a b || eqS a b) then 1 else 0
theorem zct (n:Int):Pure S.BP [iv n] (bv (n != n)) :=
 zcf At.BP rfl kr kr 100 [] (q:=[]) kr trivial
theorem zcd (n:Int):Pure S.Bu [iv n] (bv (n != n)) :=
 zcf At.Bu rfl kr kr 100 [] (q:=[]) kr trivial
theorem zbX (n:Str):Pure S.Bm [sv n] (bv (!(n.toList==n.toList))) :=
 zcf At.Bm rfl kr kr 100 [] (q:=[]) kr trivial
theorem zna (a b:Int):Pure S.CC [iv a,iv b] (iv (cmpI a b)):=by
 unfold cmpI
 by_cases h1:a < b
 ·rw [if_pos h1]
  exact zcf At.CC rfl kr kr 200 [.call [] (bv (a != a)) [],.call [] (bv (b != b)) [],.b false,.b false,.b true]
   (q:=[Pure S.BP [iv a] (bv (a != a)),Pure S.BP [iv b] (bv (b != b)),(a != a)=false,(b != b)=false,decide (a < b)=true]) kr
   ⟨zct a,zct b,by simp,by simp,by simpa [allP] using h1⟩
 ·rw [if_neg h1]
  by_cases h2:b < a
  ·rw [if_pos h2]
   exact zcf At.CC rfl kr kr 200 [.call [] (bv (a != a)) [],.call [] (bv (b != b)) [],.b false,.b false,.b false,.b true]
    (q:=[Pure S.BP [iv a] (bv (a != a)),Pure S.BP [iv b] (bv (b != b)),(a != a)=false,(b != b)=false,decide (a < b)=false,decide (b < a)=true]) kr
    ⟨zct a,zct b,by simp,by simp,by simpa using h1,by simpa [allP] using h2⟩
  ·rw [if_neg h2]
   exact zcf At.CC rfl kr kr 200 [.call [] (bv (a != a)) [],.call [] (bv (b != b)) [],.b false,.b false,.b false,.b false]
    (q:=[Pure S.BP [iv a] (bv (a != a)),Pure S.BP [iv b] (bv (b != b)),(a != a)=false,(b != b)=false,decide (a < b)=false,decide (b < a)=false]) kr
    ⟨zct a,zct b,by simp,by simp,by simpa using h1,by simpa [allP] using h2⟩
theorem zcy (b:Bool):Pure S.Dr [bv b] (V.av ⟨2,if b then 1 else 0,⟨#[]⟩⟩):=by
 cases b
 ·exact zcf At.Dr rfl kr kr 100 [.b false] (q:=[false=false]) kr rfl
 ·exact zcf At.Dr rfl kr kr 100 [.b true] (q:=[true=true]) kr rfl
theorem zaZ (n:Int):Pure S.DC [iv n] (V.av ⟨1,n,⟨#[]⟩⟩) :=
 zcf At.DC rfl kr kr 100 [] (q:=[]) kr trivial
theorem zbD (v:V):Pure S.Dj [v.av] (bv (v.kind==0)) :=
 zcf At.Dj rfl kr kr 100 [] (q:=[]) kr trivial
theorem zla (a b:Int):Pure S.Cp [iv a,iv b] (iv (cmpI a b)):=by
 unfold cmpI
 by_cases h1:a < b
 ·rw [if_pos h1]
  exact zcf At.Cp rfl kr kr 1500 ([.call [] (bv (a != a)) [],.call [] (bv (b != b)) [],.b false,.b false,.b true]) (q:=[zab E0 S.Bu [AV.v (Value.int IntKind.i64 a)] [] (AV.v (Value.bool (a != a))) [],zab E0 S.Bu [AV.v (Value.int IntKind.i64 b)] [] (AV.v (Value.bool (b != b))) [],(a != a)=false,(b != b)=false,decide (a < b)=true]) kr ⟨zcd a,zcd b,by simp,by simp,by simpa [allP] using h1⟩
 ·rw [if_neg h1]
  by_cases h2:b < a
  ·rw [if_pos h2]
   exact zcf At.Cp rfl kr kr 1500 ([.call [] (bv (a != a)) [],.call [] (bv (b != b)) [],.b false,.b false,.b false,.b true]) (q:=[zab E0 S.Bu [AV.v (Value.int IntKind.i64 a)] [] (AV.v (Value.bool (a != a))) [],zab E0 S.Bu [AV.v (Value.int IntKind.i64 b)] [] (AV.v (Value.bool (b != b))) [],(a != a)=false,(b != b)=false,decide (a < b)=false,decide (b < a)=true]) kr ⟨zcd a,zcd b,by simp,by simp,by simpa using h1,by simpa [allP] using h2⟩
  ·rw [if_neg h2]
   exact zcf At.Cp rfl kr kr 1500 ([.call [] (bv (a != a)) [],.call [] (bv (b != b)) [],.b false,.b false,.b false,.b false]) (q:=[zab E0 S.Bu [AV.v (Value.int IntKind.i64 a)] [] (AV.v (Value.bool (a != a))) [],zab E0 S.Bu [AV.v (Value.int IntKind.i64 b)] [] (AV.v (Value.bool (b != b))) [],(a != a)=false,(b != b)=false,decide (a < b)=false,decide (b < a)=false]) kr ⟨zcd a,zcd b,by simp,by simp,by simpa using h1,by simpa [allP] using h2⟩
theorem zkt (a b:Str):Pure S.Cl [sv a,sv b] (iv (cmpS a b)):=by
 unfold cmpS ltS eqS
 cases h1:Op.bytesLess a.toList b.toList
 ·rw [if_neg Zs]
  cases h2:(!(Op.bytesLess a.toList b.toList || a.toList==b.toList))
  ·rw [h1] at h2
   rw [h2,if_neg Zs]
   exact zcf At.Cl rfl kr kr 1500 ([.call [] (bv (!(a.toList==a.toList))) [],.call [] (bv (!(b.toList==b.toList))) [],.b false,.b false,.b false,.b false]) (q:=[zab E0 S.Bm [AV.v (Value.string a)] [] (AV.v (Value.bool !ByteArray.toList a==ByteArray.toList a)) [],zab E0 S.Bm [AV.v (Value.string b)] [] (AV.v (Value.bool !ByteArray.toList b==ByteArray.toList b)) [],(!ByteArray.toList a==ByteArray.toList a)=false,(!ByteArray.toList b==ByteArray.toList b)=false,Op.bytesLess (ByteArray.toList a) (ByteArray.toList b)=false,(!(Op.bytesLess (ByteArray.toList a) (ByteArray.toList b) || ByteArray.toList a==ByteArray.toList b))=false]) kr ⟨zbX a,zbX b,by simp,by simp,h1,by simp only [allP];rw [h1];exact h2⟩
  ·rw [h1] at h2
   rw [h2,if_pos rfl]
   exact zcf At.Cl rfl kr kr 1500 ([.call [] (bv (!(a.toList==a.toList))) [],.call [] (bv (!(b.toList==b.toList))) [],.b false,.b false,.b false,.b true]) (q:=[zab E0 S.Bm [AV.v (Value.string a)] [] (AV.v (Value.bool !ByteArray.toList a==ByteArray.toList a)) [],zab E0 S.Bm [AV.v (Value.string b)] [] (AV.v (Value.bool !ByteArray.toList b==ByteArray.toList b)) [],(!ByteArray.toList a==ByteArray.toList a)=false,(!ByteArray.toList b==ByteArray.toList b)=false,Op.bytesLess (ByteArray.toList a) (ByteArray.toList b)=false,(!(Op.bytesLess (ByteArray.toList a) (ByteArray.toList b) || ByteArray.toList a==ByteArray.toList b))=true]) kr ⟨zbX a,zbX b,by simp,by simp,h1,by simp only [allP];rw [h1];exact h2⟩
 ·rw [if_pos rfl]
  exact zcf At.Cl rfl kr kr 1500 ([.call [] (bv (!(a.toList==a.toList))) [],.call [] (bv (!(b.toList==b.toList))) [],.b false,.b false,.b true]) (q:=[zab E0 S.Bm [AV.v (Value.string a)] [] (AV.v (Value.bool !ByteArray.toList a==ByteArray.toList a)) [],zab E0 S.Bm [AV.v (Value.string b)] [] (AV.v (Value.bool !ByteArray.toList b==ByteArray.toList b)) [],(!ByteArray.toList a==ByteArray.toList a)=false,(!ByteArray.toList b==ByteArray.toList b)=false,Op.bytesLess (ByteArray.toList a) (ByteArray.toList b)=true]) kr ⟨zbX a,zbX b,by simp,by simp,h1⟩
def orI:List Int->Int
 | []=>0
 | x::r=>if x=0 then orI r else x
abbrev isl (l:List Int):AV:=.sl (l.map fun n=>[iv n])
noncomputable def L_Or (l:List Int) (i:Nat):Cfg:=zag B.CY 0 [(3,iv 0),(6,.sl (l.map fun n=>[iv n])),(7,iv ((l.map fun n=>[iv n]).length:Nat)),(8,iv (i:Nat))] []
theorem zy0 (l:List Int) (hl:l.length < 9223372036854775807):∀ (k i:Nat),i+k=l.length->Good E0 B.CY [] (L_Or l i) (Shut 0 fun r h=>r=iv (orI (l.drop i))/\h=[]):=by
 intro k
 induction k with
 | zero =>
  intro i hi
  refine zaa ?_
  refine zkq E0ok mix0 1500 ([.b false]) (q:=[decide ((i:Int) < (↑(List.map (fun n=>[iv n]) l).length:Int))=false]) (y:=iv 0) (H:=[]) kr ?_ ⟨?_,rfl⟩
  ·simp [allP];omega
  ·rw [List.drop_of_length_le Zo];rfl
 | succ k ih =>
  intro i hi
  obtain ⟨x,hx⟩:=za4 (l:=l) (i:=i) Zo
  have hlt:=zbu hx
  refine zaa ?_
  rw [zam hx,orI]
  by_cases h0:x=0
  ·rw [if_pos h0]
   exact zmL E0ok mix0 1500 ([.b true,.el [iv x],.b false,.i ((i+1:Nat):Int)]) [3,6,7,8] 0 (q:=[decide ((i:Int) < (↑(List.map (fun n=>[iv n]) l).length:Int))=true,ElAt (List.map (fun n=>[iv n]) l) (i:Int) [AV.v (Value.int IntKind.i64 x)] (1:Nat),(x != (0:Int))=false,IntKind.i64.wrap ((i:Int)+(1:Int))=(↑(i+(1:Nat)):Int)]) kr kr kr ⟨by simp;omega,zae (fun n=>[iv n]) hx rfl,by simp [h0],zaL i Zo⟩ (ih (i+1) Zo)
  ·rw [if_neg h0]
   exact zkq E0ok mix0 1500 ([.b true,.el [iv x],.b true]) (q:=[decide ((i:Int) < (↑(List.map (fun n=>[iv n]) l).length:Int))=true,ElAt (List.map (fun n=>[iv n]) l) (i:Int) [AV.v (Value.int IntKind.i64 x)] (1:Nat),(x != (0:Int))=true]) (y:=iv x) (H:=[]) kr ⟨by simp;omega,zae (fun n=>[iv n]) hx rfl,by simpa [allP] using h0⟩ ⟨rfl,rfl⟩
theorem ztd (l:List Int) (hl:l.length < 9223372036854775807):Pure S.CY [.sl (l.map fun n=>[iv n])] (iv (orI l)) :=
 zyf E0ok mix0 At.CY rfl kr kr 1500 ([]) [3,6,7,8] 0 (q:=[]) kr kr kr trivial (zy0 l hl l.length 0 Zo)
def cmpV (a b:V):Int:=orI [cmpI a.kind b.kind,cmpI a.int b.int,cmpS a.text b.text]
theorem zff (a b:V):Pure S.Cb [a.av,b.av] (iv (cmpV a b)) :=
 walk E0ok mix0 At.Cb rfl kr kr 1500 [sd [(4,[sc (zna a.kind b.kind)]),(9,[sc (zla a.int b.int)]),(14,[sc (zkt a.text b.text)]),(16,[sc (ztd [cmpI a.kind b.kind,cmpI a.int b.int,cmpS a.text b.text] Zs)])]] kr rfl
def okB (c:Nat):Bool:=!(decide ((c:Int) < 32))&&!(decide ((126:Int) < c))
def zh3 (l:List UInt8):Bool:=match l with
 | []=>true
 | c::r=>okB c.toNat&&zh3 r
def zdR (s:Str):Bool:=zh3 s.data.toList&&decide ((s.size:Int)<=64)
noncomputable def zpL (s:Str) (i:Nat):Cfg:=zag B.CM 0 [(0,sv s),(5,iv (s.size:Nat)),(6,iv (i:Nat))] []
theorem zth (s:Str) (hl:s.size < 9223372036854775807):∀ (k i:Nat),i+k=s.size->Good E0 B.CM [] (zpL s i) (Shut 0 fun r h=>r=bv (zh3 (s.data.toList.drop i)&&decide ((s.size:Int)<=64))/\h=[]):=by
 intro k
 induction k with
 | zero =>
  intro i hi
  refine zaa ?_
  have h0:decide ((i:Int) < (s.size:Int))=false:=by simp;omega
  have e0:s.data.toList.drop i=[]:=List.drop_of_length_le (by simp [← hi])
  rw [e0]
  exact zeJ E0ok mix0 3000 (y:=AV.v (Value.bool (decide ((↑(ByteArray.size s):Int)<=(64:Int))))) [sb h0] kr ⟨rfl,rfl⟩
 | succ k ih =>
  intro i hi
  have ih:=ih (i+1) Zo
  have hlt:i < s.size:=by omega
  have h0:decide ((i:Int) < (s.size:Int))=true:=by simp;omega
  have hb:ByteAt s (i:Int) ((s[i].toNat:Nat):Int):=⟨by omega,by simp [hlt]⟩
  have hw:=zaL i Zo
  have e0:s.data.toList.drop i=s[i]::s.data.toList.drop (i+1):=by
   rw [List.drop_eq_getElem_cons (by simpa using hlt)];rfl
  rw [e0]
  generalize s[i]=c at hb
  simp only [zh3,okB]
  refine zaa ?_
  cases h1:decide ((c.toNat:Int) < (32:Int))
  ·cases h2:decide ((126:Int) < (c.toNat:Int))
   ·exact zc9 E0ok mix0 3000 (c':=zpL s (i+(1:Nat))) [sb h0,sy hb,sg h1,sy hb,sb h2,si hw] [0,5,6] 0 kr kr (by simpa [h1,h2] using ih)
   ·exact zeJ E0ok mix0 3000 (y:=AV.v (Value.bool false)) [sb h0,sy hb,sg h1,sy hb,sb h2] kr ⟨by simp [h1,h2],rfl⟩
  ·exact zeJ E0ok mix0 3000 (y:=AV.v (Value.bool false)) [sb h0,sy hb,sb h1] kr ⟨by simp [h1],rfl⟩
theorem zrt (s:Str) (hl:s.size < 9223372036854775807):Pure S.CM [sv s] (bv (zdR s)):=by
 exact zfX E0ok mix0 At.CM rfl kr kr 3000 (c':=zpL s (0:Nat)) [] [0,5,6] 0 kr kr (by simpa [zdR] using zth s hl s.size 0 Zs)
theorem zmT {p:Prop} (h:p:=by first|assumption|exact zyk _ _ (by simp_all;omega)):p:=h
theorem zrU {p:Prop} (h:p:=by first|assumption|exact zyk _ _ Zd|exact zya _ _ _):p:=h
theorem zrV {p:Prop} (h:p:=by first|assumption|omega|(simp;done)|(simp;omega)):p:=h
theorem zpc {p:Prop} (h:p:=by first|assumption|exact zuZ _ _):p:=h
abbrev V.small (v:V):Prop:=v.text.size < 9223372036854775807
theorem zj1:(⟨#[]⟩:Str).size < 9223372036854775807:=by decide
def num (n:Int):V:=⟨1,n,⟨#[]⟩⟩
def zaW (v:V):Bool :=
 bif v.kind==(0:Int) then
  v.kind==(0:Int)&&(v.int==(0:Int)&&(v.text==ByteArray.mk #[]&&true))
 else
  bif v.kind==(1:Int) then
   ByteArray.toList v.text==Zs0.toList
  else
   bif v.kind==(2:Int) then
    bif v.int==(0:Int) then
     ByteArray.toList v.text==Zs0.toList
    else
     bif v.int==(1:Int) then
      ByteArray.toList v.text==Zs0.toList
     else
      false
   else
    bif v.kind==(3:Int) then
     bif v.int==(0:Int) then
      zdR v.text
     else
      false
    else
     false
theorem zdt (v:V) (hv:v.small):zab E0 S.BG [v.av] [] (bv (zaW v)) []:=by
 cases h1:v.kind==(0:Int)
 ·cases h2:v.kind==(1:Int)
  ·cases h3:v.kind==(2:Int)
   ·cases h4:v.kind==(3:Int)
    ·exact walk E0ok mix0 At.BG rfl kr kr 3000 (y:=AV.v (Value.bool false)) [sb h1,sb h2,sb h3,sb h4] kr (by simp only [zaW,cond_true,cond_false,h1,h2,h3,h4] <;> rfl)
    ·cases h5:v.int==(0:Int)
     ·exact walk E0ok mix0 At.BG rfl kr kr 3000 (y:=AV.v (Value.bool false)) [sb h1,sb h2,sb h3,sb h4,sb h5] kr (by simp only [zaW,cond_true,cond_false,h1,h2,h3,h4,h5] <;> rfl)
     ·exact walk E0ok mix0 At.BG rfl kr kr 3000 (y:=AV.v (Value.bool (zdR v.text))) [sb h1,sb h2,sb h3,sb h4,sg h5,sc (zrt v.text (by first|assumption|(simp;done)|omega|(simp;omega)))] kr (by simp only [zaW,cond_true,cond_false,h1,h2,h3,h4,h5] <;> rfl)
   ·cases h6:v.int==(0:Int)
    ·cases h7:v.int==(1:Int)
     ·exact walk E0ok mix0 At.BG rfl kr kr 3000 (y:=AV.v (Value.bool false)) [sb h1,sb h2,sb h3,sg h6,sb h7] kr (by simp only [zaW,cond_true,cond_false,h1,h2,h3,h6,h7] <;> rfl)
     ·exact walk E0ok mix0 At.BG rfl kr kr 3000 (y:=AV.v (Value.bool (ByteArray.toList v.text==Zs0.toList))) [sb h1,sb h2,sb h3,sg h6,sg h7] kr (by simp only [zaW,cond_true,cond_false,h1,h2,h3,h6,h7] <;> rfl)
    ·exact walk E0ok mix0 At.BG rfl kr kr 3000 (y:=AV.v (Value.bool (ByteArray.toList v.text==Zs0.toList))) [sb h1,sb h2,sb h3,sb h6] kr (by simp only [zaW,cond_true,cond_false,h1,h2,h3,h6] <;> rfl)
  ·exact walk E0ok mix0 At.BG rfl kr kr 3000 (y:=AV.v (Value.bool (ByteArray.toList v.text==Zs0.toList))) [sb h1,sb h2] kr (by simp only [zaW,cond_true,cond_false,h1,h2] <;> rfl)
 ·exact walk E0ok mix0 At.BG rfl kr kr 3000 (y:=AV.v (Value.bool (v.kind==(0:Int)&&(v.int==(0:Int)&&(v.text==ByteArray.mk #[]&&true))))) [sb h1,sq za3] kr (by simp only [zaW,cond_true,cond_false,h1] <;> rfl)
def zbi (v:V):Bool :=
 bif zaW v then
  bif v.kind==2 then
   true
  else
   v.kind==(0:Int)
 else
  false
theorem zcP (v:V) (hv:v.small):zab E0 S.C3 [v.av] [] (bv (zbi v)) []:=by
 unfold zbi
 let p_1:List St:=[sc (zdt v zrV)]
 cases h1:zaW v
 ·exact wk At.C3 (p_1++[sb h1]) kr
 ·cases h2:v.kind==2
  ·exact wk At.C3 (p_1++[sg h1,sg h2]) kr
  ·exact wk At.C3 (p_1++[sg h1,sb h2]) kr
def lnot (v:V):V × Bool :=
 bif !zbi v then
  (V.mk 0 0 Zs0,false)
 else
  bif v.kind==0 then
   (v,true)
  else
   (V.mk (2:Int) (if (v.int==(0:Int))=true then (1:Int) else (0:Int)) Zs0,true)
theorem zgg (v:V) (hv:v.small):zab E0 S.Dk [v.av] [] (.tup [(lnot v).1.av,bv (lnot v).2]) []:=by
 unfold lnot
 let p_1:List St:=[sc (zcP v zrV)]
 cases h1:!zbi v
 ·cases h2:v.kind==0
  ·exact wk At.Dk (p_1++[sb h1,sb h2,sc (zcy (v.int==0))]) kr
  ·exact wk At.Dk (p_1++[sb h1,sb h2]) kr
 ·exact wk At.Dk (p_1++[sb h1]) kr
def zeC (a b:V):V :=
 bif a.kind==2&&((a.int==if false=true then 1 else 0)&&(a.text==ByteArray.mk #[]&&true)) then
  V.mk 2 (if false=true then 1 else 0) Zs0
 else
  bif b.kind==2&&((b.int==if false=true then 1 else 0)&&(b.text==ByteArray.mk #[]&&true)) then
   V.mk 2 (if false=true then 1 else 0) Zs0
  else
   bif a.kind==0 then
    V.mk 0 0 Zs0
   else
    bif b.kind==0 then
     V.mk 0 0 Zs0
    else
     V.mk 2 (if true=true then 1 else 0) Zs0
theorem znr (a b:V) :zab E0 S.CW [a.av,b.av] [] ((zeC a b).av) []:=by
 unfold zeC
 let p_1:List St:=[sc (zcy false),sq za3]
 cases h1:a.kind==2&&((a.int==if false=true then 1 else 0)&&(a.text==ByteArray.mk #[]&&true))
 ·cases h2:b.kind==2&&((b.int==if false=true then 1 else 0)&&(b.text==ByteArray.mk #[]&&true))
  ·cases h3:a.kind==0
   ·cases h4:b.kind==0
    ·exact wk At.CW (p_1++[sg h1,sq za3,sb h2,sg h3,sb h4,sc (zcy true)]) kr
    ·exact wk At.CW (p_1++[sg h1,sq za3,sb h2,sg h3,sb h4]) kr
   ·exact wk At.CW (p_1++[sg h1,sq za3,sb h2,sb h3]) kr
  ·exact wk At.CW (p_1++[sg h1,sq za3,sb h2]) kr
 ·exact wk At.CW (p_1++[sb h1]) kr
def land (a b:V):V × Bool :=
 bif !zbi a then
  (V.mk 0 0 Zs0,false)
 else
  bif !zbi b then
   (V.mk 0 0 Zs0,false)
  else
   (zeC a b,true)
theorem znq (a b:V) (ha:a.small) (hb:b.small):zab E0 S.Dl [a.av,b.av] [] (.tup [(land a b).1.av,bv (land a b).2]) []:=by
 unfold land
 let p_1:List St:=[sc (zcP a zrV)]
 cases h1:!zbi a
 ·let p_2:List St:=p_1++[sg h1,sc (zcP b zrV)]
  cases h2:!zbi b
  ·exact wk At.Dl (p_2++[sb h2,sc (znr a b)]) kr
  ·exact wk At.Dl (p_2++[sb h2]) kr
 ·exact wk At.Dl (p_1++[sb h1]) kr
theorem zx3 (c:Bool) {a b:V} (ha:a.small) (hb:b.small):(bif c then a else b).small:=by cases c <;> assumption
theorem zu4 (c:Bool) {α:Type} {a b:V × α} (ha:a.1.small) (hb:b.1.small):(bif c then a else b).1.small:=by cases c <;> assumption
theorem zuZ (a b:V):(zeC a b).small:=by
 unfold zeC;repeat' (first|apply zx3|exact zj1)
def lor (a b:V):V × Bool :=
 bif !zbi a then
  (V.mk 0 0 Zs0,false)
 else
  bif !zbi b then
   (V.mk 0 0 Zs0,false)
  else
   ((lnot (zeC (lnot a).fst (lnot b).fst)).fst,(lnot (zeC (lnot a).fst (lnot b).fst)).snd)
theorem zxp (a b:V) (ha:a.small) (hb:b.small):zab E0 S.Dv [a.av,b.av] [] (.tup [(lor a b).1.av,bv (lor a b).2]) []:=by
 unfold lor
 let p_1:List St:=[sc (zcP a zpc)]
 cases h1:!zbi a
 ·let p_2:List St:=p_1++[sg h1,sc (zcP b zpc)]
  cases h2:!zbi b
  ·exact wk At.Dv (p_2++[sb h2,sc (zgg a zpc),sc (zgg b zpc),sc (znr ((lnot a).fst) ((lnot b).fst)),sc (zgg (zeC (lnot a).fst (lnot b).fst) zpc)]) kr
  ·exact wk At.Dv (p_2++[sb h2]) kr
 ·exact wk At.Dv (p_1++[sb h1]) kr
def zoL (a:V):Bool :=
 a.kind==(2:Int)&&((a.int==if true=true then (1:Int) else (0:Int))&&(a.text==ByteArray.mk #[]&&true))
theorem zp9 (a:V) :zab E0 S.DB [a.av] [] (bv (zoL a)) []:=by
 exact wk At.DB [sd [(1,[sc (zcy true)]),(2,[sq za3])]] kr
def aAdd (a b:Int):Int × Bool :=
 bif decide (0 < b) then
  bif decide (IntKind.i64.wrap (9223372036854775807 - b) < a) then
   (0,false)
  else
   bif decide (b < 0) then
    bif decide (a < IntKind.i64.wrap (-9223372036854775808 - b)) then
     (0,false)
    else
     (IntKind.i64.wrap (a+b),true)
   else
    (IntKind.i64.wrap (a+b),true)
 else
  bif decide (b < 0) then
   bif decide (a < IntKind.i64.wrap (-9223372036854775808 - b)) then
    (0,false)
   else
    (IntKind.i64.wrap (a+b),true)
  else
   (IntKind.i64.wrap (a+b),true)
theorem ziU (a b:Int) :zab E0 S.Cs [iv a,iv b] [] (.tup [iv (aAdd a b).1,bv (aAdd a b).2]) []:=by
 unfold aAdd
 cases h1:decide (0 < b)
 ·cases h2:decide (b < 0)
  ·exact wk At.Cs [sb h1,sb h2,si (e:=IntKind.i64.wrap (a+b)) rfl] kr
  ·let p_1:List St:=[sb h1,sg h2,si (e:=IntKind.i64.wrap (-9223372036854775808 - b)) rfl]
   cases h3:decide (a < IntKind.i64.wrap (-9223372036854775808 - b))
   ·exact wk At.Cs (p_1++[sb h3,si (e:=IntKind.i64.wrap (a+b)) rfl]) kr
   ·exact wk At.Cs (p_1++[sb h3]) kr
 ·let p_2:List St:=[sg h1,si (e:=IntKind.i64.wrap (9223372036854775807 - b)) rfl]
  cases h4:decide (IntKind.i64.wrap (9223372036854775807 - b) < a)
  ·cases h5:decide (b < 0)
   ·exact wk At.Cs (p_2++[sg h4,sb h5,si (e:=IntKind.i64.wrap (a+b)) rfl]) kr
   ·let p_3:List St:=p_2++[sg h4,sg h5,si (e:=IntKind.i64.wrap (-9223372036854775808 - b)) rfl]
    cases h6:decide (a < IntKind.i64.wrap (-9223372036854775808 - b))
    ·exact wk At.Cs (p_3++[sb h6,si (e:=IntKind.i64.wrap (a+b)) rfl]) kr
    ·exact wk At.Cs (p_3++[sb h6]) kr
  ·exact wk At.Cs (p_2++[sb h4]) kr
def aSub (a b:Int):Int × Bool :=
 bif decide (b < 0) then
  bif decide (IntKind.i64.wrap (9223372036854775807+b) < a) then
   (0,false)
  else
   bif decide (0 < b) then
    bif decide (a < IntKind.i64.wrap (-9223372036854775808+b)) then
     (0,false)
    else
     (IntKind.i64.wrap (a - b),true)
   else
    (IntKind.i64.wrap (a - b),true)
 else
  bif decide (0 < b) then
   bif decide (a < IntKind.i64.wrap (-9223372036854775808+b)) then
    (0,false)
   else
    (IntKind.i64.wrap (a - b),true)
  else
   (IntKind.i64.wrap (a - b),true)
theorem zeN (a b:Int) :zab E0 S.BE [iv a,iv b] [] (.tup [iv (aSub a b).1,bv (aSub a b).2]) []:=by
 unfold aSub
 cases h1:decide (b < 0)
 ·cases h2:decide (0 < b)
  ·exact wk At.BE [sb h1,sb h2,si (e:=IntKind.i64.wrap (a - b)) rfl] kr
  ·let p_1:List St:=[sb h1,sg h2,si (e:=IntKind.i64.wrap (-9223372036854775808+b)) rfl]
   cases h3:decide (a < IntKind.i64.wrap (-9223372036854775808+b))
   ·exact wk At.BE (p_1++[sb h3,si (e:=IntKind.i64.wrap (a - b)) rfl]) kr
   ·exact wk At.BE (p_1++[sb h3]) kr
 ·let p_2:List St:=[sg h1,si (e:=IntKind.i64.wrap (9223372036854775807+b)) rfl]
  cases h4:decide (IntKind.i64.wrap (9223372036854775807+b) < a)
  ·cases h5:decide (0 < b)
   ·exact wk At.BE (p_2++[sg h4,sb h5,si (e:=IntKind.i64.wrap (a - b)) rfl]) kr
   ·let p_3:List St:=p_2++[sg h4,sg h5,si (e:=IntKind.i64.wrap (-9223372036854775808+b)) rfl]
    cases h6:decide (a < IntKind.i64.wrap (-9223372036854775808+b))
    ·exact wk At.BE (p_3++[sb h6,si (e:=IntKind.i64.wrap (a - b)) rfl]) kr
    ·exact wk At.BE (p_3++[sb h6]) kr
  ·exact wk At.BE (p_2++[sb h4]) kr
def aMul (a b:Int):Int × Bool :=
 bif a==0 then
  (0,true)
 else
  bif b==0 then
   (0,true)
  else
   bif a==-9223372036854775808 then
    bif b==-1 then
     (0,false)
    else
     bif b==-9223372036854775808 then
      bif a==-1 then
       (0,false)
      else
       bif IntKind.i64.wrap ((IntKind.i64.wrap (a * b)).tdiv b) != a then
        (0,false)
       else
        (IntKind.i64.wrap (a * b),true)
     else
      bif IntKind.i64.wrap ((IntKind.i64.wrap (a * b)).tdiv b) != a then
       (0,false)
      else
       (IntKind.i64.wrap (a * b),true)
   else
    bif b==-9223372036854775808 then
     bif a==-1 then
      (0,false)
     else
      bif IntKind.i64.wrap ((IntKind.i64.wrap (a * b)).tdiv b) != a then
       (0,false)
      else
       (IntKind.i64.wrap (a * b),true)
    else
     bif IntKind.i64.wrap ((IntKind.i64.wrap (a * b)).tdiv b) != a then
      (0,false)
     else
      (IntKind.i64.wrap (a * b),true)
theorem zeM (a b:Int) :zab E0 S.AL [iv a,iv b] [] (.tup [iv (aMul a b).1,bv (aMul a b).2]) []:=by
 unfold aMul
 cases h1:a==0
 ·cases h2:b==0
  ·cases h3:a==-9223372036854775808
   ·cases h4:b==-9223372036854775808
    ·let p_1:List St:=[sg h1,sb h2,sb h3,sb h4,si (e:=IntKind.i64.wrap (a * b)) rfl,sx (.i (IntKind.i64.wrap ((IntKind.i64.wrap (a * b)).tdiv b))) (show b≠(0:Int)/\(IntKind.i64.wrap ((IntKind.i64.wrap (a * b)).tdiv b):Int)=IntKind.i64.wrap ((IntKind.i64.wrap (a * b)).tdiv b) from ⟨(by simp_all),rfl⟩)]
     cases h5:IntKind.i64.wrap ((IntKind.i64.wrap (a * b)).tdiv b) != a
     ·exact wk At.AL (p_1++[sb h5]) kr
     ·exact wk At.AL (p_1++[sb h5]) kr
    ·cases h6:a==-1
     ·let p_2:List St:=[sg h1,sb h2,sb h3,sg h4,sb h6,si (e:=IntKind.i64.wrap (a * b)) rfl,sx (.i (IntKind.i64.wrap ((IntKind.i64.wrap (a * b)).tdiv b))) (show b≠(0:Int)/\(IntKind.i64.wrap ((IntKind.i64.wrap (a * b)).tdiv b):Int)=IntKind.i64.wrap ((IntKind.i64.wrap (a * b)).tdiv b) from ⟨(by simp_all),rfl⟩)]
      cases h7:IntKind.i64.wrap ((IntKind.i64.wrap (a * b)).tdiv b) != a
      ·exact wk At.AL (p_2++[sb h7]) kr
      ·exact wk At.AL (p_2++[sb h7]) kr
     ·exact wk At.AL [sg h1,sb h2,sb h3,sg h4,sb h6] kr
   ·cases h8:b==-1
    ·cases h9:b==-9223372036854775808
     ·let p_3:List St:=[sg h1,sb h2,sg h3,sg h8,sb h9,si (e:=IntKind.i64.wrap (a * b)) rfl,sx (.i (IntKind.i64.wrap ((IntKind.i64.wrap (a * b)).tdiv b))) (show b≠(0:Int)/\(IntKind.i64.wrap ((IntKind.i64.wrap (a * b)).tdiv b):Int)=IntKind.i64.wrap ((IntKind.i64.wrap (a * b)).tdiv b) from ⟨(by simp_all),rfl⟩)]
      cases h10:IntKind.i64.wrap ((IntKind.i64.wrap (a * b)).tdiv b) != a
      ·exact wk At.AL (p_3++[sb h10]) kr
      ·exact wk At.AL (p_3++[sb h10]) kr
     ·cases h11:a==-1
      ·let p_4:List St:=[sg h1,sb h2,sg h3,sg h8,sg h9,sb h11,si (e:=IntKind.i64.wrap (a * b)) rfl,sx (.i (IntKind.i64.wrap ((IntKind.i64.wrap (a * b)).tdiv b))) (show b≠(0:Int)/\(IntKind.i64.wrap ((IntKind.i64.wrap (a * b)).tdiv b):Int)=IntKind.i64.wrap ((IntKind.i64.wrap (a * b)).tdiv b) from ⟨(by simp_all),rfl⟩)]
       cases h12:IntKind.i64.wrap ((IntKind.i64.wrap (a * b)).tdiv b) != a
       ·exact wk At.AL (p_4++[sb h12]) kr
       ·exact wk At.AL (p_4++[sb h12]) kr
      ·exact wk At.AL [sg h1,sb h2,sg h3,sg h8,sg h9,sb h11] kr
    ·exact wk At.AL [sg h1,sb h2,sg h3,sb h8] kr
  ·exact wk At.AL [sg h1,sb h2] kr
 ·exact wk At.AL [sb h1] kr
def aDiv (a b:Int):Int × Bool :=
 bif b==0 then
  (0,false)
 else
  bif a==-9223372036854775808 then
   bif b==-1 then
    (0,false)
   else
    (IntKind.i64.wrap (a.tdiv b),true)
  else
   (IntKind.i64.wrap (a.tdiv b),true)
theorem zp2 (a b:Int) :zab E0 S.CG [iv a,iv b] [] (.tup [iv (aDiv a b).1,bv (aDiv a b).2]) []:=by
 unfold aDiv
 cases h1:b==0
 ·cases h2:a==-9223372036854775808
  ·exact wk At.CG [sg h1,sb h2,sx (.i (IntKind.i64.wrap (a.tdiv b))) (show b≠(0:Int)/\(IntKind.i64.wrap (a.tdiv b):Int)=IntKind.i64.wrap (a.tdiv b) from ⟨(by simp_all),rfl⟩)] kr
  ·cases h3:b==-1
   ·exact wk At.CG [sg h1,sg h2,sb h3,sx (.i (IntKind.i64.wrap (a.tdiv b))) (show b≠(0:Int)/\(IntKind.i64.wrap (a.tdiv b):Int)=IntKind.i64.wrap (a.tdiv b) from ⟨(by simp_all),rfl⟩)] kr
   ·exact wk At.CG [sg h1,sg h2,sb h3] kr
 ·exact wk At.CG [sb h1] kr
def aMod (a b:Int):Int × Bool :=
 bif b==0 then
  (0,false)
 else
  bif b==-1 then
   (0,true)
  else
   (a.tmod b,true)
theorem zp3 (a b:Int) :zab E0 S.CZ [iv a,iv b] [] (.tup [iv (aMod a b).1,bv (aMod a b).2]) []:=by
 unfold aMod
 cases h1:b==0
 ·cases h2:b==-1
  ·exact wk At.CZ [sb h1,sb h2,sx (.i (a.tmod b)) (show b≠(0:Int)/\(a.tmod b:Int)=a.tmod b from ⟨(by simp_all),rfl⟩)] kr
  ·exact wk At.CZ [sb h1,sb h2] kr
 ·exact wk At.CZ [sb h1] kr
def zda (v:V) (ok:Bool):V × Int :=
 bif !ok then
  (V.mk 0 0 Zs0,5)
 else
  (v,0)
theorem zdl (v:V) (ok:Bool) :zab E0 S.C1 [v.av,bv ok] [] (.tup [(zda v ok).1.av,iv (zda v ok).2]) []:=by
 unfold zda
 cases h1:!ok
 ·exact wk At.C1 [sb h1] kr
 ·exact wk At.C1 [sb h1] kr
def zoB (op c:Int):Bool:=bif op==3 then c==0 else bif op==4 then c != 0 else bif op==5 then decide (c < 0) else bif op==6 then decide (c<=0) else bif op==7 then decide (0 < c) else decide (0<=c)
abbrev CmpArr (op c:Int):Prop:=ArrAt [.bl false,.bl false,.bl false,bv (c==0),bv (c != 0),bv (decide (c < 0)),bv (decide (c<=0)),bv (decide (0 < c)),bv (decide (0<=c))] op 9 [bv (zoB op c)] 1
theorem zyk (op c:Int) (ho:3<=op/\op<=8):CmpArr op c:=by
 have h:op=3\/op=4\/op=5\/op=6\/op=7\/op=8:=by omega
 rcases h with rfl|rfl|rfl|rfl|rfl|rfl <;> exact ⟨by decide,by decide,rfl,rfl⟩
def vCmp (op:Int) (a b:V):V × Int :=
 bif a.kind==0 then
  (V.mk 0 0 Zs0,0)
 else
  bif b.kind==0 then
   (V.mk 0 0 Zs0,0)
  else
   bif a.kind != b.kind then
    (V.mk 0 0 Zs0,5)
   else
    (V.mk 2 (if zoB op (cmpV a b)=true then 1 else 0) Zs0,0)
theorem zc4 (op:Int) (a b:V) (he:ArrAt [.bl false,.bl false,.bl false,bv (cmpV a b==0),bv (cmpV a b != 0),bv (decide (cmpV a b < 0)),bv (decide (cmpV a b<=0)),bv (decide (0 < cmpV a b)),bv (decide (0<=cmpV a b))] op 9 [bv (zoB op (cmpV a b))] 1):zab E0 S.BR [iv op,a.av,b.av] [] (.tup [(vCmp op a b).1.av,iv (vCmp op a b).2]) []:=by
 unfold vCmp
 cases h1:a.kind==0
 ·let p_1:List St:=[sc (zbD a),sg h1,sc (zbD b)]
  cases h2:b.kind==0
  ·cases h3:a.kind != b.kind
   ·exact wk At.BR (p_1++[sb h2,sb h3,sc (zff a b),sa he,sc (zcy (zoB op (cmpV a b)))]) kr
   ·exact wk At.BR (p_1++[sb h2,sb h3]) kr
  ·exact wk At.BR (p_1++[sb h2]) kr
 ·exact wk At.BR [sc (zbD a),sb h1] kr
def zck (op:Int) (a b:V):V × Int :=
 bif a.kind==0 then
  (V.mk 0 0 Zs0,0)
 else
  bif b.kind==0 then
   (V.mk 0 0 Zs0,0)
  else
   bif a.kind != 1 then
    (V.mk 0 0 Zs0,5)
   else
    bif b.kind != 1 then
     (V.mk 0 0 Zs0,5)
    else
     bif op==12 then
      bif b.int==0 then
       (V.mk 0 0 Zs0,7)
      else
       bif op==9 then
        bif !(aAdd a.int b.int).snd then
         (V.mk 0 0 Zs0,6)
        else
         (V.mk 1 (aAdd a.int b.int).fst Zs0,0)
       else
        bif op==10 then
         bif !(aSub a.int b.int).snd then
          (V.mk 0 0 Zs0,6)
         else
          (V.mk 1 (aSub a.int b.int).fst Zs0,0)
        else
         bif op==11 then
          bif !(aMul a.int b.int).snd then
           (V.mk 0 0 Zs0,6)
          else
           (V.mk 1 (aMul a.int b.int).fst Zs0,0)
         else
          bif !(aDiv a.int b.int).snd then
           (V.mk 0 0 Zs0,6)
          else
           (V.mk 1 (aDiv a.int b.int).fst Zs0,0)
     else
      bif op==13 then
       bif b.int==0 then
        (V.mk 0 0 Zs0,7)
       else
        bif op==9 then
         bif !(aAdd a.int b.int).snd then
          (V.mk 0 0 Zs0,6)
         else
          (V.mk 1 (aAdd a.int b.int).fst Zs0,0)
        else
         bif op==10 then
          bif !(aSub a.int b.int).snd then
           (V.mk 0 0 Zs0,6)
          else
           (V.mk 1 (aSub a.int b.int).fst Zs0,0)
         else
          bif op==11 then
           bif !(aMul a.int b.int).snd then
            (V.mk 0 0 Zs0,6)
           else
            (V.mk 1 (aMul a.int b.int).fst Zs0,0)
          else
           bif !(aMod a.int b.int).snd then
            (V.mk 0 0 Zs0,6)
           else
            (V.mk 1 (aMod a.int b.int).fst Zs0,0)
      else
       bif op==9 then
        bif !(aAdd a.int b.int).snd then
         (V.mk 0 0 Zs0,6)
        else
         (V.mk 1 (aAdd a.int b.int).fst Zs0,0)
       else
        bif op==10 then
         bif !(aSub a.int b.int).snd then
          (V.mk 0 0 Zs0,6)
         else
          (V.mk 1 (aSub a.int b.int).fst Zs0,0)
        else
         bif op==11 then
          bif !(aMul a.int b.int).snd then
           (V.mk 0 0 Zs0,6)
          else
           (V.mk 1 (aMul a.int b.int).fst Zs0,0)
         else
          (V.mk 0 0 Zs0,6)
theorem zeW (op:Int) (a b:V) :zab E0 S.Af [iv op,a.av,b.av] [] (.tup [(zck op a b).1.av,iv (zck op a b).2]) []:=by
 unfold zck
 cases h1:a.kind==0
 ·let p_1:List St:=[sc (zbD a),sg h1,sc (zbD b)]
  cases h2:b.kind==0
  ·cases h3:a.kind != 1
   ·cases h4:b.kind != 1
    ·cases h5:op==12
     ·cases h6:op==13
      ·cases h7:op==9
       ·let p_2:List St:=p_1++[sb h2,sg h3,sb h4,sg h5,sb h6,sb h7]
        cases h8:op==10
        ·cases h9:op==11
         ·exact wk At.Af (p_2++[sb h8,sb h9,sb h5,sb h6]) kr
         ·let p_3:List St:=p_2++[sb h8,sb h9,sc (zeM a.int b.int)]
          cases h10:!(aMul a.int b.int).snd
          ·exact wk At.Af (p_3++[sb h10,sc (zaZ ((aMul a.int b.int).fst))]) kr
          ·exact wk At.Af (p_3++[sb h10]) kr
        ·let p_4:List St:=p_2++[sb h8,sc (zeN a.int b.int)]
         cases h11:!(aSub a.int b.int).snd
         ·exact wk At.Af (p_4++[sb h11,sc (zaZ ((aSub a.int b.int).fst))]) kr
         ·exact wk At.Af (p_4++[sb h11]) kr
       ·let p_5:List St:=p_1++[sb h2,sg h3,sb h4,sg h5,sb h6,sb h7,sc (ziU a.int b.int)]
        cases h12:!(aAdd a.int b.int).snd
        ·exact wk At.Af (p_5++[sb h12,sc (zaZ ((aAdd a.int b.int).fst))]) kr
        ·exact wk At.Af (p_5++[sb h12]) kr
      ·cases h13:b.int==0
       ·let p_6:List St:=p_1++[sb h2,sg h3,sb h4,sg h5,sg h6,sb h13]
        cases h14:op==9
        ·cases h15:op==10
         ·cases h16:op==11
          ·let p_7:List St:=p_6++[sb h14,sb h15,sb h16,sb h5,sb h6,sc (zp3 a.int b.int)]
           cases h17:!(aMod a.int b.int).snd
           ·exact wk At.Af (p_7++[sb h17,sc (zaZ ((aMod a.int b.int).fst))]) kr
           ·exact wk At.Af (p_7++[sb h17]) kr
          ·let p_8:List St:=p_6++[sb h14,sb h15,sb h16,sc (zeM a.int b.int)]
           cases h18:!(aMul a.int b.int).snd
           ·exact wk At.Af (p_8++[sb h18,sc (zaZ ((aMul a.int b.int).fst))]) kr
           ·exact wk At.Af (p_8++[sb h18]) kr
         ·let p_9:List St:=p_6++[sb h14,sb h15,sc (zeN a.int b.int)]
          cases h19:!(aSub a.int b.int).snd
          ·exact wk At.Af (p_9++[sb h19,sc (zaZ ((aSub a.int b.int).fst))]) kr
          ·exact wk At.Af (p_9++[sb h19]) kr
        ·let p_10:List St:=p_6++[sb h14,sc (ziU a.int b.int)]
         cases h20:!(aAdd a.int b.int).snd
         ·exact wk At.Af (p_10++[sb h20,sc (zaZ ((aAdd a.int b.int).fst))]) kr
         ·exact wk At.Af (p_10++[sb h20]) kr
       ·exact wk At.Af (p_1++[sb h2,sg h3,sb h4,sg h5,sg h6,sb h13]) kr
     ·cases h21:b.int==0
      ·cases h22:op==9
       ·let p_11:List St:=p_1++[sb h2,sg h3,sb h4,sb h5,sb h21,sb h22]
        cases h23:op==10
        ·cases h24:op==11
         ·let p_12:List St:=p_11++[sb h23,sb h24,sb h5,sc (zp2 a.int b.int)]
          cases h25:!(aDiv a.int b.int).snd
          ·exact wk At.Af (p_12++[sb h25,sc (zaZ ((aDiv a.int b.int).fst))]) kr
          ·exact wk At.Af (p_12++[sb h25]) kr
         ·let p_13:List St:=p_11++[sb h23,sb h24,sc (zeM a.int b.int)]
          cases h26:!(aMul a.int b.int).snd
          ·exact wk At.Af (p_13++[sb h26,sc (zaZ ((aMul a.int b.int).fst))]) kr
          ·exact wk At.Af (p_13++[sb h26]) kr
        ·let p_14:List St:=p_11++[sb h23,sc (zeN a.int b.int)]
         cases h27:!(aSub a.int b.int).snd
         ·exact wk At.Af (p_14++[sb h27,sc (zaZ ((aSub a.int b.int).fst))]) kr
         ·exact wk At.Af (p_14++[sb h27]) kr
       ·let p_15:List St:=p_1++[sb h2,sg h3,sb h4,sb h5,sb h21,sb h22,sc (ziU a.int b.int)]
        cases h28:!(aAdd a.int b.int).snd
        ·exact wk At.Af (p_15++[sb h28,sc (zaZ ((aAdd a.int b.int).fst))]) kr
        ·exact wk At.Af (p_15++[sb h28]) kr
      ·exact wk At.Af (p_1++[sb h2,sg h3,sb h4,sb h5,sb h21]) kr
    ·exact wk At.Af (p_1++[sb h2,sg h3,sb h4]) kr
   ·exact wk At.Af (p_1++[sb h2,sb h3]) kr
  ·exact wk At.Af (p_1++[sb h2]) kr
 ·exact wk At.Af [sc (zbD a),sb h1] kr
theorem zya (op:Int) (a b:V):(vCmp op a b).1.small:=by
 unfold vCmp;repeat' (first|apply zu4|exact zj1)
def zeQ (x y z:V):V × Int :=
 bif (vCmp 6 y x).snd != 0 then
  (V.mk 0 0 Zs0,(vCmp 6 y x).snd)
 else
  bif (vCmp 6 x z).snd != 0 then
   (V.mk 0 0 Zs0,(vCmp 6 x z).snd)
  else
   ((zda (land (vCmp 6 y x).fst (vCmp 6 x z).fst).fst (land (vCmp 6 y x).fst (vCmp 6 x z).fst).snd).fst,(zda (land (vCmp 6 y x).fst (vCmp 6 x z).fst).fst (land (vCmp 6 y x).fst (vCmp 6 x z).fst).snd).snd)
theorem zlR (x y z:V) :zab E0 S.Cw [vsl [x,y,z]] [] (.tup [(zeQ x y z).1.av,iv (zeQ x y z).2]) []:=by
 unfold zeQ
 let p_1:List St:=[sdm [(1,[se (xs:=[[iv x.kind,iv x.int,sv x.text],[iv y.kind,iv y.int,sv y.text],[iv z.kind,iv z.int,sv z.text]]) (i:=1) (c:=[iv y.kind,iv y.int,sv y.text]) (n:=3) ⟨by decide,rfl,rfl⟩]),(4,[se (xs:=[[iv x.kind,iv x.int,sv x.text],[iv y.kind,iv y.int,sv y.text],[iv z.kind,iv z.int,sv z.text]]) (i:=0) (c:=[iv x.kind,iv x.int,sv x.text]) (n:=3) ⟨by decide,rfl,rfl⟩]),(6,[sc (zc4 6 y x zrU)])] 0 [(0,AV.sl [[iv x.kind,iv x.int,sv x.text],[iv y.kind,iv y.int,sv y.text],[iv z.kind,iv z.int,sv z.text]]),(2,AV.p 0 0),(3,iv 0),(4,AV.p 1 0),(5,iv (vCmp 6 y x).snd),(7,AV.tup [AV.agg [iv (vCmp 6 y x).fst.kind,iv (vCmp 6 y x).fst.int,sv (vCmp 6 y x).fst.text],iv (vCmp 6 y x).snd]),(8,AV.sl [[iv x.kind,iv x.int,sv x.text],[iv y.kind,iv y.int,sv y.text],[iv z.kind,iv z.int,sv z.text]]),(9,AV.dp [iv y.kind,iv y.int,sv y.text]),(10,AV.agg [iv y.kind,iv y.int,sv y.text]),(11,AV.sl [[iv x.kind,iv x.int,sv x.text],[iv y.kind,iv y.int,sv y.text],[iv z.kind,iv z.int,sv z.text]]),(12,AV.dp [iv x.kind,iv x.int,sv x.text]),(13,AV.agg [iv x.kind,iv x.int,sv x.text]),(14,AV.tup [AV.agg [iv (vCmp 6 y x).fst.kind,iv (vCmp 6 y x).fst.int,sv (vCmp 6 y x).fst.text],iv (vCmp 6 y x).snd]),(15,AV.agg [iv (vCmp 6 y x).fst.kind,iv (vCmp 6 y x).fst.int,sv (vCmp 6 y x).fst.text]),(16,iv (vCmp 6 y x).snd)] [Blk.box [iv 0,iv 0,sv Zs0],Blk.box [iv (vCmp 6 y x).fst.kind,iv (vCmp 6 y x).fst.int,sv (vCmp 6 y x).fst.text]]]
 cases h1:(vCmp 6 y x).snd != 0
 ·let p_2:List St:=p_1++[sb h1,sdm [(1,[se (xs:=[[iv x.kind,iv x.int,sv x.text],[iv y.kind,iv y.int,sv y.text],[iv z.kind,iv z.int,sv z.text]]) (i:=0) (c:=[iv x.kind,iv x.int,sv x.text]) (n:=3) ⟨by decide,rfl,rfl⟩]),(4,[se (xs:=[[iv x.kind,iv x.int,sv x.text],[iv y.kind,iv y.int,sv y.text],[iv z.kind,iv z.int,sv z.text]]) (i:=2) (c:=[iv z.kind,iv z.int,sv z.text]) (n:=3) ⟨by decide,rfl,rfl⟩]),(6,[sc (zc4 6 x z zrU)])] 0 [(0,AV.sl [[iv x.kind,iv x.int,sv x.text],[iv y.kind,iv y.int,sv y.text],[iv z.kind,iv z.int,sv z.text]]),(2,AV.p 0 0),(3,iv 0),(4,AV.p 1 0),(5,iv (vCmp 6 x z).snd),(6,AV.p 2 0),(7,AV.tup [AV.agg [iv (vCmp 6 y x).fst.kind,iv (vCmp 6 y x).fst.int,sv (vCmp 6 y x).fst.text],iv (vCmp 6 y x).snd]),(8,AV.sl [[iv x.kind,iv x.int,sv x.text],[iv y.kind,iv y.int,sv y.text],[iv z.kind,iv z.int,sv z.text]]),(9,AV.dp [iv y.kind,iv y.int,sv y.text]),(10,AV.agg [iv y.kind,iv y.int,sv y.text]),(11,AV.sl [[iv x.kind,iv x.int,sv x.text],[iv y.kind,iv y.int,sv y.text],[iv z.kind,iv z.int,sv z.text]]),(12,AV.dp [iv x.kind,iv x.int,sv x.text]),(13,AV.agg [iv x.kind,iv x.int,sv x.text]),(14,AV.tup [AV.agg [iv (vCmp 6 y x).fst.kind,iv (vCmp 6 y x).fst.int,sv (vCmp 6 y x).fst.text],iv (vCmp 6 y x).snd]),(15,AV.agg [iv (vCmp 6 y x).fst.kind,iv (vCmp 6 y x).fst.int,sv (vCmp 6 y x).fst.text]),(16,iv (vCmp 6 y x).snd),(17,iv (vCmp 6 y x).snd),(18,AV.bl false),(21,AV.tup [AV.agg [iv (vCmp 6 x z).fst.kind,iv (vCmp 6 x z).fst.int,sv (vCmp 6 x z).fst.text],iv (vCmp 6 x z).snd]),(22,AV.sl [[iv x.kind,iv x.int,sv x.text],[iv y.kind,iv y.int,sv y.text],[iv z.kind,iv z.int,sv z.text]]),(23,AV.dp [iv x.kind,iv x.int,sv x.text]),(24,AV.agg [iv x.kind,iv x.int,sv x.text]),(25,AV.sl [[iv x.kind,iv x.int,sv x.text],[iv y.kind,iv y.int,sv y.text],[iv z.kind,iv z.int,sv z.text]]),(26,AV.dp [iv z.kind,iv z.int,sv z.text]),(27,AV.agg [iv z.kind,iv z.int,sv z.text]),(28,AV.tup [AV.agg [iv (vCmp 6 x z).fst.kind,iv (vCmp 6 x z).fst.int,sv (vCmp 6 x z).fst.text],iv (vCmp 6 x z).snd]),(29,AV.agg [iv (vCmp 6 x z).fst.kind,iv (vCmp 6 x z).fst.int,sv (vCmp 6 x z).fst.text]),(30,iv (vCmp 6 x z).snd)] [Blk.box [iv 0,iv 0,sv Zs0],Blk.box [iv (vCmp 6 y x).fst.kind,iv (vCmp 6 y x).fst.int,sv (vCmp 6 y x).fst.text],Blk.box [iv (vCmp 6 x z).fst.kind,iv (vCmp 6 x z).fst.int,sv (vCmp 6 x z).fst.text]]]
  cases h2:(vCmp 6 x z).snd != 0
  ·exact wk At.Cw (p_2++[sb h2,sc (znq ((vCmp 6 y x).fst) ((vCmp 6 x z).fst) zrU zrU),sc (zdl ((land (vCmp 6 y x).fst (vCmp 6 x z).fst).fst) ((land (vCmp 6 y x).fst (vCmp 6 x z).fst).snd))]) kr
  ·exact wk At.Cw (p_2++[sb h2]) kr
 ·exact wk At.Cw (p_1++[sb h1]) kr
def zkz (op:Int) (nt:Bool) (a:V):V × Int :=
 (V.mk (2:Int) (if (!(a.kind==(0:Int))==nt)=true then (1:Int) else (0:Int)) Zs0,0)
theorem zf0 (op:Int) (nt:Bool) (a:V) (val:V) (tn nm:Str) (xs:List X) (qs:List Qy) :zab E0 S.At [X.av (.mk 6 op nt val tn nm xs qs),vsl [a]] [] (.tup [(zkz op nt a).1.av,iv (zkz op nt a).2]) []:=by
 exact wk At.At [sb Zt,sd [(1,[se (xs:=[[iv a.kind,iv a.int,sv a.text]]) (i:=0) (c:=[iv a.kind,iv a.int,sv a.text]) (n:=3) ⟨by decide,rfl,rfl⟩]),(3,[sc (zbD a)]),(7,[sc (zcy (!(a.kind==0)==nt))])]] kr
def zrS (op:Int) (nt:Bool) (a:V):V × Int :=
 ((zda (lnot a).fst (lnot a).snd).fst,(zda (lnot a).fst (lnot a).snd).snd)
theorem zha (op:Int) (nt:Bool) (a:V) (val:V) (tn nm:Str) (xs:List X) (qs:List Qy) (ha:a.small):zab E0 S.At [X.av (.mk 3 op nt val tn nm xs qs),vsl [a]] [] (.tup [(zrS op nt a).1.av,iv (zrS op nt a).2]) []:=by
 exact wk At.At [sb Zf,sb Zt,se (xs:=[[iv a.kind,iv a.int,sv a.text]]) (i:=0) (c:=[iv a.kind,iv a.int,sv a.text]) (n:=3) ⟨by decide,rfl,rfl⟩,sc (zgg a zmT),sc (zdl ((lnot a).fst) ((lnot a).snd))] kr
def zrR (op:Int) (nt:Bool) (a:V):V × Int :=
 ((zck 10 (V.mk 1 0 Zs0) a).fst,(zck 10 (V.mk 1 0 Zs0) a).snd)
theorem zg9 (op:Int) (nt:Bool) (a:V) (val:V) (tn nm:Str) (xs:List X) (qs:List Qy) :zab E0 S.At [X.av (.mk 4 op nt val tn nm xs qs),vsl [a]] [] (.tup [(zrR op nt a).1.av,iv (zrR op nt a).2]) []:=by
 exact wk At.At [sb Zf,sb Zf,sb Zf,sb Zt,sd [(2,[se (xs:=[[iv a.kind,iv a.int,sv a.text]]) (i:=0) (c:=[iv a.kind,iv a.int,sv a.text]) (n:=3) ⟨by decide,rfl,rfl⟩]),(0,[sc (zaZ 0)]),(4,[sc (zeW 10 (V.mk 1 0 Zs0) a)])]] kr
def zmS (op:Int) (nt:Bool) (a b c:V):V × Int :=
 ((zeQ a b c).fst,(zeQ a b c).snd)
theorem zg7 (op:Int) (nt:Bool) (a b c:V) (val:V) (tn nm:Str) (xs:List X) (qs:List Qy) :zab E0 S.At [X.av (.mk 7 op nt val tn nm xs qs),vsl [a,b,c]] [] (.tup [(zmS op nt a b c).1.av,iv (zmS op nt a b c).2]) []:=by
 exact wk At.At [sb Zf,sb Zf,sb Zt,sc (zlR a b c)] kr
def ziJ (op:Int) (nt:Bool) (a b:V):V × Int :=
 bif op==2 then
  ((zda (land a b).fst (land a b).snd).fst,(zda (land a b).fst (land a b).snd).snd)
 else
  bif op==1 then
   ((zda (lor a b).fst (lor a b).snd).fst,(zda (lor a b).fst (lor a b).snd).snd)
  else
   bif decide (op<=8) then
    ((vCmp op a b).fst,(vCmp op a b).snd)
   else
    ((zck op a b).fst,(zck op a b).snd)
theorem zg8 (op:Int) (nt:Bool) (a b:V) (val:V) (tn nm:Str) (xs:List X) (qs:List Qy) (ha:a.small) (hb:b.small) (ho:1<=op/\op<=13):zab E0 S.At [X.av (.mk 5 op nt val tn nm xs qs),vsl [a,b]] [] (.tup [(ziJ op nt a b).1.av,iv (ziJ op nt a b).2]) []:=by
 unfold ziJ
 let p_1:List St:=[sb Zf,sb Zf,sb Zf,sb Zf]
 cases h1:op==2
 ·cases h2:op==1
  ·cases h3:decide (op<=8)
   ·exact wk At.At (p_1++[sb h1,sb h2,sb h3,sd [(3,[se (xs:=[[iv a.kind,iv a.int,sv a.text],[iv b.kind,iv b.int,sv b.text]]) (i:=0) (c:=[iv a.kind,iv a.int,sv a.text]) (n:=3) ⟨by decide,rfl,rfl⟩]),(6,[se (xs:=[[iv a.kind,iv a.int,sv a.text],[iv b.kind,iv b.int,sv b.text]]) (i:=1) (c:=[iv b.kind,iv b.int,sv b.text]) (n:=3) ⟨by decide,rfl,rfl⟩]),(8,[sc (zeW op a b)])]]) kr
   ·exact wk At.At (p_1++[sb h1,sb h2,sb h3,sd [(3,[se (xs:=[[iv a.kind,iv a.int,sv a.text],[iv b.kind,iv b.int,sv b.text]]) (i:=0) (c:=[iv a.kind,iv a.int,sv a.text]) (n:=3) ⟨by decide,rfl,rfl⟩]),(6,[se (xs:=[[iv a.kind,iv a.int,sv a.text],[iv b.kind,iv b.int,sv b.text]]) (i:=1) (c:=[iv b.kind,iv b.int,sv b.text]) (n:=3) ⟨by decide,rfl,rfl⟩]),(8,[sc (zc4 op a b zmT)])]]) kr
  ·exact wk At.At (p_1++[sb h1,sb h2,sd [(1,[se (xs:=[[iv a.kind,iv a.int,sv a.text],[iv b.kind,iv b.int,sv b.text]]) (i:=0) (c:=[iv a.kind,iv a.int,sv a.text]) (n:=3) ⟨by decide,rfl,rfl⟩]),(4,[se (xs:=[[iv a.kind,iv a.int,sv a.text],[iv b.kind,iv b.int,sv b.text]]) (i:=1) (c:=[iv b.kind,iv b.int,sv b.text]) (n:=3) ⟨by decide,rfl,rfl⟩]),(6,[sc (zxp a b zmT zmT)]),(9,[sc (zdl ((lor a b).fst) ((lor a b).snd))])]]) kr
 ·exact wk At.At (p_1++[sb h1,sd [(1,[se (xs:=[[iv a.kind,iv a.int,sv a.text],[iv b.kind,iv b.int,sv b.text]]) (i:=0) (c:=[iv a.kind,iv a.int,sv a.text]) (n:=3) ⟨by decide,rfl,rfl⟩]),(4,[se (xs:=[[iv a.kind,iv a.int,sv a.text],[iv b.kind,iv b.int,sv b.text]]) (i:=1) (c:=[iv b.kind,iv b.int,sv b.text]) (n:=3) ⟨by decide,rfl,rfl⟩]),(6,[sc (znq a b zmT zmT)]),(9,[sc (zdl ((land a b).fst) ((land a b).snd))])]]) kr
abbrev zac {α:Type} (l:List α):Prop:=l.length<=1000000000
def idxF {α:Type} (p:α->Bool):List α->Nat->Int
 | [],_=>-1
 | x::r,i=>bif p x then (i:Int) else idxF p r (i+1)
theorem zdz {α:Type} (p:α->Bool):∀ (l:List α) (i:Nat),(idxF p l i=-1/\l.find? p=none)\/∃ (j:Nat) (x:α),idxF p l i=((i+j:Nat):Int)/\l[j]?=some x/\l.find? p=some x
 | [],i=>.inl ⟨rfl,rfl⟩
 | x::r,i=>by
  cases hp:p x
  ·rcases zdz p r (i+1) with ⟨h1,h2⟩|⟨j,y,h1,h2,h3⟩
   ·exact .inl ⟨by simp [idxF,hp,h1],by simp [hp,h2]⟩
   ·exact .inr ⟨j+1,y,by simp only [idxF,hp,cond_false,h1];omega,by simpa using h2,by simp [hp,h3]⟩
  ·exact .inr ⟨0,x,by simp [idxF,hp],by simp,by simp [hp]⟩
def zan (t:Tb) (n:Str):Bool :=
 ByteArray.toList t.sch.name==ByteArray.toList n
theorem zgA (t:Tb) (n:Str) :zab E0 S.Cy [t.av,.p 0 0] [.box [sv n]] (bv (zan t n)) [.box [sv n]]:=by
 exact walkH E0ok mix0 At.Cy rfl kr kr 3000 (y:=AV.v (Value.bool (ByteArray.toList t.sch.name==ByteArray.toList n))) (H:=[Blk.box [AV.v (Value.string n)]]) [] kr (⟨rfl,rfl⟩)
def colC (t:Col) (n:Str):Bool :=
 ByteArray.toList t.name==ByteArray.toList n
theorem zhS (t:Col) (n:Str) :zab E0 S.CH [.agg t.cells,.p 0 0] [.box [sv n]] (bv (colC t n)) [.box [sv n]]:=by
 exact walkH E0ok mix0 At.CH rfl kr kr 3000 (y:=AV.v (Value.bool (ByteArray.toList t.name==ByteArray.toList n))) (H:=[Blk.box [AV.v (Value.string n)]]) [] kr (⟨rfl,rfl⟩)
noncomputable def zwg (tb:List Tb) (n:Str) (i:Nat):Cfg:=zag B.Ag 0 [(0,.sl (tb.map Tb.cells)),(1,.fn S.Cy [.p 0 0]),(7,iv ((tb.map Tb.cells).length:Nat)),(8,iv (i:Nat))] [.box [sv n]]
theorem zxo (tb:List Tb) (n:Str) (hl:zac tb):∀ (k i:Nat),i+k=tb.length->Good E0 B.Ag [.box [sv n]] (zwg tb n i) (Shut 1 fun r h=>r=iv (idxF (fun t=>zan t n) (tb.drop i) i)/\h=[.box [sv n]]):=by
 intro k
 induction k with
 | zero =>
  intro i hi
  refine zaa ?_
  have h0:decide ((i:Int) < (((tb.map Tb.cells).length:Nat):Int))=false:=by simp;omega
  have e0:tb.drop i=[]:=List.drop_of_length_le Zo
  rw [e0]
  exact zeJ E0ok mix0 3000 (y:=AV.v (Value.int IntKind.i64 (-1:Int))) (H:=[Blk.box [AV.v (Value.string n)]]) [sb h0] kr (⟨rfl,rfl⟩)
 | succ k ih =>
  intro i hi
  have ih:=ih (i+1) Zo
  obtain ⟨x,hx⟩:=za4 (l:=tb) (i:=i) Zo
  have h0:decide ((i:Int) < (((tb.map Tb.cells).length:Nat):Int))=true:=by simp;omega
  have hw:=zaL i Zo
  rw [zam hx]
  simp only [idxF]
  refine zaa ?_
  cases h1:zan x n
  ·exact zc9 E0ok mix0 3000 (c':=zwg tb n (i+(1:Nat))) [sb h0,se (zae Tb.cells hx rfl),sl [(0:Nat)] (zgA x n),sb h1,si hw] [0,1,7,8] 1 kr kr (by simpa only [cond_true,cond_false,h1] using ih)
  ·exact zeJ E0ok mix0 3000 (y:=AV.v (Value.int IntKind.i64 (i:Int))) (H:=[Blk.box [AV.v (Value.string n)]]) [sb h0,se (zae Tb.cells hx rfl),sl [(0:Nat)] (zgA x n),sb h1] kr (⟨by simp only [cond_true,cond_false,h1],rfl⟩)
theorem zdO (tb:List Tb) (n:Str) (hl:zac tb):zab E0 S.Ag [.sl (tb.map Tb.cells),.fn S.Cy [.p 0 0]] [.box [sv n]] (iv (idxF (fun t=>zan t n) tb 0)) [.box [sv n]]:=by
 exact zfX E0ok mix0 At.Ag rfl kr kr 3000 (c':=zwg tb n (0:Nat)) [] [0,1,7,8] 1 kr kr (by simpa using zxo tb n hl tb.length 0 Zs)
noncomputable def zwc (tb:List Col) (n:Str) (i:Nat):Cfg:=zag B.Aq 0 [(0,.sl (tb.map Col.cells)),(1,.fn S.CH [.p 0 0]),(7,iv ((tb.map Col.cells).length:Nat)),(8,iv (i:Nat))] [.box [sv n]]
theorem zxn (tb:List Col) (n:Str) (hl:zac tb):∀ (k i:Nat),i+k=tb.length->Good E0 B.Aq [.box [sv n]] (zwc tb n i) (Shut 1 fun r h=>r=iv (idxF (fun t=>colC t n) (tb.drop i) i)/\h=[.box [sv n]]):=by
 intro k
 induction k with
 | zero =>
  intro i hi
  refine zaa ?_
  have h0:decide ((i:Int) < (((tb.map Col.cells).length:Nat):Int))=false:=by simp;omega
  have e0:tb.drop i=[]:=List.drop_of_length_le Zo
  rw [e0]
  exact zeJ E0ok mix0 3000 (y:=AV.v (Value.int IntKind.i64 (-1:Int))) (H:=[Blk.box [AV.v (Value.string n)]]) [sb h0] kr (⟨rfl,rfl⟩)
 | succ k ih =>
  intro i hi
  have ih:=ih (i+1) Zo
  obtain ⟨x,hx⟩:=za4 (l:=tb) (i:=i) Zo
  have h0:decide ((i:Int) < (((tb.map Col.cells).length:Nat):Int))=true:=by simp;omega
  have hw:=zaL i Zo
  rw [zam hx]
  simp only [idxF]
  refine zaa ?_
  cases h1:colC x n
  ·exact zc9 E0ok mix0 3000 (c':=zwc tb n (i+(1:Nat))) [sb h0,se (zae Col.cells hx rfl),sl [(0:Nat)] (zhS x n),sb h1,si hw] [0,1,7,8] 1 kr kr (by simpa only [cond_true,cond_false,h1] using ih)
  ·exact zeJ E0ok mix0 3000 (y:=AV.v (Value.int IntKind.i64 (i:Int))) (H:=[Blk.box [AV.v (Value.string n)]]) [sb h0,se (zae Col.cells hx rfl),sl [(0:Nat)] (zhS x n),sb h1] kr (⟨by simp only [cond_true,cond_false,h1],rfl⟩)
theorem zhc (tb:List Col) (n:Str) (hl:zac tb):zab E0 S.Aq [.sl (tb.map Col.cells),.fn S.CH [.p 0 0]] [.box [sv n]] (iv (idxF (fun t=>colC t n) tb 0)) [.box [sv n]]:=by
 exact zfX E0ok mix0 At.Aq rfl kr kr 3000 (c':=zwc tb n (0:Nat)) [] [0,1,7,8] 1 kr kr (by simpa using zxn tb n hl tb.length 0 Zs)
def zaJ (tb:List Tb) (n:Str):Option Tb:=tb.find? fun t=>zan t n
theorem zgz (tb:List Tb) (n:Str) (hl:zac tb) (t:Tb) (h:zaJ tb n=some t):Pure S.BO [tsl tb,sv n] (.tup [t.av,bv true]):=by
 have hk:=zdO tb n hl
 rcases zdz (fun t=>zan t n) tb 0 with ⟨_,h2⟩|⟨j,y,h1,hx,h3⟩
 ·rw [zaJ,h2] at h;cases h
 rw [zaJ,h3] at h
 cases h
 rw [Nat.zero_add] at h1
 rw [h1] at hk
 have h4:decide (((j:Nat):Int) < 0)=false:=by simp
 exact walk E0ok mix0 At.BO rfl kr kr 3000 (y:=AV.tup [AV.agg [AV.v (Value.string t.sch.name),ZC t.sch.cols,AV.v (Value.int IntKind.i64 t.next),ZW t.rows],AV.v (Value.bool true)]) [sl [(0:Nat)] (hk ),sb Zf,se (zae Tb.cells hx rfl)] kr (rfl)
def Tb.zero:Tb:=⟨⟨⟨#[]⟩,[]⟩,0,[]⟩
theorem zgy (tb:List Tb) (n:Str) (hl:zac tb) (h:zaJ tb n=none):Pure S.BO [tsl tb,sv n] (.tup [Tb.zero.av,bv false]):=by
 have hk:=zdO tb n hl
 rcases zdz (fun t=>zan t n) tb 0 with ⟨h1,_⟩|⟨j,y,h1,hx,h3⟩
 ·rw [h1] at hk
  exact walk E0ok mix0 At.BO rfl kr kr 3000 (y:=AV.tup [AV.agg [AV.v (Value.string Zs0),AV.sl [],AV.v (Value.int IntKind.i64 (0:Int)),AV.sl []],AV.v (Value.bool false)]) [sl [(0:Nat)] (hk ),sb Zt] kr (rfl)
 ·rw [zaJ,h3] at h;cases h
theorem zbU (s:Sch) (n:Str) (hl:zac s.cols):Pure S.DE [s.av,sv n] (iv (idxF (fun c=>colC c n) s.cols 0)):=by
 exact walk E0ok mix0 At.DE rfl kr kr 3000 (y:=AV.v (Value.int IntKind.i64 (idxF (fun t=>colC t n) s.cols (0:Nat)))) [sl [(1:Nat)] (zhc s.cols n (by first|assumption|(simp;done)|omega|(simp;omega)))] kr (rfl)
def zeT (kind op:Int) (xs:List X) (qs:List Qy) (it wh:List X):Bool :=
 bif kind==1 then
  bif (↑(zad xs).length:Int) != 0 then
   false
  else
   bif (↑(zah qs).length:Int) != 0 then
    false
   else
    true
 else
  bif kind==2 then
   bif (↑(zad xs).length:Int) != 0 then
    false
   else
    bif (↑(zah qs).length:Int) != 0 then
     false
    else
     true
  else
   bif kind==3 then
    bif (↑(zad xs).length:Int) != 1 then
     false
    else
     bif (↑(zah qs).length:Int) != 0 then
      false
     else
      true
   else
    bif kind==4 then
     bif (↑(zad xs).length:Int) != 1 then
      false
     else
      bif (↑(zah qs).length:Int) != 0 then
       false
      else
       true
    else
     bif kind==6 then
      bif (↑(zad xs).length:Int) != 1 then
       false
      else
       bif (↑(zah qs).length:Int) != 0 then
        false
       else
        true
     else
      bif kind==5 then
       bif decide (op < 1) then
        false
       else
        bif decide (13 < op) then
         false
        else
         bif (↑(zad xs).length:Int) != 2 then
          false
         else
          bif (↑(zah qs).length:Int) != 0 then
           false
          else
           true
      else
       bif kind==7 then
        bif (↑(zad xs).length:Int) != 3 then
         false
        else
         bif (↑(zah qs).length:Int) != 0 then
          false
         else
          true
       else
        bif kind==8 then
         bif (↑(zad xs).length:Int) != 0 then
          false
         else
          bif (↑(zah qs).length:Int) != 1 then
           false
          else
           bif (↑(zad it).length:Int)==0 then
            decide ((↑(zad wh).length:Int)<=(1:Int))
           else
            false
        else
         bif kind==9 then
          bif (↑(zad xs).length:Int) != 0 then
           false
          else
           bif (↑(zah qs).length:Int) != 1 then
            false
           else
            bif (↑(zad it).length:Int)==0 then
             decide ((↑(zad wh).length:Int)<=(1:Int))
            else
             false
         else
          bif kind==10 then
           bif (↑(zad xs).length:Int) != 0 then
            false
           else
            bif (↑(zah qs).length:Int) != 1 then
             false
            else
             bif (↑(zad it).length:Int)==1 then
              decide ((↑(zad wh).length:Int)<=(1:Int))
             else
              false
          else
           bif kind==11 then
            bif (↑(zad xs).length:Int) != 0 then
             false
            else
             bif (↑(zah qs).length:Int) != 1 then
              false
             else
              bif (↑(zad it).length:Int)==1 then
               decide ((↑(zad wh).length:Int)<=(1:Int))
              else
               false
           else
            bif kind==12 then
             bif (↑(zad xs).length:Int) != 0 then
              false
             else
              bif (↑(zah qs).length:Int) != 1 then
               false
              else
               bif (↑(zad it).length:Int)==1 then
                decide ((↑(zad wh).length:Int)<=(1:Int))
               else
                false
            else
             false
theorem znf (kind op:Int) (xs:List X) (qs:List Qy) (it wh:List X) (nt:Bool) (val:V) (tn nm:Str) (st:Bool) (fm:Str) (hq:qs[0]?=some (Qy.mk st it fm wh)):zab E0 S.Ac [X.av (.mk kind op nt val tn nm xs qs)] [] (bv (zeT kind op xs qs it wh)) []:=by
 unfold zeT
 cases h1:kind==1
 ·cases h2:kind==2
  ·cases h3:kind==3
   ·cases h4:kind==4
    ·cases h5:kind==6
     ·cases h6:kind==5
      ·let p_1:List St:=[sb h1,sb h2,sb h3,sb h4,sb h5,sb h6]
       cases h7:kind==7
       ·cases h8:kind==8
        ·cases h9:kind==9
         ·cases h10:kind==10
          ·cases h11:kind==11
           ·cases h12:kind==12
            ·exact wk At.Ac (p_1++[sb h7,sb h8,sb h9,sb h10,sb h11,sb h12]) kr
            ·let p_2:List St:=p_1++[sb h7,sb h8,sb h9,sb h10,sb h11,sb h12]
             cases h13:(↑(zad xs).length:Int) != 0
             ·cases h14:(↑(zah qs).length:Int) != 1
              ·let p_3:List St:=p_2++[sg h13,sb h14,sg Zf,se (zaB hq)]
               cases h15:(↑(zad it).length:Int)==1
               ·exact wk At.Ac (p_3++[sb h15]) kr
               ·exact wk At.Ac (p_3++[sg h15,se (zaB hq)]) kr
              ·exact wk At.Ac (p_2++[sg h13,sb h14]) kr
             ·exact wk At.Ac (p_2++[sb h13]) kr
           ·cases h16:(↑(zad xs).length:Int) != 0
            ·let p_4:List St:=p_1++[sb h7,sb h8,sb h9,sb h10,sb h11,sg h16]
             cases h17:(↑(zah qs).length:Int) != 1
             ·let p_5:List St:=p_4++[sb h17,sg Zf,se (zaB hq)]
              cases h18:(↑(zad it).length:Int)==1
              ·exact wk At.Ac (p_5++[sb h18]) kr
              ·exact wk At.Ac (p_5++[sg h18,se (zaB hq)]) kr
             ·exact wk At.Ac (p_4++[sb h17]) kr
            ·exact wk At.Ac (p_1++[sb h7,sb h8,sb h9,sb h10,sb h11,sb h16]) kr
          ·cases h19:(↑(zad xs).length:Int) != 0
           ·cases h20:(↑(zah qs).length:Int) != 1
            ·let p_6:List St:=p_1++[sb h7,sb h8,sb h9,sb h10,sg h19,sb h20,sg Zf,se (zaB hq)]
             cases h21:(↑(zad it).length:Int)==1
             ·exact wk At.Ac (p_6++[sb h21]) kr
             ·exact wk At.Ac (p_6++[sg h21,se (zaB hq)]) kr
            ·exact wk At.Ac (p_1++[sb h7,sb h8,sb h9,sb h10,sg h19,sb h20]) kr
           ·exact wk At.Ac (p_1++[sb h7,sb h8,sb h9,sb h10,sb h19]) kr
         ·cases h22:(↑(zad xs).length:Int) != 0
          ·cases h23:(↑(zah qs).length:Int) != 1
           ·let p_7:List St:=p_1++[sb h7,sb h8,sb h9,sg h22,sb h23,sg Zf,se (zaB hq)]
            cases h24:(↑(zad it).length:Int)==0
            ·exact wk At.Ac (p_7++[sb h24]) kr
            ·exact wk At.Ac (p_7++[sg h24,se (zaB hq)]) kr
           ·exact wk At.Ac (p_1++[sb h7,sb h8,sb h9,sg h22,sb h23]) kr
          ·exact wk At.Ac (p_1++[sb h7,sb h8,sb h9,sb h22]) kr
        ·cases h25:(↑(zad xs).length:Int) != 0
         ·cases h26:(↑(zah qs).length:Int) != 1
          ·let p_8:List St:=p_1++[sb h7,sb h8,sg h25,sb h26,sg Zf,se (zaB hq)]
           cases h27:(↑(zad it).length:Int)==0
           ·exact wk At.Ac (p_8++[sb h27]) kr
           ·exact wk At.Ac (p_8++[sg h27,se (zaB hq)]) kr
          ·exact wk At.Ac (p_1++[sb h7,sb h8,sg h25,sb h26]) kr
         ·exact wk At.Ac (p_1++[sb h7,sb h8,sb h25]) kr
       ·cases h28:(↑(zad xs).length:Int) != 3
        ·cases h29:(↑(zah qs).length:Int) != 0
         ·exact wk At.Ac (p_1++[sb h7,sg h28,sb h29,sb Zt]) kr
         ·exact wk At.Ac (p_1++[sb h7,sg h28,sb h29]) kr
        ·exact wk At.Ac (p_1++[sb h7,sb h28]) kr
      ·let p_9:List St:=[sb h1,sb h2,sb h3,sb h4,sb h5,sb h6]
       cases h30:decide (op < 1)
       ·cases h31:decide (13 < op)
        ·cases h32:(↑(zad xs).length:Int) != 2
         ·cases h33:(↑(zah qs).length:Int) != 0
          ·exact wk At.Ac (p_9++[sg h30,sb h31,sg h32,sb h33,sb Zt]) kr
          ·exact wk At.Ac (p_9++[sg h30,sb h31,sg h32,sb h33]) kr
         ·exact wk At.Ac (p_9++[sg h30,sb h31,sb h32]) kr
        ·exact wk At.Ac (p_9++[sg h30,sb h31]) kr
       ·exact wk At.Ac (p_9++[sb h30]) kr
     ·cases h34:(↑(zad xs).length:Int) != 1
      ·let p_10:List St:=[sb h1,sb h2,sb h3,sb h4,sb h5,sg h34]
       cases h35:(↑(zah qs).length:Int) != 0
       ·exact wk At.Ac (p_10++[sb h35,sb Zt]) kr
       ·exact wk At.Ac (p_10++[sb h35]) kr
      ·exact wk At.Ac [sb h1,sb h2,sb h3,sb h4,sb h5,sb h34] kr
    ·cases h36:(↑(zad xs).length:Int) != 1
     ·cases h37:(↑(zah qs).length:Int) != 0
      ·exact wk At.Ac [sb h1,sb h2,sb h3,sb h4,sg h36,sb h37,sb Zt] kr
      ·exact wk At.Ac [sb h1,sb h2,sb h3,sb h4,sg h36,sb h37] kr
     ·exact wk At.Ac [sb h1,sb h2,sb h3,sb h4,sb h36] kr
   ·cases h38:(↑(zad xs).length:Int) != 1
    ·cases h39:(↑(zah qs).length:Int) != 0
     ·exact wk At.Ac [sb h1,sb h2,sb h3,sg h38,sb h39,sb Zt] kr
     ·exact wk At.Ac [sb h1,sb h2,sb h3,sg h38,sb h39] kr
    ·exact wk At.Ac [sb h1,sb h2,sb h3,sb h38] kr
  ·cases h40:(↑(zad xs).length:Int) != 0
   ·cases h41:(↑(zah qs).length:Int) != 0
    ·exact wk At.Ac [sb h1,sb h2,sg h40,sb h41,sb Zt] kr
    ·exact wk At.Ac [sb h1,sb h2,sg h40,sb h41] kr
   ·exact wk At.Ac [sb h1,sb h2,sb h40] kr
 ·cases h42:(↑(zad xs).length:Int) != 0
  ·cases h43:(↑(zah qs).length:Int) != 0
   ·exact wk At.Ac [sb h1,sg h42,sb h43,sb Zt] kr
   ·exact wk At.Ac [sb h1,sg h42,sb h43] kr
  ·exact wk At.Ac [sb h1,sb h42] kr
def zeS (kind op:Int) (xs:List X):Bool :=
 bif kind==1 then
  bif (↑(zad xs).length:Int) != 0 then
   false
  else
   true
 else
  bif kind==2 then
   bif (↑(zad xs).length:Int) != 0 then
    false
   else
    true
  else
   bif kind==3 then
    bif (↑(zad xs).length:Int) != 1 then
     false
    else
     true
   else
    bif kind==4 then
     bif (↑(zad xs).length:Int) != 1 then
      false
     else
      true
    else
     bif kind==6 then
      bif (↑(zad xs).length:Int) != 1 then
       false
      else
       true
     else
      bif kind==5 then
       bif decide (op < 1) then
        false
       else
        bif decide (13 < op) then
         false
        else
         bif (↑(zad xs).length:Int) != 2 then
          false
         else
          true
      else
       bif kind==7 then
        bif (↑(zad xs).length:Int) != 3 then
         false
        else
         true
       else
        bif kind==8 then
         bif (↑(zad xs).length:Int) != 0 then
          false
         else
          false
        else
         bif kind==9 then
          bif (↑(zad xs).length:Int) != 0 then
           false
          else
           false
         else
          bif kind==10 then
           bif (↑(zad xs).length:Int) != 0 then
            false
           else
            false
          else
           bif kind==11 then
            bif (↑(zad xs).length:Int) != 0 then
             false
            else
             false
           else
            bif kind==12 then
             bif (↑(zad xs).length:Int) != 0 then
              false
             else
              false
            else
             false
theorem zne (kind op:Int) (xs:List X) (nt:Bool) (val:V) (tn nm:Str):zab E0 S.Ac [X.av (.mk kind op nt val tn nm xs [])] [] (bv (zeS kind op xs)) []:=by
 unfold zeS
 cases h1:kind==1
 ·cases h2:kind==2
  ·cases h3:kind==3
   ·cases h4:kind==4
    ·cases h5:kind==6
     ·cases h6:kind==5
      ·let p_1:List St:=[sb h1,sb h2,sb h3,sb h4,sb h5,sb h6]
       cases h7:kind==7
       ·cases h8:kind==8
        ·cases h9:kind==9
         ·cases h10:kind==10
          ·cases h11:kind==11
           ·cases h12:kind==12
            ·exact wk At.Ac (p_1++[sb h7,sb h8,sb h9,sb h10,sb h11,sb h12]) kr
            ·let p_2:List St:=p_1++[sb h7,sb h8,sb h9,sb h10,sb h11,sb h12]
             cases h13:(↑(zad xs).length:Int) != 0
             ·exact wk At.Ac (p_2++[sg h13,sb Zt]) kr
             ·exact wk At.Ac (p_2++[sb h13]) kr
           ·cases h14:(↑(zad xs).length:Int) != 0
            ·exact wk At.Ac (p_1++[sb h7,sb h8,sb h9,sb h10,sb h11,sg h14,sb Zt]) kr
            ·exact wk At.Ac (p_1++[sb h7,sb h8,sb h9,sb h10,sb h11,sb h14]) kr
          ·cases h15:(↑(zad xs).length:Int) != 0
           ·exact wk At.Ac (p_1++[sb h7,sb h8,sb h9,sb h10,sg h15,sb Zt]) kr
           ·exact wk At.Ac (p_1++[sb h7,sb h8,sb h9,sb h10,sb h15]) kr
         ·cases h16:(↑(zad xs).length:Int) != 0
          ·exact wk At.Ac (p_1++[sb h7,sb h8,sb h9,sg h16,sb Zt]) kr
          ·exact wk At.Ac (p_1++[sb h7,sb h8,sb h9,sb h16]) kr
        ·cases h17:(↑(zad xs).length:Int) != 0
         ·exact wk At.Ac (p_1++[sb h7,sb h8,sg h17,sb Zt]) kr
         ·exact wk At.Ac (p_1++[sb h7,sb h8,sb h17]) kr
       ·cases h18:(↑(zad xs).length:Int) != 3
        ·exact wk At.Ac (p_1++[sb h7,sg h18,sb Zf,sb Zt]) kr
        ·exact wk At.Ac (p_1++[sb h7,sb h18]) kr
      ·let p_3:List St:=[sb h1,sb h2,sb h3,sb h4,sb h5,sb h6]
       cases h19:decide (op < 1)
       ·cases h20:decide (13 < op)
        ·cases h21:(↑(zad xs).length:Int) != 2
         ·exact wk At.Ac (p_3++[sg h19,sb h20,sg h21,sb Zf,sb Zt]) kr
         ·exact wk At.Ac (p_3++[sg h19,sb h20,sb h21]) kr
        ·exact wk At.Ac (p_3++[sg h19,sb h20]) kr
       ·exact wk At.Ac (p_3++[sb h19]) kr
     ·cases h22:(↑(zad xs).length:Int) != 1
      ·exact wk At.Ac [sb h1,sb h2,sb h3,sb h4,sb h5,sg h22,sb Zf,sb Zt] kr
      ·exact wk At.Ac [sb h1,sb h2,sb h3,sb h4,sb h5,sb h22] kr
    ·cases h23:(↑(zad xs).length:Int) != 1
     ·exact wk At.Ac [sb h1,sb h2,sb h3,sb h4,sg h23,sb Zf,sb Zt] kr
     ·exact wk At.Ac [sb h1,sb h2,sb h3,sb h4,sb h23] kr
   ·cases h24:(↑(zad xs).length:Int) != 1
    ·exact wk At.Ac [sb h1,sb h2,sb h3,sg h24,sb Zf,sb Zt] kr
    ·exact wk At.Ac [sb h1,sb h2,sb h3,sb h24] kr
  ·cases h25:(↑(zad xs).length:Int) != 0
   ·exact wk At.Ac [sb h1,sb h2,sg h25,sb Zf,sb Zt] kr
   ·exact wk At.Ac [sb h1,sb h2,sb h25] kr
 ·cases h26:(↑(zad xs).length:Int) != 0
  ·exact wk At.Ac [sb h1,sg h26,sb Zf,sb Zt] kr
  ·exact wk At.Ac [sb h1,sb h26] kr
theorem zfo {p:Prop} (h:p:=by first|assumption|omega|(simp;done)|(simp;omega)):p:=h
def modI (v n:Int):Int:=bif decide (v.tmod n < 0) then IntKind.i64.wrap (v.tmod n+n) else v.tmod n
theorem zuX (v n:Int) (hn:n≠0):Pure S.Dy [iv v,iv n] (iv (modI v n)):=by
 unfold modI
 cases h1:decide (v.tmod n < (0:Int))
 ·exact wk At.Dy [sx (.i (v.tmod n)) (show ¬n=(0:Int)/\(v.tmod n:Int)=v.tmod n from ⟨hn,rfl⟩),sb h1] kr
 ·exact wk At.Dy [sx (.i (v.tmod n)) (show ¬n=(0:Int)/\(v.tmod n:Int)=v.tmod n from ⟨hn,rfl⟩),sb h1,si (e:=IntKind.i64.wrap (v.tmod n+n)) rfl] kr
def Tp.next (t:Tp) (n:Int):Nat × Tp:=match t.l[t.pos]? with
 | some x=>((modI x n).toNat,⟨t.l,t.pos+1,t.ok⟩)
 | none=>(0,t)
theorem zo3 (v n:Int) (hn:0 < n) (hv:n<=9223372036854775807):0<=modI v n/\modI v n < n:=by
 unfold modI
 have h1:=Int.tmod_lt_of_pos v hn
 have h2:-n < v.tmod n:=by
  have:=Int.tmod_lt_of_pos (-v) hn
  rw [Int.neg_tmod] at this;omega
 cases h:decide (v.tmod n < 0)
 ·simp at h;simp;omega
 ·simp at h;simp only [cond_true];rw [IntKind.wrap_i64];omega
theorem Tp.next_lt (t:Tp) (n:Int) (hn:0 < n) (hv:n<=9223372036854775807):((t.next n).1:Int) < n:=by
 unfold Tp.next
 split
 ·have:=zo3 ‹_› n hn hv
  simp;omega
 ·simpa using hn
abbrev Pos (n:Int):Prop:=0 < n/\n<=9223372036854775807
theorem zmt (i:Nat) (h:i < 9223372036854775806):IntKind.i64.wrap (((i+1:Nat):Int) - 1)=((i:Nat):Int):=by
 rw [IntKind.wrap_i64];omega
theorem zBf (t:Tp) (n:Int) (hx:t.l.length<=t.pos):zab E0 S.B1 [.p 0 0,iv n] [.box t.cells] (iv 0) [.box t.cells]:=by
 have h0:decide ((((t.l.map fun n=>[iv n]).length:Nat):Int)<=((t.pos:Nat):Int))=true:=by simp;omega
 exact wk At.B1 [sd [],sb h0] kr
theorem zkf (t:Tp) (n:Int) (x:Int) (hn:n≠0) (hx:t.l[t.pos]?=some x) (h0:decide ((((t.l.map fun n=>[iv n]).length:Nat):Int)<=((t.pos:Nat):Int))=false) (hw:IntKind.i64.wrap ((t.pos:Int)+1)=((t.pos+1:Nat):Int)) (hw2:IntKind.i64.wrap (((t.pos+1:Nat):Int) - 1)=((t.pos:Nat):Int)):∃ (a:Int),a=modI x n/\zab E0 S.B1 [.p 0 0,iv n] [.box t.cells] (iv a) [.box (Tp.cells ⟨t.l,t.pos+1,t.ok⟩)]:=by
 exact ⟨modI x n,by first|assumption|trivial|(simp;done)|omega|(simp;omega)|(simp at *;omega),wk At.B1 [sd [],sb h0,si hw,sd [(8,[si hw2]),(9,[se (zae (fun n=>[iv n]) hx rfl)]),(12,[sc (zuX x n zfo)])]] kr⟩
theorem c_next (t:Tp) (n:Int) (hn:Pos n):zab E0 S.B1 [.p 0 0,iv n] [.box t.cells] (iv ((t.next n).1:Nat)) [.box (t.next n).2.cells]:=by
 unfold Tp.next
 cases hx:t.l[t.pos]? with
 | none=>exact zBf t n (by simpa using hx)
 | some x =>
  have hl:=zbu hx
  have ho:=t.ok
  obtain ⟨a,rfl,hc⟩:=zkf t n x Zo hx Zp (zaL t.pos Zo) (zmt t.pos Zo)
  have h2:=zo3 x n hn.1 hn.2
  simp only
  rw [Int.toNat_of_nonneg h2.1]
  exact hc
theorem zai (t:Tp) (n:Int) (hn:Pos n):∃ (a:Nat) (t':Tp),(a:Int) < n/\zab E0 S.B1 [.p 0 0,iv n] [.box t.cells] (iv a) [.box t'.cells] :=
 ⟨_,_,t.next_lt n hn.1 hn.2,c_next t n hn⟩
abbrev I64 (n:Int):Prop:=-9223372036854775808<=n/\n<=9223372036854775807
theorem zcY (n:Int):I64 (IntKind.i64.wrap n):=by simp only [I64];rw [IntKind.wrap_i64];omega
theorem zal (t:Tp) (n:Int) (hn:Pos n):∃ (b:Bool) (t':Tp),zab E0 S.Dg [.p 0 0,iv n] [.box t.cells] (bv b) [.box t'.cells]:=by
 obtain ⟨a1,t1,q1,c1⟩:=(zai t n zfo)
 exact ⟨(a1:Int)==IntKind.i64.wrap (n - 1),t1,wk At.Dg [sl [0] c1,si (e:=IntKind.i64.wrap (n - 1)) rfl] kr⟩
theorem zaX (t:Tp) :∃ (a:Int) (t':Tp),(-3<=a/\a<=12)/\zab E0 S.De [.p 0 0] [.box t.cells] (iv a) [.box t'.cells]:=by
 obtain ⟨a1,t1,q1,c1⟩:=(zai t 16 zfo)
 exact ⟨IntKind.i64.wrap ((a1:Int) - 3),t1,by rw [IntKind.wrap_i64];omega,wk At.De [sl [0] c1,si (e:=IntKind.i64.wrap ((a1:Int) - 3)) rfl] kr⟩
theorem zlr (t:Tp) :∃ (a:Int) (t':Tp),I64 a/\zab E0 S.B3 [.p 0 0] [.box t.cells] (iv a) [.box t'.cells]:=by
 obtain ⟨a1,t1,q1,c1⟩:=(zai t 8 zfo)
 cases h2:(a1:Int)==0
 ·cases h3:(a1:Int)==1
  ·cases h4:(a1:Int)==2
   ·obtain ⟨a5,t5,q5,c5⟩:=(zai t1 9 zfo)
    exact ⟨(a5:Int),t5,by first|exact zcY _|(simp only [I64];omega),wk At.B3 [sl [0] c1,sb h2,sb h3,sb h4,sl [0] c5] kr⟩
   ·obtain ⟨a6,t6,q6,c6⟩:=(zai t1 9 zfo)
    exact ⟨IntKind.i64.wrap (-(a6:Int)),t6,by first|exact zcY _|(simp only [I64];omega),wk At.B3 [sl [0] c1,sb h2,sb h3,sb h4,sl [0] c6,si (e:=IntKind.i64.wrap (-(a6:Int))) rfl] kr⟩
  ·obtain ⟨a7,t7,q7,c7⟩:=(zai t1 3 zfo)
   exact ⟨IntKind.i64.wrap (-9223372036854775808+(a7:Int)),t7,by first|exact zcY _|(simp only [I64];omega),wk At.B3 [sl [0] c1,sb h2,sb h3,sl [0] c7,si (e:=IntKind.i64.wrap (-9223372036854775808+(a7:Int))) rfl] kr⟩
 ·obtain ⟨a8,t8,q8,c8⟩:=(zai t1 3 zfo)
  exact ⟨IntKind.i64.wrap (9223372036854775807 - (a8:Int)),t8,by first|exact zcY _|(simp only [I64];omega),wk At.B3 [sl [0] c1,sb h2,sl [0] c8,si (e:=IntKind.i64.wrap (9223372036854775807 - (a8:Int))) rfl] kr⟩
def zms (i:Nat):Str:=zeq.getD i ⟨#[]⟩
theorem zBa (i:Nat) (h:(i:Int) < 6):ArrAt (zeq.map sv) i 6 [sv (zms i)] 1:=by
 have h:i=0\/i=1\/i=2\/i=3\/i=4\/i=5:=by omega
 rcases h with rfl|rfl|rfl|rfl|rfl|rfl <;> exact ⟨by decide,by decide,rfl,rfl⟩
theorem zBp (i:Nat) (h:(i:Int) < 6):ArrAt (zeq.map sv) i 6 [sv (zms i)] 1:=zBa i h
theorem zCe (i:Nat):zms i∈zeq:=by
 unfold zms
 rw [List.getD_eq_getElem?_getD]
 cases h:zeq[i]? with
 | none=>simp [zeq,zfk]
 | some x=>exact List.mem_of_getElem? h
theorem zni (t:Tp) :∃ (w:Str) (t':Tp),w∈zeq/\zab E0 S.Dh [.p 0 0] [.box t.cells] (sv w) [.box t'.cells]:=by
 obtain ⟨a1,t1,q1,c1⟩:=(zai t 6 zfo)
 exact ⟨zms a1,t1,by exact zCe _,wk At.Dh [sl [0] c1,sa (zBp a1 zfo)] kr⟩
structure V.Good (v:V):Prop where
 valid:zaW v=true
 i64:I64 v.int
 small:v.small
theorem zbI {n:Int} (h:I64 n):V.Good ⟨1,n,⟨#[]⟩⟩:=⟨by kernel_rfl,h,zj1⟩
theorem zaH:V.Good ⟨0,0,⟨#[]⟩⟩:=⟨by kernel_rfl,by decide,zj1⟩
theorem zeU {n:Nat} (h:(n:Int) < 2):V.Good ⟨2,n,⟨#[]⟩⟩:=by
 have:n=0\/n=1:=by omega
 rcases this with rfl|rfl <;> exact ⟨by kernel_rfl,by decide,zj1⟩
theorem ziE {w:Str} (h:w∈zeq):V.Good ⟨3,0,w⟩:=by
 simp only [zeq,List.mem_cons,List.not_mem_nil,or_false] at h
 rcases h with rfl|rfl|rfl|rfl|rfl|rfl <;> exact ⟨by kernel_rfl,by decide,by decide⟩
abbrev zbz (k:Int):Int:=if k=1\/k=2\/k=3 then k else 0
theorem zaQ (t:Tp) (kind:Int) :∃ (v:V) (t':Tp),(v.kind=zbz kind/\v.Good)/\zab E0 S.B8 [.p 0 0,iv kind] [.box t.cells] v.av [.box t'.cells]:=by
 cases h1:kind==1
 ·cases h2:kind==2
  ·cases h3:kind==3
   ·exact ⟨V.mk 0 0 Zs0,t,by first|exact ⟨by simp_all [zbz],zbI ‹_›⟩|exact ⟨by simp_all [zbz],zeU ‹_›⟩|exact ⟨by simp_all [zbz],ziE ‹_›⟩|exact ⟨by simp_all [zbz],zaH⟩,wk At.B8 [sb h1,sb h2,sb h3] kr⟩
   ·obtain ⟨w4,t4,q4,c4⟩:=(zni t)
    exact ⟨V.mk 3 0 w4,t4,by first|exact ⟨by simp_all [zbz],zbI ‹_›⟩|exact ⟨by simp_all [zbz],zeU ‹_›⟩|exact ⟨by simp_all [zbz],ziE ‹_›⟩|exact ⟨by simp_all [zbz],zaH⟩,wk At.B8 [sb h1,sb h2,sb h3,sl [0] c4] kr⟩
  ·obtain ⟨a5,t5,q5,c5⟩:=(zai t 2 zfo)
   exact ⟨V.mk 2 (a5:Int) Zs0,t5,by first|exact ⟨by simp_all [zbz],zbI ‹_›⟩|exact ⟨by simp_all [zbz],zeU ‹_›⟩|exact ⟨by simp_all [zbz],ziE ‹_›⟩|exact ⟨by simp_all [zbz],zaH⟩,wk At.B8 [sb h1,sb h2,sl [0] c5] kr⟩
 ·obtain ⟨a6,t6,q6,c6⟩:=(zlr t)
  exact ⟨V.mk 1 a6 Zs0,t6,by first|exact ⟨by simp_all [zbz],zbI ‹_›⟩|exact ⟨by simp_all [zbz],zeU ‹_›⟩|exact ⟨by simp_all [zbz],ziE ‹_›⟩|exact ⟨by simp_all [zbz],zaH⟩,wk At.B8 [sb h1,sl [0] c6] kr⟩
def xLit (v:V):X :=
 X.mk 1 0 false v Zs0 Zs0 [] []
theorem zaO (v:V) :zab E0 S.DJ [v.av] [] ((xLit v).av) []:=by
 exact wk At.DJ [] kr
def xCol (t n:Str):X :=
 X.mk 2 0 false (V.mk 0 0 Zs0) t n [] []
theorem zi3 (t n:Str) :zab E0 S.DL [sv t,sv n] [] ((xCol t n).av) []:=by
 exact wk At.DL [] kr
def xBin (op:Int) (a b:X):X :=
 X.mk 5 op false (V.mk 0 0 Zs0) Zs0 Zs0 [a,b] []
theorem zbL (op:Int) (a b:X) :zab E0 S.DK [iv op,a.av,b.av] [] ((xBin op a b).av) []:=by
 unfold xBin
 exact (by (try simp only [X.av,Qy.av,xsl,zei,ze8,zgf,zg4,X.cells,Qy.cells,X.args_mk,X.sub_mk,Qy.items_mk,Qy.wh_mk]);exact wk At.DK [] kr)
end Go.AM
namespace Go.AM
open Go.RowKit
section
variable {E : Env0}
end
theorem zrn {E:Env0} {fn:Func} {h0:Heap} {c c':Cfg} {R:AV->Heap->Prop} (b i:Nat) (live:List Nat) (m:Nat) {cs:List AV} (hb:c.h[b]?=some (.box cs)) (hi:cs[i]?=some .nl) (hm:Nat.ble h0.length m=true)
  (he:cut live m ⟨c.n,c.todo,c.ts,c.h.set b (.box (cs.set i (.sl [])))⟩=c') (hg:Good E fn h0 c' R):Good E fn h0 c R:=by
 have hg':=zdi live m (Nat.le_of_ble_eq_true hm) (he ▸ hg)
 intro β0 S0 w0 β S w tmps hb0 hn x0 r rt
 have x2:=zfa (β:=β) (S:=S) (w:=w) hb (cs.set i (.sl []))
 have r2:=r.setBox hb (cs.set i (.sl [])) (fun g' vs' t' e2 e3 e4 e5=>by
  refine ⟨by simpa using e4,fun j x' y hx hy=>?_⟩
  by_cases hij:i=j
  ·subst hij
   rw [List.getElem?_set_self (List.getElem?_eq_some_iff.1 hi).1] at hx
   cases hx
   have:=e5 i .nl y hi hy
   refine ⟨?_,this.2⟩
   obtain ⟨a,rfl⟩:=zky this.1
   exact .d _ _ (.sl [] a 0 0 0 0 (fun _=>undef) (fun hn=>absurd rfl hn) (Nat.le_refl _) (Nat.zero_le _) Zs Zs Zs)
  ·rw [List.getElem?_set_ne hij] at hx
   exact e5 j x' y hx hy)
 exact hg' β0 S0 w0 β S w tmps hb0 hn (x0.trans x2) r2 fun t'=>(rt t').ext x2
end Go.AM
namespace Go.AM
inductive Ct where
 | fz (t:Nat)
 | os (t:Nat)
 | bl (t:Nat)
 | bx (k q:Nat)
 | nl (k q:Nat)
 | ot (t:Nat) (e:TypeId)
 | ob (k q:Nat) (e:TypeId)
def ctM (live:List Nat) (m:Nat) (x:Ct) (c:Cfg):Option (List Prop × Cfg):=match x with
 | .fz t=>some ([frzO c.h (look c.ts t)],cut live m ⟨c.n,c.todo,(t,frz c.h (look c.ts t))::c.ts,share c.h (frzM (look c.ts t))⟩)
 | .os t=>match look c.ts t with
  | .own b n=>some ([],cut live m ⟨c.n,c.todo,(t,.os b n 0 n)::c.ts,c.h⟩)
  | _=>none
 | .bl t=>match look c.ts t with
  | .bl b=>some ([],cut live m ⟨c.n,c.todo,(t,.v (.bool b))::c.ts,c.h⟩)
  | _=>none
 | .bx k q=>match c.h[k]? with
  | some (.box cs)=>match cs[q]? with
   | some (.bl b)=>some ([],cut live m ⟨c.n,c.todo,c.ts,c.h.set k (.box (cs.set q (.v (.bool b))))⟩)
   | _=>none
  | _=>none
 | .nl k q=>match c.h[k]? with
  | some (.box cs)=>match cs[q]? with
   | some .nl=>some ([],cut live m ⟨c.n,c.todo,c.ts,c.h.set k (.box (cs.set q (.sl [])))⟩)
   | _=>none
  | _=>none
 | .ot t e=>match look c.ts t with
  | .nl=>some ([],cut live m ⟨c.n,c.todo,(t,.own c.h.length 0)::c.ts,c.h++[Blk.row e [] false]⟩)
  | _=>none
 | .ob k q e=>match c.h[k]? with
  | some (.box cs)=>match cs[q]? with
   | some .nl=>some ([],cut live m ⟨c.n,c.todo,c.ts,(c.h++[Blk.row e [] false]).set k (.box (cs.set q (.own c.h.length 0)))⟩)
   | _=>none
  | _=>none
theorem ctM_ok {E:Env0} {fn:Func} {h0:Heap} {c c':Cfg} {R:AV->Heap->Prop} {live:List Nat} {m:Nat} {x:Ct} {q:List Prop} (hm:Nat.ble h0.length m=true) (h:ctM live m x c=some (q,c')) (ho:allP q) (hg:Good E fn h0 c' R):Good E fn h0 c R:=by
 cases x with
 | fz t =>
  cases h
  exact zuA t live m rfl rfl ho hm rfl hg
 | os t =>
  simp only [ctM] at h
  split at h
  ·rename_i b n hl
   cases h
   exact zxe t b n live m hl hm rfl hg
  ·cases h
 | bl t =>
  simp only [ctM] at h
  split at h
  ·rename_i b hl
   cases h
   exact zxd t b live m hl hm rfl hg
  ·cases h
 | bx k q =>
  simp only [ctM] at h
  split at h
  ·rename_i cs hb
   split at h
   ·rename_i b hi
    cases h
    exact zrm k q b live m hb hi hm rfl hg
   ·cases h
  ·cases h
 | nl k q =>
  simp only [ctM] at h
  split at h
  ·rename_i cs hb
   split at h
   ·rename_i hi
    cases h
    exact zrn k q live m hb hi hm rfl hg
   ·cases h
  ·cases h
 | ot t e =>
  simp only [ctM] at h
  split at h
  ·rename_i hl
   cases h
   exact znn t e live m hl hm rfl hg
  ·cases h
 | ob k q e =>
  simp only [ctM] at h
  split at h
  ·rename_i cs hb
   split at h
   ·rename_i hi
    cases h
    exact zcL k q e live m hb hi hm rfl hg
   ·cases h
  ·cases h
def cts (live:List Nat) (n0:Nat):List (Ct × Nat)->List Prop->Cfg->Option (List Prop × Cfg)
 | [],q,c=>some (q,c)
 | (x,m)::r,q,c=>match Nat.ble n0 m,ctM live m x c with
  | true,some (q1,c1)=>cts live n0 r (q++q1) c1
  | _,_=>none
theorem zd3:∀ {a b:List Prop},allP (a++b)->allP a/\allP b
 | [],_,h=>⟨trivial,h⟩
 | [_],[],h=>⟨h,trivial⟩
 | [_],_::_,h=>⟨h.1,h.2⟩
 | _::q::r,b,h=>by
  have:=zd3 (a:=q::r) (b:=b) h.2
  exact ⟨⟨h.1,this.1⟩,this.2⟩
theorem zjE {live:List Nat} {n0:Nat}:∀ {l:List (Ct × Nat)} {q q':List Prop} {c c':Cfg},cts live n0 l q c=some (q',c')->∃ q2,q'=q++q2
 | [],_,_,_,_,h=>by
  cases h
  exact ⟨[],by simp⟩
 | (x,m)::r,q,q',c,c',h=>by
  simp only [cts] at h
  split at h
  ·rename_i q1 c1 _ _
   obtain ⟨q2,h2⟩:=zjE h
   exact ⟨q1++q2,by rw [h2,List.append_assoc]⟩
  ·cases h
theorem zoC {E:Env0} {fn:Func} {h0:Heap} {R:AV->Heap->Prop} {live:List Nat}:∀ {l:List (Ct × Nat)} {q q':List Prop} {c c':Cfg},cts live h0.length l q c=some (q',c')->allP q'->Good E fn h0 c' R->Good E fn h0 c R
 | [],_,_,_,_,h,_,hg=>by
  cases h
  exact hg
 | (x,m)::r,q,q',c,c',h,ho,hg=>by
  simp only [cts] at h
  split at h
  ·rename_i q1 c1 hm hc
   obtain ⟨q2,h2⟩:=zjE h
   have h3:allP q1:=by
    rw [h2] at ho
    exact (zd3 (zd3 ho).1).2
   exact ctM_ok hm hc h3 (zoC h ho hg)
  ·cases h
noncomputable def zpF (fn:Func) (args:List AV) (h:Heap) (live:List Nat) (m:Nat) (k:List (Ct × Nat)) (os:List Orc):Option (List Prop × Cfg) :=
 match zkW fn args h live m os with
 | some (q,c)=>cts live h.length k q c
 | none=>none
noncomputable def zzE (h0:Heap) (live:List Nat) (m:Nat) (k:List (Ct × Nat)) (c:Cfg) (os:List Orc):Option (List Prop × Cfg) :=
 match zkV h0 live m c os with
 | some (q,c)=>cts live h0.length k q c
 | none=>none
theorem zmq {fn:Func} {h0:Heap} {c c':Cfg} {R:AV->Heap->Prop} {live:List Nat} {m:Nat} {os:List Orc} {q:List Prop} (hm:Nat.ble h0.length m=true) (hu:upto (mk E0) live m 3000 c os=(q,c')) (hq:allP q) (hg:Good E0 fn h0 c' R):Good E0 fn h0 c R:=by
 unfold upto at hu
 have h1:(run (mk E0) 3000 c os).1=q:=by
  have:=congrArg Prod.fst hu
  exact this
 have h2:cut live m (run (mk E0) 3000 c os).2.1=c':=congrArg Prod.snd hu
 exact zmL E0ok mix0 3000 os live m hm h1 h2 hq hg
theorem wklN {fn:Func} {R:AV->Heap->Prop} {h0:Heap} {c c':Cfg} (l:List St) (live:List Nat) (m:Nat) (k:List (Ct × Nat)) (hu:zzE h0 live m k c (orcs l)=some (zbl l,c')) (hg:Good E0 fn h0 c' R):Good E0 fn h0 c R:=by
 unfold zzE at hu
 split at hu
 ·rename_i q c1 h1
  unfold zkV at h1
  split at h1
  ·rename_i hm
   obtain ⟨q2,h2⟩:=zjE hu
   have h3:=zbb l
   have h4:allP q:=by
    rw [h2] at h3
    exact (zd3 h3).1
   exact zmq hm (Option.some.inj h1) h4 (zoC hu h3 hg)
  ·cases h1
 ·cases hu
theorem wkcN {f:FuncId} {fn:Func} {args:List AV} {h:Heap} {R:AV->Heap->Prop} {c':Cfg} (hf:E0.P.funcs[f]?=some fn) (l:List St) (live:List Nat) (m:Nat) (k:List (Ct × Nat)) (hu:zpF fn args h live m k (orcs l)=some (zbl l,c'))
  (hg:Good E0 fn h c' (Shut h.length R)):zbG E0 f args h R:=by
 unfold zpF at hu
 split at hu
 ·rename_i q c1 h1
  unfold zkW at h1
  split at h1
  ·rename_i c hb hn ha hm
   obtain ⟨q2,h2⟩:=zjE hu
   have h3:=zbb l
   have h4:allP q:=by
    rw [h2] at h3
    exact (zd3 h3).1
   exact zeh (za6 hf hb hn (Nat.le_of_ble_eq_true ha) (zmq hm (Option.some.inj h1) h4 (zoC hu h3 hg)))
  ·cases h1
 ·cases hu
theorem zhg {p:Prop} (h:p:=by first|exact hI.push hx (zyb ‹_›)|exact hI.push hx (zu8 ‹_› ‹_› ‹_›)|exact hI.push hx (zu9 (hc _ (List.mem_of_getElem? hx)) ‹_›)):p:=h
theorem zrW {p:Prop} (h:p:=by first|assumption|omega|(simp;done)|(simp;omega)):p:=h
theorem zrX {p:Prop} (h:p:=by first|assumption|exact PrefOk.nil _|omega):p:=h
structure ValOk (c:Col) (v:V):Prop where
 good:v.Good
 kind:v.kind=0\/v.kind=c.type
 nn:c.notNull=true->v.kind=c.type
abbrev zga (c:Col):Prop:=c.type=1\/c.type=2\/c.type=3
structure PrefOk (cols:List Col) (n:Nat) (vals:List V):Prop where
 len:vals.length=n
 at_:∀ (k:Nat) (c:Col) (v:V),cols[k]?=some c->vals[k]?=some v->ValOk c v
abbrev zde (cols:List Col) (vals:List V):Prop:=PrefOk cols cols.length vals
theorem PrefOk.nil (cols:List Col):PrefOk cols 0 []:=⟨rfl,fun k c v _ h=>by simp at h⟩
theorem PrefOk.push {cols:List Col} {n:Nat} {vals:List V} (h:PrefOk cols n vals) {c:Col} (hc:cols[n]?=some c) {v:V} (hv:ValOk c v):PrefOk cols (n+1) (vals++[v]):=by
 refine ⟨by simp [h.len],fun k c' v' h1 h2=>?_⟩
 by_cases hk:k < vals.length
 ·rw [List.getElem?_append_left hk] at h2
  exact h.at_ k c' v' h1 h2
 ·rw [List.getElem?_append_right Zo] at h2
  have hl:=h.len
  have:k - vals.length=0:=by
   rcases Nat.eq_zero_or_pos (k - vals.length) with h|h
   ·exact h
   ·rw [List.getElem?_eq_none Zp] at h2;cases h2
  rw [this] at h2
  simp only [List.getElem?_cons_zero,Option.some.injEq] at h2
  have:k=n:=by omega
  subst this
  rw [h1] at hc
  cases hc
  exact h2 ▸ hv
theorem zu9 {c:Col} {v:V} (ht:zga c) (h:v.kind=zbz c.type/\v.Good):ValOk c v:=by
 have:zbz c.type=c.type:=by simp only [zbz];exact if_pos ht
 exact ⟨h.2,.inr (h.1.trans this),fun _=>h.1.trans this⟩
theorem zuC {v:V} (h:v.Good) (hk:v.kind=1) {a:Int} (ha:I64 a):V.Good ⟨v.kind,a,v.text⟩:=by
 refine ⟨?_,ha,h.small⟩
 have:=h.valid
 simp only [zaW,hk] at this ⊢
 exact this
theorem zu8 {c:Col} {v:V} {a:Int} (h:v.kind=zbz c.type/\v.Good) (hc:(c.type==(1:Int))=true) (ha:-3<=a/\a<=12):ValOk c ⟨v.kind,a,v.text⟩:=by
 have e:c.type=1:=by simpa using hc
 have:v.kind=1:=by rw [h.1,e];rfl
 exact ⟨zuC h.2 this ⟨by omega,by omega⟩,.inr (by rw [e];exact this),fun _=>by rw [e];exact this⟩
theorem zyb {c:Col} (h:(!c.notNull)=true):ValOk c ⟨0,0,⟨#[]⟩⟩:=⟨zaH,.inl rfl,fun h'=>by rw [h'] at h;cases h⟩
noncomputable def L_row (t0:Tp) (s:Sch) (i:Nat) (t:Tp) (out:List V):Cfg:=zag B.B7 0 [(0,.p 0 0),(5,.own 1 out.length),(10,.sl (s.cols.map Col.cells)),(11,iv ((s.cols.map Col.cells).length:Nat)),(12,iv (i:Nat))] [.box t.cells,.row Ty.Value (out.map V.cells) false]
theorem Zcv0 {p:Prop} (h:p:=by first|rfl|(simp;done)|(simp [X.cells,Qy.cells,V.cells,Col.cells,Rw.cells,Tb.cells,Fr.cells,Sch.cells,Tp.cells,Pl.cells];done)):p:=h
theorem zgU (t0:Tp) (s:Sch) (hl:zac s.cols) (hc:∀ c∈s.cols,zga c) (i:Nat) (t:Tp) (out:List V) (hi:i<=(s.cols).length) (hI:PrefOk s.cols i out):∃ (t':Tp) (out':List V),(PrefOk s.cols (s.cols).length out')/\(decide ((((s.cols).length:Nat):Int) < (((s.cols.map Col.cells).length:Nat):Int))=false)/\∀ R,Good E0 B.B7 [.box t0.cells] (L_row t0 s (s.cols).length t' out') R->Good E0 B.B7 [.box t0.cells] (L_row t0 s i t out) R:=by
 have hk:=hi;revert i t out;refine zlp ((s.cols).length) (fun i hlt ih t out hi hI _=>?_)
 obtain ⟨x,hx,h0,hw⟩:=zlq (l:=s.cols) ((s.cols.map Col.cells).length) hlt
 have hlen:=hI.len
 obtain ⟨v1,t1,q1,c1⟩:=(zaQ t x.type)
 let p_1:List St:=[sb h0,se (zae Col.cells hx rfl),sl [0] c1]
 cases h2:x.type==1
 ·cases h3:!x.notNull
  ·obtain ⟨tZ,outZ,qZ,xZ,gZ⟩:=ih t1 (out++[v1]) Zo zhg Zo;exact ⟨tZ,outZ,qZ,xZ,fun R hg=>zaa (wkl (p_1++[sb h2,sb h3,sqA (List.map V.cells out) [[iv v1.kind,iv v1.int,sv v1.text]] out.length 3 32,si hw]) [0,5,10,11,12] 2 kr (zaw 5 1 (List.map V.cells out++[[iv v1.kind,iv v1.int,sv v1.text]]) (gZ R hg) (he:=Zcv0) (hm:=Zcv0)))⟩
  ·obtain ⟨b4,t4,c4⟩:=(zal t1 5 zrW)
   rcases (Bool.eq_false_or_eq_true b4).symm with h5|h5
   ·obtain ⟨tZ,outZ,qZ,xZ,gZ⟩:=ih t4 (out++[v1]) Zo zhg Zo;exact ⟨tZ,outZ,qZ,xZ,fun R hg=>zaa (wkl (p_1++[sb h2,sg h3,sl [0] c4,sb h5,sqA (List.map V.cells out) [[iv v1.kind,iv v1.int,sv v1.text]] out.length 3 32,si hw]) [0,5,10,11,12] 2 kr (zaw 5 1 (List.map V.cells out++[[iv v1.kind,iv v1.int,sv v1.text]]) (gZ R hg) (he:=Zcv0) (hm:=Zcv0)))⟩
   ·obtain ⟨tZ,outZ,qZ,xZ,gZ⟩:=ih t4 (out++[V.mk 0 0 Zs0]) Zo zhg Zo;exact ⟨tZ,outZ,qZ,xZ,fun R hg=>zaa (wkl (p_1++[sb h2,sg h3,sl [0] c4,sb h5,sqA (List.map V.cells out) [[iv 0,iv 0,sv Zs0]] out.length 3 32,si hw]) [0,5,10,11,12] 2 kr (zaw 5 1 (List.map V.cells out++[[iv 0,iv 0,sv Zs0]]) (gZ R hg) (he:=Zcv0) (hm:=Zcv0)))⟩
 ·obtain ⟨b6,t6,c6⟩:=(zal t1 9 zrW)
  cases h7:!b6
  ·cases h8:!x.notNull
   ·obtain ⟨tZ,outZ,qZ,xZ,gZ⟩:=ih t6 (out++[v1]) Zo zhg Zo;exact ⟨tZ,outZ,qZ,xZ,fun R hg=>zaa (wkl (p_1++[sg h2,sl [0] c6,sb h7,sb h8,sqA (List.map V.cells out) [[iv v1.kind,iv v1.int,sv v1.text]] out.length 3 32,si hw]) [0,5,10,11,12] 2 kr (zaw 5 1 (List.map V.cells out++[[iv v1.kind,iv v1.int,sv v1.text]]) (gZ R hg) (he:=Zcv0) (hm:=Zcv0)))⟩
   ·obtain ⟨b9,t9,c9⟩:=(zal t6 5 zrW)
    let p_2:List St:=p_1++[sg h2,sl [0] c6,sb h7,sg h8,sl [0] c9]
    rcases (Bool.eq_false_or_eq_true b9).symm with h10|h10
    ·obtain ⟨tZ,outZ,qZ,xZ,gZ⟩:=ih t9 (out++[v1]) Zo zhg Zo;exact ⟨tZ,outZ,qZ,xZ,fun R hg=>zaa (wkl (p_2++[sb h10,sqA (List.map V.cells out) [[iv v1.kind,iv v1.int,sv v1.text]] out.length 3 32,si hw]) [0,5,10,11,12] 2 kr (zaw 5 1 (List.map V.cells out++[[iv v1.kind,iv v1.int,sv v1.text]]) (gZ R hg) (he:=Zcv0) (hm:=Zcv0)))⟩
    ·obtain ⟨tZ,outZ,qZ,xZ,gZ⟩:=ih t9 (out++[V.mk 0 0 Zs0]) Zo zhg Zo;exact ⟨tZ,outZ,qZ,xZ,fun R hg=>zaa (wkl (p_2++[sb h10,sqA (List.map V.cells out) [[iv 0,iv 0,sv Zs0]] out.length 3 32,si hw]) [0,5,10,11,12] 2 kr (zaw 5 1 (List.map V.cells out++[[iv 0,iv 0,sv Zs0]]) (gZ R hg) (he:=Zcv0) (hm:=Zcv0)))⟩
  ·obtain ⟨a11,t11,q11,c11⟩:=(zaX t6)
   cases h12:!x.notNull
   ·obtain ⟨tZ,outZ,qZ,xZ,gZ⟩:=ih t11 (out++[V.mk v1.kind a11 v1.text]) Zo zhg Zo;exact ⟨tZ,outZ,qZ,xZ,fun R hg=>zaa (wkl (p_1++[sg h2,sl [0] c6,sb h7,sl [0] c11,sb h12,sqA (List.map V.cells out) [[iv v1.kind,iv a11,sv v1.text]] out.length 3 32,si hw]) [0,5,10,11,12] 2 kr (zaw 5 1 (List.map V.cells out++[[iv v1.kind,iv a11,sv v1.text]]) (gZ R hg) (he:=Zcv0) (hm:=Zcv0)))⟩
   ·obtain ⟨b13,t13,c13⟩:=(zal t11 5 zrW)
    let p_3:List St:=p_1++[sg h2,sl [0] c6,sb h7,sl [0] c11,sg h12,sl [0] c13]
    rcases (Bool.eq_false_or_eq_true b13).symm with h14|h14
    ·obtain ⟨tZ,outZ,qZ,xZ,gZ⟩:=ih t13 (out++[V.mk v1.kind a11 v1.text]) Zo zhg Zo;exact ⟨tZ,outZ,qZ,xZ,fun R hg=>zaa (wkl (p_3++[sb h14,sqA (List.map V.cells out) [[iv v1.kind,iv a11,sv v1.text]] out.length 3 32,si hw]) [0,5,10,11,12] 2 kr (zaw 5 1 (List.map V.cells out++[[iv v1.kind,iv a11,sv v1.text]]) (gZ R hg) (he:=Zcv0) (hm:=Zcv0)))⟩
    ·obtain ⟨tZ,outZ,qZ,xZ,gZ⟩:=ih t13 (out++[V.mk 0 0 Zs0]) Zo zhg Zo;exact ⟨tZ,outZ,qZ,xZ,fun R hg=>zaa (wkl (p_3++[sb h14,sqA (List.map V.cells out) [[iv 0,iv 0,sv Zs0]] out.length 3 32,si hw]) [0,5,10,11,12] 2 kr (zaw 5 1 (List.map V.cells out++[[iv 0,iv 0,sv Zs0]]) (gZ R hg) (he:=Zcv0) (hm:=Zcv0)))⟩
theorem zn8 (t:Tp) (s:Sch) (hl:zac s.cols) (hc:∀ c∈s.cols,zga c):∃ (r:List V) (t':Tp),zde s.cols r/\zab E0 S.B7 [.p 0 0,s.av] [.box t.cells] (vsl r) [.box t'.cells]:=by
 obtain ⟨t1,out1,q1,q1_1,g1⟩:=zgU t s zrX zrX 0 t ([]) zrX zrX
 exact ⟨out1,t1,(by first|assumption|trivial|(simp;done)|omega|(simp;omega)|(simp at *;omega)),wkcN At.B7 [] [0,5,10,11,12] 1 [(.ot 5 Ty.Value,2)] kr (g1 _ (zaa (wkr [sqx (out1.length=(List.map V.cells out1).length),sb q1_1] kr)))⟩
def zaj :(List Sch) :=
 [Sch.mk Zsl [Col.mk Zsn 1 false false,Col.mk (ByteArray.mk #[115]) 3 false false],Sch.mk (ByteArray.mk #[116]) [Col.mk Zsi 1 true true,Col.mk Zsn 1 false false,Col.mk (ByteArray.mk #[98]) 2 false false,Col.mk (ByteArray.mk #[115]) 3 false false],Sch.mk Zsu [Col.mk Zsi 1 true true,Col.mk Zsn 1 true false,Col.mk (ByteArray.mk #[109]) 1 false false]]
theorem zfg  :zab E0 S.Dw [] [] (.sl (zaj.map Sch.cells)) []:=by
 unfold zaj
 exact (by (try simp only [zsl]);exact wk At.Dw [] kr)
theorem zeI:zac zaj:=by simp [zaj]
noncomputable def zye (n:Str) (i:Nat) :Cfg:=zag B.Cq 0 [(0,sv n),(2,.p 0 0),(5,.sl (zaj.map Sch.cells)),(6,iv ((zaj.map Sch.cells).length:Nat)),(7,iv (i:Nat))] [.box [sv ⟨#[]⟩,.nl]]
def zhB (n:Str):List (Sch)->Nat->Sch
 | [],i =>
  Sch.mk Zs0 []
 | x::r,i =>
  bif ByteArray.toList x.name==ByteArray.toList n then
   x
  else
   zhB n r (i+1)
theorem zqa (n:Str) (hs:zac zaj):∀ (kk i:Nat),i+kk=(zaj).length->Good E0 B.Cq [] (zye n i ) (Shut 0 fun r h=>r=((zhB n ((zaj).drop i) i ).av)/\h=[]):=by
 intro kk
 induction kk with
 | zero =>
  intro i  hi
  have h0:decide (((i:Nat):Int) < (((zaj.map Sch.cells).length:Nat):Int))=false:=by simp;omega
  have e0:(zaj).drop i=[]:=List.drop_of_length_le Zo
  rw [e0]
  simp only [zhB]
  refine zaa ?_
  exact wkr [sb h0] kr
 | succ kk ih =>
  intro i  hi
  obtain ⟨x,hx⟩:=za4 (l:=zaj) (i:=i) Zo
  have h0:decide (((i:Nat):Int) < (((zaj.map Sch.cells).length:Nat):Int))=true:=by simp;omega
  have hw:=zaL i (by first|omega|(simp only [zac,Few] at *;omega))
  rw [zam hx]
  simp only [zhB]
  refine zaa ?_
  let p_1:List St:=[sb h0,se (zae Sch.cells hx rfl)]
  cases h1:ByteArray.toList x.name==ByteArray.toList n
  ·exact wkl (p_1++[sb h1,si hw]) [0,2,5,6,7] 1 kr (ih (i+1) Zo )
  ·exact wkr (p_1++[sb h1]) kr
def zav (n:Str):Sch :=
 zhB n zaj (0)
theorem zjR (n:Str) (hs:zac zaj):zab E0 S.Cq [sv n] [] ((zav n).av) []:=by
 unfold zav
 exact wkc At.Cq [sc zfg] [0,2,5,6,7] 1 kr (zqa n hs zaj.length 0 Zs)
theorem zsr (n:Int) (h1:decide (n < (0:Int))=false):Pure S.CV [iv n] (X.av (xLit ⟨1,n,⟨#[]⟩⟩)):=by
 exact wk At.CV [sb h1,sc (zaO (V.mk 1 n ⟨#[]⟩))] kr
def xNeg (a:X):X:=X.mk 4 0 false ⟨0,0,⟨#[]⟩⟩ ⟨#[]⟩ ⟨#[]⟩ [a] []
theorem c_Num1 (n:Int) (h1:decide (n < (0:Int))=true) (h2:-9223372036854775808 < n):Pure S.CV [iv n] (X.av (xNeg (xLit ⟨1,IntKind.i64.wrap (-n),⟨#[]⟩⟩))):=by
 have hk:=zsr (IntKind.i64.wrap (-n)) (by rw [IntKind.wrap_i64];simp at *;omega)
 unfold xNeg
 simp only [X.av,xLit,zei,ze8,X.cells,X.args_mk,X.sub_mk]
 exact wk At.CV [sb h1,si (e:=IntKind.i64.wrap (-n)) rfl,sc hk] kr
def xNum (n:Int):X:=bif decide (n < 0) then xNeg (xLit ⟨1,IntKind.i64.wrap (-n),⟨#[]⟩⟩) else xLit ⟨1,n,⟨#[]⟩⟩
theorem zbM (n:Int) (h2:-9223372036854775808 < n):Pure S.CV [iv n] (X.av (xNum n)):=by
 unfold xNum
 cases h:decide (n < 0)
 ·exact zsr n h
 ·exact c_Num1 n h h2
def za8 (l:List V):(List V) :=
 l
theorem zcK (l:List V) (hl:zac l):zab E0 S.C5 [vsl l] [] (vsl (za8 l)) []:=by
 exact wk At.C5 [sqx ((List.map V.cells l).length=(List.map V.cells l).length),sqx (AllLen (List.map V.cells l) 3/\((List.map V.cells l).length * 32).le 140737488355328)] kr
def plIn (p:Pl) (s:Sch):Pl :=
 Pl.mk (p.frs++[Fr.mk s.name false s.cols []]) p.tbs
theorem zf2 (p:Pl) (s:Sch) (hp:zac p.frs):zab E0 S.Dz [p.av,s.av] [] ((plIn p s).av) []:=by
 unfold plIn
 exact (by (try simp only [zsl]);exact wk At.Dz [sqx ((List.map Fr.cells p.frs++[[sv s.name,bv false,ZC s.cols,AV.sl []]]).length=(List.map Fr.cells p.frs++[[sv s.name,bv false,ZC s.cols,AV.sl []]]).length/\True/\True),sd [(2,[sqx (AllLen (List.map Fr.cells p.frs) 4/\((List.map Fr.cells p.frs).length * 72).le 140737488355328)]),(9,[sqA (List.map Fr.cells p.frs) [[sv s.name,bv false,ZC s.cols,AV.sl []]] ((List.map Fr.cells p.frs).length) 4 72])]] kr)
abbrev Few {α:Type} (l:List α):Prop:=l.length<=1000
abbrev zX:List AV:=[iv 0,iv 0,.bl false,iv 0,iv 0,sv ⟨#[]⟩,sv ⟨#[]⟩,sv ⟨#[]⟩,.nl,.nl]
def zrz (x:X):Prop:=∃ a b,x=xCol a b
def zgc (l:List X):Prop:=∀ x∈l,zrz x
theorem zgc.nil:zgc []:=fun _ h=>by cases h
theorem zgc.app {l m:List X} (h:zgc l) (hm:zgc m):zgc (l++m):=fun x hx=>(List.mem_append.1 hx).elim (h x) (hm x)
theorem zgc.col (a b:Str):zgc [xCol a b]:=fun x hx=>by simp only [List.mem_singleton] at hx;exact ⟨a,b,hx⟩
theorem zgc.at {l:List X} (h:zgc l) {i:Nat} {x:X} (hx:l[i]?=some x):zrz x:=h x (List.mem_of_getElem? hx)
theorem zBT {n:Nat} (h:(((n:Nat):Int)==0)=false) (hb:n<=1000000000):Pos (n:Int):=by
 have:(n:Int)≠0:=by simpa using h
 exact ⟨by omega,by omega⟩
structure Pl.Ok (p:Pl):Prop where
 frs:Few p.frs
 cols:∀ f∈p.frs,Few f.cols
abbrev zT:List AV:=[sv ⟨#[]⟩,.nl,iv 0,.nl]
structure TabOk (t:Tb):Prop where
 rows:∀ r∈t.rows,zde t.sch.cols r.vals
 len:t.rows.length<=1000
structure SchOk (s:Sch):Prop where
 few:Few s.cols
 cols:∀ c∈s.cols,zga c
 ne:s.cols≠[]
abbrev zv0 (n:Nat) (key:Int):Prop:=key < n
theorem SchOk.short {s:Sch} (h:SchOk s):zac s.cols:=by have:=h.few;simp only [Few] at this;simp only [zac];omega
def zao (l:List V) (key:Int):V:=l.getD key.toNat V.null
theorem zcB (l:List V) (key:Int) (hk:decide (key < 0)=false) (h:key < l.length):ElAt (l.map V.cells) key (zao l key).cells 3:=by
 have h0:0<=key:=by simpa using hk
 refine ⟨h0,?_,rfl⟩
 have:key.toNat < l.length:=by omega
 simp [zao,List.getD_eq_getElem?_getD,List.getElem?_eq_getElem this]
abbrev zhE (s:Sch) (rows:List Rw):Prop:=∀ r∈rows,zde s.cols r.vals
theorem zhE.len {s:Sch} {rows:List Rw} (h:zhE s rows) {i:Nat} {x:Rw} (hx:rows[i]?=some x):x.vals.length=s.cols.length:=(h x (List.mem_of_getElem? hx)).len
theorem zhE.push {s:Sch} {rows:List Rw} (h:zhE s rows) {x:Rw} (hx:zde s.cols x.vals):zhE s (rows++[x]):=fun r hr=>(List.mem_append.1 hr).elim (h r) fun h=>by simp only [List.mem_singleton] at h;exact h ▸ hx
theorem zh9 {x:Sch} (hx:x∈zaj):SchOk x:=by
 simp only [zaj,List.mem_cons,List.not_mem_nil,or_false] at hx
 rcases hx with rfl|rfl|rfl <;> exact ⟨by simp,by simp [zga],by simp⟩
structure StoreOk (l:List Tb):Prop where
 len:l.length<=1000
 tabs:∀ t∈l,TabOk t/\SchOk t.sch
theorem StoreOk.push {l:List Tb} (h:StoreOk l) (hl:l.length+1<=1000) {t:Tb} (ht:TabOk t) (hs:SchOk t.sch):StoreOk (l++[t]) :=
 ⟨by simp;omega,fun x hx=>(List.mem_append.1 hx).elim (h.tabs x) fun h=>by simp only [List.mem_singleton] at h;exact h ▸ ⟨ht,hs⟩⟩
abbrev Thin {α:Type} (k:Nat) (l:List α):Prop:=l.length<=k
theorem Thin.few {α:Type} {k:Nat} {l:List α} (h:Thin k l) (hk:k<=1000:=by decide):Few l:=Nat.le_trans h hk
theorem Thin.short {α:Type} {k:Nat} {l:List α} (h:Thin k l) (hk:k<=1000000000:=by decide):zac l:=Nat.le_trans h hk
def XOk:Nat->X->Prop
 | 0,_=>False
 | n+1,e=>e.val.Good/\(Thin 3 e.args/\Thin 1 e.sub)/\(∀ x∈e.args,XOk n x)/\∀ q∈e.sub,(Thin 8 q.items/\Thin 1 q.wh)/\(∀ x∈q.items,XOk n x)/\∀ x∈q.wh,XOk n x
theorem XOk.mono:∀ {n:Nat} {e:X},XOk n e->XOk (n+1) e
 | 0,_,h=>h.elim
 | n+1,e,⟨h1,h2,h3,h4⟩=>⟨h1,h2,fun x hx=>(h3 x hx).mono,fun q hq=>⟨(h4 q hq).1,fun x hx=>((h4 q hq).2.1 x hx).mono,fun x hx=>((h4 q hq).2.2 x hx).mono⟩⟩
theorem XOk.le {n m:Nat} {e:X} (h:XOk n e) (hm:n<=m):XOk m e:=by
 induction hm with
 | refl=>exact h
 | step _ ih=>exact ih.mono
theorem zql {n:Nat} {v:V} (h:v.Good):XOk (n+1) (xLit v):=⟨h,⟨by simp [xLit],by simp [xLit]⟩,fun x hx=>by simp [xLit] at hx,fun q hq=>by simp [xLit] at hq⟩
theorem zCf {n:Nat} {x:X} (h:zrz x):XOk (n+1) x:=by
 obtain ⟨a,b,rfl⟩:=h
 exact ⟨zaH,⟨by simp [xCol],by simp [xCol]⟩,fun x hx=>by simp [xCol] at hx,fun q hq=>by simp [xCol] at hq⟩
theorem zn9 {n:Nat} {k o:Int} {nt:Bool} {l:List X} (hl:Thin 3 l) (h:∀ x∈l,XOk n x):XOk (n+1) (X.mk k o nt ⟨0,0,⟨#[]⟩⟩ ⟨#[]⟩ ⟨#[]⟩ l []) :=
 ⟨zaH,⟨hl,by simp⟩,h,fun q hq=>by simp at hq⟩
theorem xok_1 {n:Nat} {k o:Int} {nt:Bool} {a:X} (h:XOk n a):XOk (n+1) (X.mk k o nt ⟨0,0,⟨#[]⟩⟩ ⟨#[]⟩ ⟨#[]⟩ [a] []) :=
 zn9 Zs fun x hx=>by simp only [List.mem_singleton] at hx;exact hx ▸ h
theorem xok_2 {n:Nat} {k o:Int} {nt:Bool} {a b:X} (h:XOk n a) (h2:XOk n b):XOk (n+1) (X.mk k o nt ⟨0,0,⟨#[]⟩⟩ ⟨#[]⟩ ⟨#[]⟩ [a,b] []) :=
 zn9 Zs fun x hx=>by simp only [List.mem_cons,List.not_mem_nil,or_false] at hx;rcases hx with rfl|rfl <;> assumption
theorem xok_3 {n:Nat} {k o:Int} {nt:Bool} {a b c:X} (h:XOk n a) (h2:XOk n b) (h3:XOk n c):XOk (n+1) (X.mk k o nt ⟨0,0,⟨#[]⟩⟩ ⟨#[]⟩ ⟨#[]⟩ [a,b,c] []) :=
 zn9 Zs fun x hx=>by simp only [List.mem_cons,List.not_mem_nil,or_false] at hx;rcases hx with rfl|rfl|rfl <;> assumption
theorem xok_q {n:Nat} {k:Int} {s:Bool} {i w:List X} {f:Str} (hi:Thin 8 i) (h1:∀ x∈i,XOk n x) (h2:∀ x∈w,XOk n x) (hw:Thin 1 w:=by simp):XOk (n+1) (X.mk k 0 false ⟨0,0,⟨#[]⟩⟩ ⟨#[]⟩ ⟨#[]⟩ [] [Qy.mk s i f w]) :=
 ⟨zaH,⟨by simp,by simp⟩,fun x hx=>by simp at hx,fun q hq=>by
  simp only [X.sub_mk,List.mem_singleton] at hq
  subst hq
  exact ⟨⟨hi,hw⟩,h1,h2⟩⟩
structure Pl.OkN (n:Nat) (p:Pl):Prop where
 frs:p.frs.length+n<=1000
 cols:∀ f∈p.frs,Few f.cols
 ne:p.tbs≠[]
 few:Few p.tbs
 tcols:∀ s∈p.tbs,Few s.cols
theorem Pl.OkN.few1 {n:Nat} {p:Pl} (h:p.OkN n):Few p.frs:=by have:=h.frs;simp only [Few];omega
theorem Pl.OkN.short {n:Nat} {p:Pl} (h:p.OkN n):zac p.frs:=by have:=h.frs;simp only [zac];omega
theorem Pl.OkN.less {n:Nat} {p:Pl} (h:p.OkN (n+1)):p.OkN n:=⟨by have:=h.frs;omega,h.cols,h.ne,h.few,h.tcols⟩
theorem Pl.OkN.pos {n:Nat} {p:Pl} (h:p.OkN n):Pos (((p.tbs.map Sch.cells).length:Nat):Int):=by
 have h1:=h.few
 have h2:0 < p.tbs.length:=List.length_pos_iff.2 h.ne
 simp only [Few] at h1
 simp only [Pos,List.length_map];omega
theorem Pl.OkN.ins {n:Nat} {p:Pl} (h:p.OkN (n+1)) {k:Nat} {s:Sch} (hs:p.tbs[k]?=some s):(plIn p s).OkN n:=by
 refine ⟨by have:=h.frs;simp [plIn];omega,fun f hf=>?_,h.ne,h.few,h.tcols⟩
 simp only [plIn,List.mem_append,List.mem_singleton] at hf
 rcases hf with hf|rfl
 ·exact h.cols f hf
 ·exact h.tcols s (List.mem_of_getElem? hs)
def opAt (k:Nat):Int:=[9,10,11,9,12,13].getD k 0
theorem zgw (k:Nat) (h:(k:Int) < 6):ElAt [[iv 9],[iv 10],[iv 11],[iv 9],[iv 12],[iv 13]] (k:Int) [iv (opAt k)] 1:=by
 have h:k=0\/k=1\/k=2\/k=3\/k=4\/k=5:=by omega
 rcases h with rfl|rfl|rfl|rfl|rfl|rfl <;> exact ⟨by decide,rfl,rfl⟩
abbrev dpt (n:Nat):Int:=(n:Int) - 1
theorem dpt1 (n:Nat) (hn:n<=500):IntKind.i64.wrap (dpt (n+2) - 1)=dpt (n+1):=by rw [IntKind.wrap_i64];simp only [dpt];omega
theorem dpt2 (n:Nat) (hn:n<=500):IntKind.i64.wrap (dpt (n+2) - 2)=dpt n:=by rw [IntKind.wrap_i64];simp only [dpt];omega
theorem zmU {p:Prop} (h:p:=by first|assumption|(simp;done)|(simp;omega)|omega|(simp at *;omega)):p:=h
theorem zrY {p:Prop} (h:p:=by first|assumption|omega|(simp;done)|(simp;omega)):p:=h
theorem sE1_3 {p:Prop} (h:p:=by first|omega|(simp only [zac,Few] at *;omega)):p:=h
def zaP:Fr:=⟨⟨#[]⟩,false,[],[]⟩
theorem zmK {α:Type} {l:List α} {k:Nat} (d:α) (h:k < l.length):l[k]?=some (l.getD k d):=by
 rw [List.getD_eq_getElem?_getD,List.getElem?_eq_getElem h];rfl
noncomputable def L_sres (frs:List Fr) (q n:Str) (k:Nat) :Cfg:=zag B.Cz 0 [(0,fsl frs),(1,sv q),(2,sv n),(9,iv (pm1 k))] []
def sres (frs:List Fr) (q n:Str):Nat->Int × Int × Bool
 | 0 =>
  (0,0,false)
 | k+1 =>
  bif ByteArray.toList q==Zs0.toList then
   bif (frs.getD k zaP).strict then
    sres frs q n (k)
   else
    bif decide (0<=idxF (fun c=>colC c n) (Sch.mk Zs0 (frs.getD k zaP).cols).cols 0) then
     (pm1 (k+1),idxF (fun c=>colC c n) (Sch.mk Zs0 (frs.getD k zaP).cols).cols 0,true)
    else
     sres frs q n (k)
  else
   bif !ByteArray.toList (frs.getD k zaP).name==ByteArray.toList q then
    sres frs q n (k)
   else
    bif decide (0<=idxF (fun c=>colC c n) (Sch.mk Zs0 (frs.getD k zaP).cols).cols 0) then
     (pm1 (k+1),idxF (fun c=>colC c n) (Sch.mk Zs0 (frs.getD k zaP).cols).cols 0,true)
    else
     sres frs q n (k)
theorem zuU (frs:List Fr) (q n:Str) (hl:zac frs) (hc:∀ f∈frs,zac f.cols):∀ (k:Nat),k<=1000000000->k<=frs.length->Good E0 B.Cz [] (L_sres frs q n k ) (Shut 0 fun r h=>r=(.tup [iv (sres frs q n k ).1,iv (sres frs q n k ).2.1,bv (sres frs q n k ).2.2])/\h=[]):=by
 intro k
 induction k with
 | zero =>
  intro  hk hk2
  simp only [sres]
  refine zaa ?_
  exact wkr [sb Zf] kr
 | succ k ih =>
  intro  hk hk2
  have h0:decide ((0:Int)<=((k:Nat):Int))=true:=by simp
  have hw:=zn4 k Zo
  have hx:=zmK (l:=frs) (k:=k) zaP Zo;have hcx:=hc _ (List.mem_of_getElem? hx)
  simp only [sres]
  refine zaa ?_
  cases h1:ByteArray.toList q==Zs0.toList
  ·cases h2:!ByteArray.toList (frs.getD k zaP).name==ByteArray.toList q
   ·cases h3:decide (0<=idxF (fun c=>colC c n) (Sch.mk Zs0 (frs.getD k zaP).cols).cols 0)
    ·exact wkl [sb Zt,se (zae Fr.cells hx rfl),sb h1,sg (congrArg Bool.not h1),sb h2,sc (zbU (Sch.mk Zs0 (frs.getD k zaP).cols) n zrY),sb h3,si hw] [0,1,2,9] 0 kr (ih  Zo zmU)
    ·exact wkr [sb Zt,se (zae Fr.cells hx rfl),sb h1,sg (congrArg Bool.not h1),sb h2,sc (zbU (Sch.mk Zs0 (frs.getD k zaP).cols) n zrY),sb h3] kr
   ·exact wkl [sb Zt,se (zae Fr.cells hx rfl),sb h1,sg (congrArg Bool.not h1),sb h2,si hw] [0,1,2,9] 0 kr (ih  Zo zmU)
  ·cases h4:(frs.getD k zaP).strict
   ·cases h5:decide (0<=idxF (fun c=>colC c n) (Sch.mk Zs0 (frs.getD k zaP).cols).cols 0)
    ·exact wkl [sb Zt,se (zae Fr.cells hx rfl),sg h1,sg h4,sb (congrArg Bool.not h1),sc (zbU (Sch.mk Zs0 (frs.getD k zaP).cols) n zrY),sb h5,si hw] [0,1,2,9] 0 kr (ih  Zo zmU)
    ·exact wkr [sb Zt,se (zae Fr.cells hx rfl),sg h1,sg h4,sb (congrArg Bool.not h1),sc (zbU (Sch.mk Zs0 (frs.getD k zaP).cols) n zrY),sb h5] kr
   ·exact wkl [sb Zt,se (zae Fr.cells hx rfl),sg h1,sb h4,si hw] [0,1,2,9] 0 kr (ih  Zo zmU)
theorem zAT {α:Type} (f:α->List AV) (l:List α) (h:zac l):IntKind.i64.wrap ((((l.map f).length:Nat):Int) - 1)=pm1 l.length:=by
 rw [List.length_map];exact zn4 _ (by simp only [zac] at h;omega)
def zbW (frs:List Fr) (q n:Str):Int × Int × Bool :=
 sres frs q n (frs.length)
theorem zfd (frs:List Fr) (q n:Str) (hl:zac frs) (hc:∀ f∈frs,zac f.cols) (hw0:IntKind.i64.wrap ((((frs.map Fr.cells).length:Nat):Int) - 1)=pm1 frs.length):zab E0 S.Cz [fsl frs,sv q,sv n] [] (.tup [iv (zbW frs q n).1,iv (zbW frs q n).2.1,bv (zbW frs q n).2.2]) []:=by
 unfold zbW
 exact wkc At.Cz [si hw0] [0,1,2,9] 0 kr (by have ih:=zuU frs q n hl hc frs.length (by simp only [zac] at hl;omega) (Nat.le_refl _);exact ih)
noncomputable def zvd (frs:List Fr) (q n:Str) (k:Nat):Cfg:=zag B.BN 0 [(0,fsl frs),(1,sv q),(2,sv n),(9,iv (pm1 k))] []
noncomputable def zAY (frs:List Fr) (q n:Str) (k:Nat) (f:Fr) (els:Int × Int × Bool) (j:Nat) :Cfg:=zag B.BN 1 [(0,fsl frs),(1,sv q),(2,sv n),(9,iv (pm1 (k+1))),(41,.sl (f.cols.map Col.cells)),(42,iv ((f.cols.map Col.cells).length:Nat)),(43,iv (j:Nat))] []
def zcu (frs:List Fr) (q n:Str) (k:Nat) (f:Fr) (els:Int × Int × Bool):List (Col)->Nat->Int × Int × Bool
 | [],j =>
  els
 | x::r,j =>
  bif ByteArray.toList x.name==ByteArray.toList n then
   (pm1 (k+1),(j:Int),true)
  else
   zcu frs q n k f els r (j+1)
theorem zlT (frs:List Fr) (q n:Str) (k:Nat) (f:Fr) (els:Int × Int × Bool) (hl:zac f.cols) (hwk:IntKind.i64.wrap (((k:Nat):Int) - 1)=pm1 k) (hels:Good E0 B.BN [] (zvd frs q n k) (Shut 0 fun r h=>r=.tup [iv els.1,iv els.2.1,bv els.2.2]/\h=[])):∀ (kk j:Nat),j+kk=(f.cols).length->Good E0 B.BN [] (zAY frs q n k f els j ) (Shut 0 fun r h=>r=(.tup [iv (zcu frs q n k f els ((f.cols).drop j) j ).1,iv (zcu frs q n k f els ((f.cols).drop j) j ).2.1,bv (zcu frs q n k f els ((f.cols).drop j) j ).2.2])/\h=[]):=by
 intro kk
 induction kk with
 | zero =>
  intro j  hi
  have h0:decide (((j:Nat):Int) < (((f.cols.map Col.cells).length:Nat):Int))=false:=by simp;omega
  have e0:(f.cols).drop j=[]:=List.drop_of_length_le Zo
  rw [e0]
  simp only [zcu]
  refine zaa ?_
  exact wkl [sb h0,si hwk] [0,1,2,9] 0 kr (hels)
 | succ kk ih =>
  intro j  hi
  obtain ⟨x,hx⟩:=za4 (l:=f.cols) (i:=j) Zo
  have h0:decide (((j:Nat):Int) < (((f.cols.map Col.cells).length:Nat):Int))=true:=by simp;omega
  have hw:=zaL j sE1_3
  rw [zam hx]
  simp only [zcu]
  refine zaa ?_
  cases h1:ByteArray.toList x.name==ByteArray.toList n
  ·exact wkl [sb h0,se (zae Col.cells hx rfl),sb h1,si hw] [0,1,2,9,41,42,43] 0 kr (ih (j+1) Zo )
  ·exact wkr [sb h0,se (zae Col.cells hx rfl),sb h1] kr
def rres (frs:List Fr) (q n:Str):Nat->Int × Int × Bool
 | 0 =>
  (0,0,false)
 | k+1 =>
  bif ByteArray.toList q==Zs0.toList then
   bif (frs.getD k zaP).strict then
    rres frs q n (k)
   else
    zcu frs q n k (frs.getD k zaP) (rres frs q n k) (frs.getD k zaP).cols 0
  else
   bif !ByteArray.toList (frs.getD k zaP).name==ByteArray.toList q then
    rres frs q n (k)
   else
    zcu frs q n k (frs.getD k zaP) (rres frs q n k) (frs.getD k zaP).cols 0
theorem zuR (frs:List Fr) (q n:Str) (hl:zac frs) (hc:∀ f∈frs,zac f.cols):∀ (k:Nat),k<=1000000000->k<=frs.length->Good E0 B.BN [] (zvd frs q n k ) (Shut 0 fun r h=>r=(.tup [iv (rres frs q n k ).1,iv (rres frs q n k ).2.1,bv (rres frs q n k ).2.2])/\h=[]):=by
 intro k
 induction k with
 | zero =>
  intro  hk hk2
  simp only [rres]
  refine zaa ?_
  exact wkr [sb Zf] kr
 | succ k ih =>
  intro  hk hk2
  have h0:decide ((0:Int)<=((k:Nat):Int))=true:=by simp
  have hw:=zn4 k Zo
  have hx:=zmK (l:=frs) (k:=k) zaP Zo;have hcx:=hc _ (List.mem_of_getElem? hx)
  simp only [rres]
  refine zaa ?_
  cases h1:ByteArray.toList q==Zs0.toList
  ·cases h2:!ByteArray.toList (frs.getD k zaP).name==ByteArray.toList q
   ·exact wkl [sb Zt,se (zae Fr.cells hx rfl),sb h1,sg (congrArg Bool.not h1),sb h2] [0,1,2,9,41,42,43] 0 kr (by have ih2:=zlT frs q n k (frs.getD k zaP) (rres frs q n k) hcx hw (ih Zo Zo) (frs.getD k zaP).cols.length 0 Zs;exact ih2)
   ·exact wkl [sb Zt,se (zae Fr.cells hx rfl),sb h1,sg (congrArg Bool.not h1),sb h2,si hw] [0,1,2,9] 0 kr (ih  Zo zmU)
  ·cases h3:(frs.getD k zaP).strict
   ·exact wkl [sb Zt,se (zae Fr.cells hx rfl),sg h1,sg h3,sb (congrArg Bool.not h1)] [0,1,2,9,41,42,43] 0 kr (by have ih2:=zlT frs q n k (frs.getD k zaP) (rres frs q n k) hcx hw (ih Zo Zo) (frs.getD k zaP).cols.length 0 Zs;exact ih2)
   ·exact wkl [sb Zt,se (zae Fr.cells hx rfl),sg h1,sb h3,si hw] [0,1,2,9] 0 kr (ih  Zo zmU)
def zaF (frs:List Fr) (q n:Str):Int × Int × Bool :=
 rres frs q n (frs.length)
theorem zoN (frs:List Fr) (q n:Str) (hl:zac frs) (hc:∀ f∈frs,zac f.cols) (hw0:IntKind.i64.wrap ((((frs.map Fr.cells).length:Nat):Int) - 1)=pm1 frs.length):zab E0 S.BN [fsl frs,sv q,sv n] [] (.tup [iv (zaF frs q n).1,iv (zaF frs q n).2.1,bv (zaF frs q n).2.2]) []:=by
 unfold zaF
 exact wkc At.BN [si hw0] [0,1,2,9] 0 kr (by have ih:=zuR frs q n hl hc frs.length (by simp only [zac] at hl;omega) (Nat.le_refl _);exact ih)
noncomputable def zAZ (tb:List Tb) (n:Str) (i:Nat) :Cfg:=zag B.CE 0 [(1,sv n),(4,.p 0 0),(9,tsl tb),(10,iv ((tb.map Tb.cells).length:Nat)),(11,iv (i:Nat))] [.box [sv ⟨#[]⟩,.nl]]
def zfm (tb:List Tb) (n:Str):List (Tb)->Nat->Sch × Bool
 | [],i =>
  (Sch.mk Zs0 [],false)
 | x::r,i =>
  bif ByteArray.toList x.sch.name==ByteArray.toList n then
   (x.sch,true)
  else
   zfm tb n r (i+1)
theorem ztk (tb:List Tb) (n:Str) (hl:zac tb) (hc:∀ x∈tb,zac x.sch.cols):∀ (kk i:Nat),i+kk=(tb).length->Good E0 B.CE [] (zAZ tb n i ) (Shut 0 fun r h=>r=(.tup [(zfm tb n ((tb).drop i) i ).1.av,bv (zfm tb n ((tb).drop i) i ).2])/\h=[]):=by
 intro kk
 induction kk with
 | zero =>
  intro i  hi
  have h0:decide (((i:Nat):Int) < (((tb.map Tb.cells).length:Nat):Int))=false:=by simp;omega
  have e0:(tb).drop i=[]:=List.drop_of_length_le Zo
  rw [e0]
  simp only [zfm]
  refine zaa ?_
  exact wkr [sb h0] kr
 | succ kk ih =>
  intro i  hi
  obtain ⟨x,hx⟩:=za4 (l:=tb) (i:=i) Zo
  have h0:decide (((i:Nat):Int) < (((tb.map Tb.cells).length:Nat):Int))=true:=by simp;omega
  have hw:=zaL i sE1_3
  have hcx:=hc x (List.mem_of_getElem? hx)
  rw [zam hx]
  simp only [zfm]
  refine zaa ?_
  cases h1:ByteArray.toList x.sch.name==ByteArray.toList n
  ·exact wkl [sb h0,se (zae Tb.cells hx rfl),sb h1,si hw] [1,4,9,10,11] 1 kr (ih (i+1) Zo )
  ·exact wkr [sqx ((True/\(List.map Col.cells x.sch.cols).length=(List.map Col.cells x.sch.cols).length/\True)/\True/\True),sb h0,se (zae Tb.cells hx rfl),sb h1,sqx (AllLen (List.map Col.cells x.sch.cols) 4/\((List.map Col.cells x.sch.cols).length * 32).le 140737488355328)] kr
def zaG (tb:List Tb) (n:Str):Sch × Bool :=
 zfm tb n tb (0)
theorem zjN (tb:List Tb) (n:Str) (hl:zac tb) (hc:∀ x∈tb,zac x.sch.cols):zab E0 S.CE [tsl tb,sv n] [] (.tup [(zaG tb n).1.av,bv (zaG tb n).2]) []:=by
 unfold zaG
 exact wkc At.CE [] [1,4,9,10,11] 1 kr (by have ih:=ztk tb n hl hc tb.length 0 Zs;exact ih)
def zat (frs:List Fr) (s:Sch) (v:List V):(List Fr) :=
 frs++[Fr.mk s.name false s.cols v]
theorem zbg (frs:List Fr) (s:Sch) (v:List V) (hl:zac frs):zab E0 S.DA [fsl frs,s.av,vsl v] [] (fsl (zat frs s v)) []:=by
 unfold zat
 exact (by (try simp only [zsl,xCol,xLit,xBin,xNeg]);exact wk At.DA [sqx ((List.map Fr.cells frs++[[sv s.name,bv false,ZC s.cols,vsl v]]).length=(List.map Fr.cells frs++[[sv s.name,bv false,ZC s.cols,vsl v]]).length),sqx (AllLen (List.map Fr.cells frs) 4/\((List.map Fr.cells frs).length * 72).le 140737488355328),sqA (List.map Fr.cells frs) [[sv s.name,bv false,ZC s.cols,vsl v]] ((List.map Fr.cells frs).length) 4 72] kr)
end Go.AM
