/-
  Contracts of the program's functions, part 2.
-/
import Derived.Test.YtphnhpapjafghaaGreatDoorRqB
import Derived.Test.YtphnhpapjafghaaGreatDoorProg
import Derived.KernelRfl
import Derived.Laws.StructEq
set_option maxRecDepth 100000
set_option maxHeartbeats 40000000
set_option linter.unusedSimpArgs false
set_option linter.unusedVariables false
namespace Go.AM
theorem kr {p : Prop} (h : p := by kernel_rfl) : p := h
theorem Zo {p:Prop} (h:p:=by omega):p:=h
theorem Zf:false=false:=rfl
theorem Zt:true=true:=rfl
abbrev Zs0:ByteArray:=ByteArray.mk #[]
abbrev ZsO:ByteArray:=ByteArray.mk #[79,76,68]
abbrev ZsN:ByteArray:=ByteArray.mk #[78,69,87]
abbrev ZsI:ByteArray:=ByteArray.mk #[73,78,83,69,82,84,69,68]
abbrev ZsD:ByteArray:=ByteArray.mk #[68,69,76,69,84,69,68]
abbrev Zsi:ByteArray:=ByteArray.mk #[105,100]
abbrev Zsn:ByteArray:=ByteArray.mk #[110]
abbrev Zsu:ByteArray:=ByteArray.mk #[117]
abbrev Zsl:ByteArray:=ByteArray.mk #[108,111,103]
theorem Zs {p:Prop} (h:p:=by simp):p:=h
theorem Za {p:Prop} (h:p:=by first|assumption|rfl|omega):p:=h
theorem Zp {p:Prop} (h:p:=by simp;omega):p:=h
theorem Zr {p:Prop} (h:p:=by rfl):p:=h
theorem Zb {p:Prop} (h:p:=by first|assumption|omega):p:=h
theorem Zj {p:Prop} (h:p:=by exact ⟨rfl,rfl⟩):p:=h
theorem Zd {p:Prop} (h:p:=by decide):p:=h
theorem Zg {p:Prop} (h:p:=by first|rfl|assumption):p:=h
namespace S
abbrev C3:FuncId:=5
abbrev DB:FuncId:=6
abbrev Bp:FuncId:=7
abbrev Cx:FuncId:=8
abbrev Aj:FuncId:=10
abbrev Dt:FuncId:=11
abbrev DC:FuncId:=12
abbrev Bt:FuncId:=14
abbrev C8:FuncId:=15
abbrev Bu:FuncId:=16
abbrev Ck:FuncId:=17
abbrev Ak:FuncId:=18
abbrev AG:FuncId:=19
abbrev Cr:FuncId:=20
abbrev B5:FuncId:=21
abbrev BU:FuncId:=22
abbrev Az:FuncId:=23
abbrev AX:FuncId:=24
abbrev A1:FuncId:=25
abbrev Ce:FuncId:=26
abbrev AS:FuncId:=27
abbrev At:FuncId:=28
abbrev Aw:FuncId:=29
abbrev CN:FuncId:=30
abbrev DJ:FuncId:=31
abbrev DK:FuncId:=32
abbrev DD:FuncId:=33
abbrev Dc:FuncId:=34
abbrev Ai:FuncId:=35
abbrev Be:FuncId:=36
abbrev Dl:FuncId:=37
abbrev Dq:FuncId:=38
abbrev B8:FuncId:=39
abbrev CK:FuncId:=40
abbrev Ac:FuncId:=41
abbrev Af:FuncId:=42
abbrev BY:FuncId:=43
abbrev Ae:FuncId:=44
abbrev CW:FuncId:=45
abbrev Bo:FuncId:=46
abbrev Cs:FuncId:=47
abbrev Di:FuncId:=48
abbrev AT:FuncId:=49
abbrev AP:FuncId:=50
abbrev AU:FuncId:=51
abbrev AH:FuncId:=52
abbrev DI:FuncId:=53
abbrev BD:FuncId:=54
abbrev Ct:FuncId:=55
abbrev A3:FuncId:=56
abbrev AL:FuncId:=57
abbrev AY:FuncId:=58
abbrev Ch:FuncId:=59
abbrev CX:FuncId:=60
abbrev CS:FuncId:=61
abbrev CC:FuncId:=62
abbrev DL:FuncId:=63
abbrev Bk:FuncId:=64
abbrev BH:FuncId:=65
abbrev Dm:FuncId:=66
abbrev CY:FuncId:=67
abbrev Dk:FuncId:=68
abbrev Bq:FuncId:=69
abbrev B1:FuncId:=70
abbrev BQ:FuncId:=71
abbrev Ap:FuncId:=72
abbrev C5:FuncId:=73
abbrev A5:FuncId:=74
abbrev AO:FuncId:=75
abbrev BV:FuncId:=76
abbrev BI:FuncId:=77
abbrev C0:FuncId:=78
abbrev Aq:FuncId:=79
abbrev C6:FuncId:=80
abbrev Bv:FuncId:=81
abbrev A6:FuncId:=82
abbrev Cp:FuncId:=83
abbrev Bw:FuncId:=84
abbrev CZ:FuncId:=85
abbrev B2:FuncId:=86
abbrev Bx:FuncId:=87
abbrev B9:FuncId:=88
abbrev AN:FuncId:=89
abbrev C9:FuncId:=90
abbrev Ao:FuncId:=91
abbrev BE:FuncId:=92
abbrev A2:FuncId:=93
abbrev Dn:FuncId:=94
abbrev Cu:FuncId:=95
abbrev Ca:FuncId:=96
abbrev DM:FuncId:=97
abbrev Bg:FuncId:=98
abbrev Dr:FuncId:=99
abbrev DA:FuncId:=100
abbrev DE:FuncId:=101
abbrev Ay:FuncId:=102
abbrev Au:FuncId:=103
abbrev Bl:FuncId:=104
abbrev Ax:FuncId:=105
abbrev Aa:FuncId:=106
abbrev BW:FuncId:=107
abbrev AE:FuncId:=108
abbrev Dx:FuncId:=109
abbrev Do:FuncId:=110
abbrev Bm:FuncId:=111
abbrev AZ:FuncId:=112
abbrev Dd:FuncId:=113
abbrev BZ:FuncId:=114
abbrev Cf:FuncId:=115
abbrev CL:FuncId:=116
abbrev Cb:FuncId:=117
abbrev Dj:FuncId:=118
abbrev BJ:FuncId:=119
abbrev De:FuncId:=120
abbrev CD:FuncId:=121
abbrev Du:FuncId:=122
abbrev BK:FuncId:=123
abbrev BL:FuncId:=124
abbrev BF:FuncId:=125
abbrev CT:FuncId:=126
abbrev Dp:FuncId:=127
abbrev Ar:FuncId:=128
abbrev By:FuncId:=129
abbrev AB:FuncId:=130
abbrev BT:FuncId:=131
abbrev Al:FuncId:=132
abbrev CE:FuncId:=133
abbrev Bc:FuncId:=134
abbrev DF:FuncId:=135
abbrev Dw:FuncId:=138
abbrev AA:FuncId:=139
abbrev Ci:FuncId:=140
abbrev Bn:FuncId:=141
abbrev Br:FuncId:=142
abbrev Cy:FuncId:=143
abbrev Ah:FuncId:=144
abbrev Bi:FuncId:=145
abbrev Cq:FuncId:=146
abbrev A4:FuncId:=147
abbrev Cz:FuncId:=151
abbrev Bs:FuncId:=152
abbrev Cl:FuncId:=153
abbrev BM:FuncId:=154
abbrev CM:FuncId:=155
abbrev CU:FuncId:=156
abbrev Ab:FuncId:=157
abbrev Am:FuncId:=158
abbrev AC:FuncId:=159
abbrev As:FuncId:=160
abbrev Cc:FuncId:=161
abbrev Ad:FuncId:=162
abbrev B6:FuncId:=163
abbrev BN:FuncId:=164
abbrev A7:FuncId:=165
abbrev An:FuncId:=166
abbrev DG:FuncId:=167
abbrev CO:FuncId:=168
abbrev Bz:FuncId:=169
abbrev Cj:FuncId:=170
abbrev B3:FuncId:=171
abbrev A8:FuncId:=172
abbrev DH:FuncId:=175
abbrev Df:FuncId:=176
abbrev BA:FuncId:=178
abbrev CP:FuncId:=179
abbrev C4:FuncId:=182
abbrev CF:FuncId:=183
abbrev AF:FuncId:=184
abbrev Cv:FuncId:=185
abbrev BX:FuncId:=186
abbrev AD:FuncId:=187
abbrev Ag:FuncId:=188
abbrev AV:FuncId:=189
abbrev Dv:FuncId:=190
abbrev CR:FuncId:=194
abbrev Dg:FuncId:=195
abbrev Dh:FuncId:=196
abbrev Bh:FuncId:=197
abbrev AR:FuncId:=198
abbrev Ds:FuncId:=199
abbrev AI:FuncId:=200
abbrev Cg:FuncId:=201
abbrev Da:FuncId:=202
abbrev Av:FuncId:=204
abbrev C1:FuncId:=205
abbrev Cm:FuncId:=206
abbrev CQ:FuncId:=208
abbrev CA:FuncId:=209
abbrev BR:FuncId:=212
abbrev CB:FuncId:=214
abbrev C2:FuncId:=215
abbrev Bj:FuncId:=216
abbrev Cn:FuncId:=217
abbrev Dy:FuncId:=218
abbrev BO:FuncId:=223
abbrev Bd:FuncId:=224
abbrev CG:FuncId:=225
abbrev BB:FuncId:=226
abbrev CH:FuncId:=234
abbrev BP:FuncId:=235
abbrev C7:FuncId:=251
abbrev Bf:FuncId:=252
abbrev Co:FuncId:=254
abbrev BC:FuncId:=256
abbrev AJ:FuncId:=263
abbrev A0:FuncId:=264
abbrev CI:FuncId:=265
abbrev CJ:FuncId:=266
abbrev B7:FuncId:=267
abbrev B0:FuncId:=278
abbrev CV:FuncId:=290
abbrev Db:FuncId:=293
abbrev Bb:FuncId:=296
abbrev A9:FuncId:=304
abbrev Cw:FuncId:=317
abbrev AM:FuncId:=318
abbrev B4:FuncId:=319
abbrev AW:FuncId:=321
abbrev AQ:FuncId:=330
abbrev Cd:FuncId:=331
abbrev Ba:FuncId:=332
abbrev BS:FuncId:=333
abbrev BG:FuncId:=334
abbrev AK:FuncId:=337
abbrev Dz:Nat:=0
abbrev DN:Nat:=1
end S
namespace Ty
abbrev int:TypeId:=3
abbrev bool:TypeId:=4
abbrev string:TypeId:=9
abbrev LExpr:TypeId:=52
abbrev Trigger:TypeId:=55
abbrev Schema:TypeId:=65
abbrev Table:TypeId:=68
abbrev Value:TypeId:=89
abbrev Expr:TypeId:=92
abbrev Action:TypeId:=98
abbrev Column:TypeId:=107
abbrev Delta:TypeId:=128
abbrev Link:TypeId:=135
abbrev LValue:TypeId:=139
abbrev Pair:TypeId:=141
abbrev Row:TypeId:=145
abbrev M_Link_bool:TypeId:=152
abbrev Item:TypeId:=165
abbrev run:TypeId:=180
abbrev Set:TypeId:=192
abbrev Frame:TypeId:=201
abbrev M_int_bool:TypeId:=210
abbrev M_Value_bool:TypeId:=215
abbrev row:TypeId:=333
end Ty
noncomputable abbrev ZT1:TI:=⟨.scalar,1,8,[.v .nilFunc]⟩
noncomputable abbrev ZT0:TI:=⟨.scalar,0,0,[]⟩
noncomputable def tabA:List TI:=[
ZT0,ZT1, ⟨.int .i64,1,8,[(.v (.int .i64 0))]⟩,
 ⟨.int .i64,1,8,[(.v (.int .i64 0))]⟩,
 ⟨.bool,1,1,[.bl false]⟩,
 ⟨.int .u8,1,1,[(.v (.int .u8 0))]⟩,
 ⟨.int .u8,1,1,[(.v (.int .u8 0))]⟩,
 ⟨.struct [0,1,2,3],4,24,[(.v (.int .i64 0)),(.v (.int .i64 0)),.bl false,(.v (.int .u8 0))]⟩,
 ⟨.struct [0,1,2,3],4,24,[(.v (.int .i64 0)),(.v (.int .i64 0)),.bl false,(.v (.int .u8 0))]⟩,
 ⟨.str,1,16,[.v (.string ⟨#[]⟩)]⟩,
 ⟨.str,1,16,[.v (.string ⟨#[]⟩)]⟩,
 ⟨.str,1,16,[.v (.string ⟨#[]⟩)]⟩,
 ⟨.int .u64,1,8,[(.v (.int .u64 0))]⟩,
 ⟨.struct [0,1],2,24,[.v (.string ⟨#[]⟩),(.v (.int .u64 0))]⟩,
 ⟨.struct [0,1],2,24,[.v (.string ⟨#[]⟩),(.v (.int .u64 0))]⟩,
 ⟨.scalar,1,8,[.v (.pointer none)]⟩,
 ⟨.scalar,1,8,[.v (.pointer none)]⟩,
 ⟨.scalar,1,8,[.v (.pointer none)]⟩,
 ⟨.struct [0],1,8,[.v (.pointer none)]⟩,
 ⟨.struct [0],1,8,[.v (.pointer none)]⟩,
 ⟨.scalar,1,16,[.v .nilIface]⟩,
 ⟨.int .i32,1,4,[(.v (.int .i32 0))]⟩,
 ⟨.slice 3,1,24,[.nl]⟩,
 ⟨.scalar,1,8,[.v (.pointer none)]⟩,
ZT1, ⟨.slice 55,1,24,[.nl]⟩,
 ⟨.slice 135,1,24,[.nl]⟩,
ZT0,ZT1, ⟨.slice 68,1,24,[.nl]⟩,
ZT0,ZT1,ZT1, ⟨.struct [0,1,2,3,4],5,88,[.nl,(.v (.int .i64 0)),(.v (.int .i64 0)),.nl,.nl]⟩,
 ⟨.struct [0,1,2,3,4],5,88,[.nl,(.v (.int .i64 0)),(.v (.int .i64 0)),.nl,.nl]⟩,
 ⟨.int .i64,1,8,[(.v (.int .i64 0))]⟩,
ZT0,ZT1,ZT1,ZT1,ZT1,ZT1,ZT1,ZT1,ZT1,ZT1,ZT1, ⟨.struct [0,1],2,32,[.nl,(.v (.int .i64 0))]⟩,
 ⟨.struct [0,1],2,32,[.nl,(.v (.int .i64 0))]⟩,
ZT1, ⟨.slice 9,1,24,[.nl]⟩,
 ⟨.slice 123,1,24,[.nl]⟩,
 ⟨.slice 92,1,24,[.nl]⟩,
 ⟨.slice 98,1,24,[.nl]⟩,
 ⟨.struct [0,1,2,3,4,5,6,7,8,9,10],11,200,[.v (.string ⟨#[]⟩),.v (.string ⟨#[]⟩),.bl false,(.v (.int .i64 0)),.nl,.bl false,.nl,.nl,.nl,.nl,.nl]⟩,
 ⟨.struct [0,1,2,3,4,5,6,7,8,9,10],11,200,[.v (.string ⟨#[]⟩),.v (.string ⟨#[]⟩),.bl false,(.v (.int .i64 0)),.nl,.bl false,.nl,.nl,.nl,.nl,.nl]⟩,
ZT1, ⟨.array 8 9,8,128,[.v (.string ⟨#[]⟩),.v (.string ⟨#[]⟩),.v (.string ⟨#[]⟩),.v (.string ⟨#[]⟩),.v (.string ⟨#[]⟩),.v (.string ⟨#[]⟩),.v (.string ⟨#[]⟩),.v (.string ⟨#[]⟩)]⟩,
ZT1,ZT1,ZT0,ZT1,ZT1, ⟨.slice 107,1,24,[.nl]⟩,
 ⟨.struct [0,1],2,40,[.v (.string ⟨#[]⟩),.nl]⟩,
 ⟨.struct [0,1],2,40,[.v (.string ⟨#[]⟩),.nl]⟩,
 ⟨.slice 145,1,24,[.nl]⟩,
 ⟨.struct [0,2,3],4,72,[.v (.string ⟨#[]⟩),.nl,(.v (.int .i64 0)),.nl]⟩,
 ⟨.struct [0,2,3],4,72,[.v (.string ⟨#[]⟩),.nl,(.v (.int .i64 0)),.nl]⟩,
ZT0,ZT1, ⟨.slice 139,1,24,[.nl]⟩,
 ⟨.slice 141,1,24,[.nl]⟩,
 ⟨.struct [0,1,2],3,72,[.nl,.nl,.nl]⟩,
 ⟨.struct [0,1,2],3,72,[.nl,.nl,.nl]⟩,
ZT1,ZT1, ⟨.scalar,1,8,[.v (.pointer none)]⟩,
 ⟨.struct [0,5,6,7],8,144,[.nl,(.v (.int .i64 0)),(.v (.int .i64 0)),.nl,.nl,.nl,.nl,(.v (.int .i64 0))]⟩,
 ⟨.struct [0,5,6,7],8,144,[.nl,(.v (.int .i64 0)),(.v (.int .i64 0)),.nl,.nl,.nl,.nl,(.v (.int .i64 0))]⟩,
 ⟨.slice 128,1,24,[.nl]⟩,
ZT0,ZT1, ⟨.slice 165,1,24,[.nl]⟩,
ZT1,ZT0,ZT1,ZT1, ⟨.struct [0,1,2],3,32,[(.v (.int .i64 0)),(.v (.int .i64 0)),.v (.string ⟨#[]⟩)]⟩,
 ⟨.struct [0,1,2],3,32,[(.v (.int .i64 0)),(.v (.int .i64 0)),.v (.string ⟨#[]⟩)]⟩,
 ⟨.slice 238,1,24,[.nl]⟩,
 ⟨.struct [0,1,2,3,6,7,8,9],10,136,[(.v (.int .i64 0)),(.v (.int .i64 0)),.bl false,(.v (.int .i64 0)),(.v (.int .i64 0)),.v (.string ⟨#[]⟩),.v (.string ⟨#[]⟩),.v (.string ⟨#[]⟩),.nl,.nl]⟩,
 ⟨.struct [0,1,2,3,6,7,8,9],10,136,[(.v (.int .i64 0)),(.v (.int .i64 0)),.bl false,(.v (.int .i64 0)),(.v (.int .i64 0)),.v (.string ⟨#[]⟩),.v (.string ⟨#[]⟩),.v (.string ⟨#[]⟩),.nl,.nl]⟩,
ZT1,ZT1, ⟨.slice 52,1,24,[.nl]⟩,
 ⟨.slice 192,1,24,[.nl]⟩,
 ⟨.struct [0,1,2,3,4,5,6],7,136,[(.v (.int .i64 0)),.v (.string ⟨#[]⟩),.nl,.nl,.nl,.nl,.v (.string ⟨#[]⟩)]⟩,
 ⟨.struct [0,1,2,3,4,5,6],7,136,[(.v (.int .i64 0)),.v (.string ⟨#[]⟩),.nl,.nl,.nl,.nl,.v (.string ⟨#[]⟩)]⟩,
ZT0,ZT1,ZT1,ZT1,ZT1,ZT1,ZT1, ⟨.struct [0,1,2,3],4,32,[.v (.string ⟨#[]⟩),(.v (.int .i64 0)),.bl false,.bl false]⟩,
 ⟨.struct [0,1,2,3],4,32,[.v (.string ⟨#[]⟩),(.v (.int .i64 0)),.bl false,.bl false]⟩,
ZT1, ⟨.slice 201,1,24,[.nl]⟩,
 ⟨.slice 65,1,24,[.nl]⟩,
 ⟨.struct [0,1],2,48,[.nl,.nl]⟩,
 ⟨.struct [0,1],2,48,[.nl,.nl]⟩,
ZT1,ZT1,ZT1,ZT1, ⟨.scalar,1,8,[.v (.pointer none)]⟩,
ZT1,ZT0,ZT1,ZT1, ⟨.struct [0,1,2,3],4,48,[.v (.string ⟨#[]⟩),.v (.string ⟨#[]⟩),(.v (.int .i64 0)),(.v (.int .i64 0))]⟩,
 ⟨.struct [0,1,2,3],4,48,[.v (.string ⟨#[]⟩),.v (.string ⟨#[]⟩),(.v (.int .i64 0)),(.v (.int .i64 0))]⟩,
ZT1,ZT1,ZT1, ⟨.struct [0,1,2,3],4,88,[.v (.string ⟨#[]⟩),.nl,.nl,.nl]⟩,
 ⟨.struct [0,1,2,3],4,88,[.v (.string ⟨#[]⟩),.nl,.nl,.nl]⟩,
ZT1,ZT1,ZT1,ZT1,ZT1, ⟨.struct [0,1],2,32,[.v (.string ⟨#[]⟩),.v (.string ⟨#[]⟩)]⟩,
 ⟨.struct [0,1],2,32,[.v (.string ⟨#[]⟩),.v (.string ⟨#[]⟩)]⟩,
ZT1,ZT1,ZT1, ⟨.slice 89,1,24,[.nl]⟩,
 ⟨.struct [0,1,2],3,56,[(.v (.int .i64 0)),.nl,.nl]⟩,
 ⟨.struct [0,1,2],3,56,[(.v (.int .i64 0)),.nl,.nl]⟩,
ZT1,ZT1, ⟨.struct [0,1],2,32,[(.v (.int .i64 0)),.nl]⟩,
 ⟨.struct [0,1],2,32,[(.v (.int .i64 0)),.nl]⟩,
ZT0,ZT1,ZT1,ZT1,ZT1,ZT1, ⟨.map 135 4,1,8,[.v (.map none)]⟩,
ZT1,ZT1,ZT1,ZT1,ZT0,ZT1,ZT1,ZT1,ZT1,ZT1,ZT1, ⟨.struct [0,1,2,3],4,72,[.v (.string ⟨#[]⟩),(.v (.int .i64 0)),.nl,.nl]⟩,
 ⟨.struct [0,1,2,3],4,72,[.v (.string ⟨#[]⟩),(.v (.int .i64 0)),.nl,.nl]⟩,
ZT1,ZT0,ZT1,ZT0,ZT1,ZT1,ZT1,ZT0,ZT1,ZT1,ZT1,ZT1, ⟨.scalar,1,8,[.v (.pointer none)]⟩,
 ⟨.struct [0,1,2,4,5,6],7,160,[.nl,.nl,.v (.string ⟨#[]⟩),.nl,.nl,.nl,.nl]⟩,
 ⟨.struct [0,1,2,4,5,6],7,160,[.nl,.nl,.v (.string ⟨#[]⟩),.nl,.nl,.nl,.nl]⟩,
ZT1,ZT1,ZT1,ZT1,ZT0,ZT1,ZT1,ZT1,ZT1,ZT1, ⟨.struct [0,1],11,152,[.v (.string ⟨#[]⟩),(.v (.int .i64 0)),(.v (.int .i64 0)),.bl false,(.v (.int .i64 0)),(.v (.int .i64 0)),.v (.string ⟨#[]⟩),.v (.string ⟨#[]⟩),.v (.string ⟨#[]⟩),.nl,.nl]⟩,
 ⟨.struct [0,1],11,152,[.v (.string ⟨#[]⟩),(.v (.int .i64 0)),(.v (.int .i64 0)),.bl false,(.v (.int .i64 0)),(.v (.int .i64 0)),.v (.string ⟨#[]⟩),.v (.string ⟨#[]⟩),.v (.string ⟨#[]⟩),.nl,.nl]⟩,
ZT1,ZT1,ZT1,ZT1,ZT1,ZT1,ZT1, ⟨.struct [0,1,2,3],4,72,[.v (.string ⟨#[]⟩),.bl false,.nl,.nl]⟩,
 ⟨.struct [0,1,2,3],4,72,[.v (.string ⟨#[]⟩),.bl false,.nl,.nl]⟩,
ZT1,ZT0,ZT1,ZT1,ZT1,ZT1,ZT1,ZT1, ⟨.map 3 4,1,8,[.v (.map none)]⟩,
ZT1,ZT1,ZT1,ZT1, ⟨.map 89 4,1,8,[.v (.map none)]⟩,
ZT1,ZT1,ZT1,ZT1,ZT1,ZT1,ZT1,ZT1,ZT1,ZT1,ZT1,ZT1,ZT1,ZT0,ZT1,ZT1,ZT1,ZT1,ZT0,ZT1,ZT1, ⟨.struct [0,1,2,3],4,72,[.bl false,.nl,.v (.string ⟨#[]⟩),.nl]⟩,
 ⟨.struct [0,1,2,3],4,72,[.bl false,.nl,.v (.string ⟨#[]⟩),.nl]⟩,
 ⟨.array 6 9,6,96,[.v (.string ⟨#[]⟩),.v (.string ⟨#[]⟩),.v (.string ⟨#[]⟩),.v (.string ⟨#[]⟩),.v (.string ⟨#[]⟩),.v (.string ⟨#[]⟩)]⟩,
ZT1,ZT1,ZT1,ZT1,ZT1,ZT0,ZT1,ZT1,ZT1,ZT1,ZT1,ZT1,ZT1,ZT0,ZT1, ⟨.slice 29,1,24,[.nl]⟩,
ZT1, ⟨.scalar,1,8,[.v (.pointer none)]⟩,
 ⟨.struct [0,1,2,3,5,6],7,160,[.nl,.nl,.nl,.v (.string ⟨#[]⟩),.nl,.nl,.nl]⟩,
 ⟨.struct [0,1,2,3,5,6],7,160,[.nl,.nl,.nl,.v (.string ⟨#[]⟩),.nl,.nl,.nl]⟩,
ZT1, ⟨.scalar,1,8,[.v (.pointer none)]⟩,
ZT0,ZT1,ZT0,ZT1,ZT1,ZT0,ZT1,ZT1,ZT1,ZT1,ZT1,ZT1,ZT1,ZT1,ZT0,ZT1,ZT1,ZT1,ZT1,ZT1,ZT0,ZT1,ZT1, ⟨.slice 5,1,24,[.nl]⟩,
ZT1,ZT1,ZT1,ZT1,ZT1,ZT1,ZT0,ZT1,ZT1,ZT1,ZT1,ZT1,ZT1,ZT1,ZT1,ZT1,ZT1,ZT1,ZT1,ZT1,ZT1,ZT1, ⟨.slice 4,1,24,[.nl]⟩,
ZT1,ZT1,ZT0,ZT1,ZT1, ⟨.slice 2,1,24,[.nl]⟩,
ZT0,ZT1,ZT1,ZT1,ZT1, ⟨.array 9 4,9,9,[.bl false,.bl false,.bl false,.bl false,.bl false,.bl false,.bl false,.bl false,.bl false]⟩,
ZT1,ZT1,ZT1,ZT1,ZT1,ZT1,ZT1,ZT1,ZT1,ZT1, ⟨.scalar,1,8,[.v (.pointer none)]⟩,
 ⟨.struct [0,2,3,4],5,112,[.v (.string ⟨#[]⟩),.nl,.nl,.nl,.nl]⟩,
 ⟨.struct [0,2,3,4],5,112,[.v (.string ⟨#[]⟩),.nl,.nl,.nl,.nl]⟩,
ZT1,ZT1,ZT1, ⟨.int .u64,1,8,[(.v (.int .u64 0))]⟩,
ZT0,ZT1, ⟨.int .u64,1,8,[(.v (.int .u64 0))]⟩,
ZT1,ZT1,ZT1, ⟨.struct [0,1],2,16,[(.v (.int .i64 0)),(.v (.int .u64 0))]⟩,
 ⟨.struct [0,1],2,16,[(.v (.int .i64 0)),(.v (.int .u64 0))]⟩,
ZT1,ZT1,ZT1,ZT1,ZT1,ZT1,ZT1,ZT1,ZT1,ZT1, ⟨.struct [0,1,2,3],4,40,[.v (.pointer none),.v (.pointer none),.v (.pointer none),.v (.string ⟨#[]⟩)]⟩,
 ⟨.struct [0,1,2,3],4,40,[.v (.pointer none),.v (.pointer none),.v (.pointer none),.v (.string ⟨#[]⟩)]⟩,
ZT0,ZT0,ZT0,ZT1, ⟨.int .u32,1,4,[(.v (.int .u32 0))]⟩,
 ⟨.int .u8,1,1,[(.v (.int .u8 0))]⟩,
 ⟨.int .u8,1,1,[(.v (.int .u8 0))]⟩,
ZT1, ⟨.scalar,1,8,[.v (.pointer none)]⟩,
 ⟨.int .i32,1,4,[(.v (.int .i32 0))]⟩,
 ⟨.int .i32,1,4,[(.v (.int .i32 0))]⟩,
 ⟨.struct [0,1,2,3,4,5,6,7,8,9,10],11,48,[(.v (.int .u64 0)),(.v (.int .u64 0)),(.v (.int .u32 0)),(.v (.int .u8 0)),(.v (.int .u8 0)),(.v (.int .u8 0)),(.v (.int .u8 0)),.v .nilFunc,.v (.pointer none),(.v (.int .i32 0)),(.v (.int .i32 0))]⟩,
 ⟨.struct [0,1,2,3,4,5,6,7,8,9,10],11,48,[(.v (.int .u64 0)),(.v (.int .u64 0)),(.v (.int .u32 0)),(.v (.int .u8 0)),(.v (.int .u8 0)),(.v (.int .u8 0)),(.v (.int .u8 0)),.v .nilFunc,.v (.pointer none),(.v (.int .i32 0)),(.v (.int .i32 0))]⟩,
 ⟨.scalar,0,0,[]⟩]
theorem zA8:zni Proofs.Tryz.prog tabA tabA.length=true:=by kernel_rfl
theorem mix_ok:Proofs.Tryz.prog.follows .mixedOrders=true:=by kernel_rfl
namespace B
open Proofs.Tryz
noncomputable abbrev Bp:Func:=f7
noncomputable abbrev Cx:Func:=f8
noncomputable abbrev Aj:Func:=f10
noncomputable abbrev Bt:Func:=f14
noncomputable abbrev Bu:Func:=f16
noncomputable abbrev Ak:Func:=f18
noncomputable abbrev AG:Func:=f19
noncomputable abbrev Cr:Func:=f20
noncomputable abbrev B5:Func:=f21
noncomputable abbrev BU:Func:=f22
noncomputable abbrev Az:Func:=f23
noncomputable abbrev AX:Func:=f24
noncomputable abbrev A1:Func:=f25
noncomputable abbrev AS:Func:=f27
noncomputable abbrev At:Func:=f28
noncomputable abbrev CN:Func:=f30
noncomputable abbrev Ai:Func:=f35
noncomputable abbrev B8:Func:=f39
noncomputable abbrev CK:Func:=f40
noncomputable abbrev Ae:Func:=f44
noncomputable abbrev CW:Func:=f45
noncomputable abbrev Bo:Func:=f46
noncomputable abbrev AT:Func:=f49
noncomputable abbrev AH:Func:=f52
noncomputable abbrev BD:Func:=f54
noncomputable abbrev Ct:Func:=f55
noncomputable abbrev A3:Func:=f56
noncomputable abbrev AL:Func:=f57
noncomputable abbrev AY:Func:=f58
noncomputable abbrev Ch:Func:=f59
noncomputable abbrev CX:Func:=f60
noncomputable abbrev CS:Func:=f61
noncomputable abbrev CC:Func:=f62
noncomputable abbrev Bk:Func:=f64
noncomputable abbrev BH:Func:=f65
noncomputable abbrev CY:Func:=f67
noncomputable abbrev Bq:Func:=f69
noncomputable abbrev BQ:Func:=f71
noncomputable abbrev Ap:Func:=f72
noncomputable abbrev BI:Func:=f77
noncomputable abbrev Aq:Func:=f79
noncomputable abbrev Bv:Func:=f81
noncomputable abbrev Cp:Func:=f83
noncomputable abbrev Bw:Func:=f84
noncomputable abbrev CZ:Func:=f85
noncomputable abbrev B2:Func:=f86
noncomputable abbrev Bx:Func:=f87
noncomputable abbrev B9:Func:=f88
noncomputable abbrev AN:Func:=f89
noncomputable abbrev Ao:Func:=f91
noncomputable abbrev A2:Func:=f93
noncomputable abbrev Ay:Func:=f102
noncomputable abbrev Au:Func:=f103
noncomputable abbrev Bl:Func:=f104
noncomputable abbrev Ax:Func:=f105
noncomputable abbrev BW:Func:=f107
noncomputable abbrev AE:Func:=f108
noncomputable abbrev Bm:Func:=f111
noncomputable abbrev AZ:Func:=f112
noncomputable abbrev BZ:Func:=f114
noncomputable abbrev Cf:Func:=f115
noncomputable abbrev CL:Func:=f116
noncomputable abbrev Cb:Func:=f117
noncomputable abbrev BJ:Func:=f119
noncomputable abbrev De:Func:=f120
noncomputable abbrev BK:Func:=f123
noncomputable abbrev BF:Func:=f125
noncomputable abbrev Ar:Func:=f128
noncomputable abbrev By:Func:=f129
noncomputable abbrev AB:Func:=f130
noncomputable abbrev Al:Func:=f132
noncomputable abbrev Bc:Func:=f134
noncomputable abbrev AA:Func:=f139
noncomputable abbrev Ah:Func:=f144
noncomputable abbrev A4:Func:=f147
noncomputable abbrev Bs:Func:=f152
noncomputable abbrev BM:Func:=f154
noncomputable abbrev Ab:Func:=f157
noncomputable abbrev Am:Func:=f158
noncomputable abbrev AC:Func:=f159
noncomputable abbrev As:Func:=f160
noncomputable abbrev Cc:Func:=f161
noncomputable abbrev B6:Func:=f163
noncomputable abbrev BN:Func:=f164
noncomputable abbrev A7:Func:=f165
noncomputable abbrev An:Func:=f166
noncomputable abbrev Cj:Func:=f170
noncomputable abbrev B3:Func:=f171
noncomputable abbrev A8:Func:=f172
noncomputable abbrev BA:Func:=f178
noncomputable abbrev AF:Func:=f184
noncomputable abbrev BX:Func:=f186
noncomputable abbrev AD:Func:=f187
noncomputable abbrev Ag:Func:=f188
noncomputable abbrev AV:Func:=f189
noncomputable abbrev CR:Func:=f194
noncomputable abbrev AR:Func:=f198
noncomputable abbrev AI:Func:=f200
noncomputable abbrev Av:Func:=f204
noncomputable abbrev Cm:Func:=f206
noncomputable abbrev CA:Func:=f209
noncomputable abbrev Bj:Func:=f216
noncomputable abbrev CG:Func:=f225
noncomputable abbrev BB:Func:=f226
noncomputable abbrev C7:Func:=f251
noncomputable abbrev BC:Func:=f256
noncomputable abbrev AJ:Func:=f263
noncomputable abbrev A0:Func:=f264
noncomputable abbrev CI:Func:=f265
noncomputable abbrev CJ:Func:=f266
noncomputable abbrev Bb:Func:=f296
noncomputable abbrev A9:Func:=f304
noncomputable abbrev AQ:Func:=f330
noncomputable abbrev BS:Func:=f333
noncomputable abbrev AK:Func:=f337
end B
abbrev ZFn (n:FuncId) (f:Func):Prop:=Proofs.Tryz.prog.funcs[n]?=some f
namespace At
open Proofs.Tryz
theorem C3:ZFn S.C3 f5:=func5
theorem DB:ZFn S.DB f6:=func6
theorem Bp:ZFn S.Bp B.Bp:=func7
theorem Cx:ZFn S.Cx B.Cx:=func8
theorem Aj:ZFn S.Aj B.Aj:=func10
theorem Dt:ZFn S.Dt f11:=func11
theorem DC:ZFn S.DC f12:=func12
theorem Bt:ZFn S.Bt B.Bt:=func14
theorem C8:ZFn S.C8 f15:=func15
theorem Bu:ZFn S.Bu B.Bu:=func16
theorem Ck:ZFn S.Ck f17:=func17
theorem Ak:ZFn S.Ak B.Ak:=func18
theorem AG:ZFn S.AG B.AG:=func19
theorem Cr:ZFn S.Cr B.Cr:=func20
theorem B5:ZFn S.B5 B.B5:=func21
theorem BU:ZFn S.BU B.BU:=func22
theorem Az:ZFn S.Az B.Az:=func23
theorem AX:ZFn S.AX B.AX:=func24
theorem A1:ZFn S.A1 B.A1:=func25
theorem Ce:ZFn S.Ce f26:=func26
theorem AS:ZFn S.AS B.AS:=func27
theorem At:ZFn S.At B.At:=func28
theorem Aw:ZFn S.Aw f29:=func29
theorem CN:ZFn S.CN B.CN:=func30
theorem DJ:ZFn S.DJ f31:=func31
theorem DK:ZFn S.DK f32:=func32
theorem DD:ZFn S.DD f33:=func33
theorem Dc:ZFn S.Dc f34:=func34
theorem Ai:ZFn S.Ai B.Ai:=func35
theorem Be:ZFn S.Be f36:=func36
theorem Dl:ZFn S.Dl f37:=func37
theorem Dq:ZFn S.Dq f38:=func38
theorem B8:ZFn S.B8 B.B8:=func39
theorem CK:ZFn S.CK B.CK:=func40
theorem Ac:ZFn S.Ac f41:=func41
theorem Af:ZFn S.Af f42:=func42
theorem BY:ZFn S.BY f43:=func43
theorem Ae:ZFn S.Ae B.Ae:=func44
theorem CW:ZFn S.CW B.CW:=func45
theorem Bo:ZFn S.Bo B.Bo:=func46
theorem Cs:ZFn S.Cs f47:=func47
theorem Di:ZFn S.Di f48:=func48
theorem AT:ZFn S.AT B.AT:=func49
theorem AP:ZFn S.AP f50:=func50
theorem AU:ZFn S.AU f51:=func51
theorem AH:ZFn S.AH B.AH:=func52
theorem DI:ZFn S.DI f53:=func53
theorem BD:ZFn S.BD B.BD:=func54
theorem Ct:ZFn S.Ct B.Ct:=func55
theorem A3:ZFn S.A3 B.A3:=func56
theorem AL:ZFn S.AL B.AL:=func57
theorem AY:ZFn S.AY B.AY:=func58
theorem Ch:ZFn S.Ch B.Ch:=func59
theorem CX:ZFn S.CX B.CX:=func60
theorem CS:ZFn S.CS B.CS:=func61
theorem CC:ZFn S.CC B.CC:=func62
theorem DL:ZFn S.DL f63:=func63
theorem Bk:ZFn S.Bk B.Bk:=func64
theorem BH:ZFn S.BH B.BH:=func65
theorem Dm:ZFn S.Dm f66:=func66
theorem CY:ZFn S.CY B.CY:=func67
theorem Dk:ZFn S.Dk f68:=func68
theorem Bq:ZFn S.Bq B.Bq:=func69
theorem B1:ZFn S.B1 f70:=func70
theorem BQ:ZFn S.BQ B.BQ:=func71
theorem Ap:ZFn S.Ap B.Ap:=func72
theorem C5:ZFn S.C5 f73:=func73
theorem A5:ZFn S.A5 f74:=func74
theorem AO:ZFn S.AO f75:=func75
theorem BV:ZFn S.BV f76:=func76
theorem BI:ZFn S.BI B.BI:=func77
theorem C0:ZFn S.C0 f78:=func78
theorem Aq:ZFn S.Aq B.Aq:=func79
theorem C6:ZFn S.C6 f80:=func80
theorem Bv:ZFn S.Bv B.Bv:=func81
theorem A6:ZFn S.A6 f82:=func82
theorem Cp:ZFn S.Cp B.Cp:=func83
theorem Bw:ZFn S.Bw B.Bw:=func84
theorem CZ:ZFn S.CZ B.CZ:=func85
theorem B2:ZFn S.B2 B.B2:=func86
theorem Bx:ZFn S.Bx B.Bx:=func87
theorem B9:ZFn S.B9 B.B9:=func88
theorem AN:ZFn S.AN B.AN:=func89
theorem C9:ZFn S.C9 f90:=func90
theorem Ao:ZFn S.Ao B.Ao:=func91
theorem BE:ZFn S.BE f92:=func92
theorem A2:ZFn S.A2 B.A2:=func93
theorem Dn:ZFn S.Dn f94:=func94
theorem Cu:ZFn S.Cu f95:=func95
theorem Ca:ZFn S.Ca f96:=func96
theorem DM:ZFn S.DM f97:=func97
theorem Bg:ZFn S.Bg f98:=func98
theorem Dr:ZFn S.Dr f99:=func99
theorem DA:ZFn S.DA f100:=func100
theorem DE:ZFn S.DE f101:=func101
theorem Ay:ZFn S.Ay B.Ay:=func102
theorem Au:ZFn S.Au B.Au:=func103
theorem Bl:ZFn S.Bl B.Bl:=func104
theorem Ax:ZFn S.Ax B.Ax:=func105
theorem Aa:ZFn S.Aa f106:=func106
theorem BW:ZFn S.BW B.BW:=func107
theorem AE:ZFn S.AE B.AE:=func108
theorem Dx:ZFn S.Dx f109:=func109
theorem Do:ZFn S.Do f110:=func110
theorem Bm:ZFn S.Bm B.Bm:=func111
theorem AZ:ZFn S.AZ B.AZ:=func112
theorem Dd:ZFn S.Dd f113:=func113
theorem BZ:ZFn S.BZ B.BZ:=func114
theorem Cf:ZFn S.Cf B.Cf:=func115
theorem CL:ZFn S.CL B.CL:=func116
theorem Cb:ZFn S.Cb B.Cb:=func117
theorem Dj:ZFn S.Dj f118:=func118
theorem BJ:ZFn S.BJ B.BJ:=func119
theorem De:ZFn S.De B.De:=func120
theorem CD:ZFn S.CD f121:=func121
theorem Du:ZFn S.Du f122:=func122
theorem BK:ZFn S.BK B.BK:=func123
theorem BL:ZFn S.BL f124:=func124
theorem BF:ZFn S.BF B.BF:=func125
theorem CT:ZFn S.CT f126:=func126
theorem Dp:ZFn S.Dp f127:=func127
theorem Ar:ZFn S.Ar B.Ar:=func128
theorem By:ZFn S.By B.By:=func129
theorem AB:ZFn S.AB B.AB:=func130
theorem BT:ZFn S.BT f131:=func131
theorem Al:ZFn S.Al B.Al:=func132
theorem CE:ZFn S.CE f133:=func133
theorem Bc:ZFn S.Bc B.Bc:=func134
theorem DF:ZFn S.DF f135:=func135
theorem Dw:ZFn S.Dw f138:=func138
theorem AA:ZFn S.AA B.AA:=func139
theorem Ci:ZFn S.Ci f140:=func140
theorem Bn:ZFn S.Bn f141:=func141
theorem Br:ZFn S.Br f142:=func142
theorem Cy:ZFn S.Cy f143:=func143
theorem Ah:ZFn S.Ah B.Ah:=func144
theorem Bi:ZFn S.Bi f145:=func145
theorem Cq:ZFn S.Cq f146:=func146
theorem A4:ZFn S.A4 B.A4:=func147
theorem Cz:ZFn S.Cz f151:=func151
theorem Bs:ZFn S.Bs B.Bs:=func152
theorem Cl:ZFn S.Cl f153:=func153
theorem BM:ZFn S.BM B.BM:=func154
theorem CM:ZFn S.CM f155:=func155
theorem CU:ZFn S.CU f156:=func156
theorem Ab:ZFn S.Ab B.Ab:=func157
theorem Am:ZFn S.Am B.Am:=func158
theorem AC:ZFn S.AC B.AC:=func159
theorem As:ZFn S.As B.As:=func160
theorem Cc:ZFn S.Cc B.Cc:=func161
theorem Ad:ZFn S.Ad f162:=func162
theorem B6:ZFn S.B6 B.B6:=func163
theorem BN:ZFn S.BN B.BN:=func164
theorem A7:ZFn S.A7 B.A7:=func165
theorem An:ZFn S.An B.An:=func166
theorem DG:ZFn S.DG f167:=func167
theorem CO:ZFn S.CO f168:=func168
theorem Bz:ZFn S.Bz f169:=func169
theorem Cj:ZFn S.Cj B.Cj:=func170
theorem B3:ZFn S.B3 B.B3:=func171
theorem A8:ZFn S.A8 B.A8:=func172
theorem DH:ZFn S.DH f175:=func175
theorem Df:ZFn S.Df f176:=func176
theorem BA:ZFn S.BA B.BA:=func178
theorem CP:ZFn S.CP f179:=func179
theorem C4:ZFn S.C4 f182:=func182
theorem CF:ZFn S.CF f183:=func183
theorem AF:ZFn S.AF B.AF:=func184
theorem Cv:ZFn S.Cv f185:=func185
theorem BX:ZFn S.BX B.BX:=func186
theorem AD:ZFn S.AD B.AD:=func187
theorem Ag:ZFn S.Ag B.Ag:=func188
theorem AV:ZFn S.AV B.AV:=func189
theorem Dv:ZFn S.Dv f190:=func190
theorem CR:ZFn S.CR B.CR:=func194
theorem Dg:ZFn S.Dg f195:=func195
theorem Dh:ZFn S.Dh f196:=func196
theorem Bh:ZFn S.Bh f197:=func197
theorem AR:ZFn S.AR B.AR:=func198
theorem Ds:ZFn S.Ds f199:=func199
theorem AI:ZFn S.AI B.AI:=func200
theorem Cg:ZFn S.Cg f201:=func201
theorem Da:ZFn S.Da f202:=func202
theorem Av:ZFn S.Av B.Av:=func204
theorem C1:ZFn S.C1 f205:=func205
theorem Cm:ZFn S.Cm B.Cm:=func206
theorem CQ:ZFn S.CQ f208:=func208
theorem CA:ZFn S.CA B.CA:=func209
theorem BR:ZFn S.BR f212:=func212
theorem CB:ZFn S.CB f214:=func214
theorem C2:ZFn S.C2 f215:=func215
theorem Bj:ZFn S.Bj B.Bj:=func216
theorem Cn:ZFn S.Cn f217:=func217
theorem Dy:ZFn S.Dy f218:=func218
theorem BO:ZFn S.BO f223:=func223
theorem Bd:ZFn S.Bd f224:=func224
theorem CG:ZFn S.CG B.CG:=func225
theorem BB:ZFn S.BB B.BB:=func226
theorem CH:ZFn S.CH f234:=func234
theorem BP:ZFn S.BP f235:=func235
theorem C7:ZFn S.C7 B.C7:=func251
theorem Bf:ZFn S.Bf f252:=func252
theorem Co:ZFn S.Co f254:=func254
theorem BC:ZFn S.BC B.BC:=func256
theorem AJ:ZFn S.AJ B.AJ:=func263
theorem A0:ZFn S.A0 B.A0:=func264
theorem CI:ZFn S.CI B.CI:=func265
theorem CJ:ZFn S.CJ B.CJ:=func266
theorem B7:ZFn S.B7 f267:=func267
theorem B0:ZFn S.B0 f278:=func278
theorem CV:ZFn S.CV f290:=func290
theorem Db:ZFn S.Db f293:=func293
theorem Bb:ZFn S.Bb B.Bb:=func296
theorem A9:ZFn S.A9 B.A9:=func304
theorem Cw:ZFn S.Cw f317:=func317
theorem AM:ZFn S.AM f318:=func318
theorem B4:ZFn S.B4 f319:=func319
theorem AW:ZFn S.AW f321:=func321
theorem AQ:ZFn S.AQ B.AQ:=func330
theorem Cd:ZFn S.Cd f331:=func331
theorem Ba:ZFn S.Ba f332:=func332
theorem BS:ZFn S.BS B.BS:=func333
theorem BG:ZFn S.BG f334:=func334
theorem AK:ZFn S.AK B.AK:=func337
end At
theorem Rel.nilRow {E:Env0} {h:Heap} {β:List Con} {S:Addr->Prop} {w:World} (r:Rel E h β S w) (e:TypeId) (a:Option Addr) :
  Ext h β S w (h++[Blk.row e [] false]) (β++[.nil a]) S w/\Rel E (h++[Blk.row e [] false]) (β++[.nil a]) S w :=
 r.newRow e [] false (.nil a) ⟨⟨rfl,rfl,rfl,yJ _,fun _ _=>rfl⟩,yJ _⟩ (fun g hg=>by cases hg) rfl
theorem zlF {T:TypeId->TI} {h:Heap} {β:List Con} {S:Addr->Prop} {w:World} {v:Value} (hv:RelV T h β w S .nl v):∃ a,v=.slice a 0 0:=by
 cases hv with
 | d _ _ hd=>cases hd
 | nl a=>exact ⟨a,rfl⟩
theorem Rel.ownNil {E:Env0} {h:Heap} {β:List Con} {S:Addr->Prop} {w:World} (r:Rel E h β S w) (e:TypeId) (a:Option Addr) :
  RelV E.T (h++[Blk.row e [] false]) (β++[.nil a]) w S (.own h.length 0) (.slice a 0 0) :=
 .own _ _ _ e [] false (getElem?_append_new _ _) (yJ _) (fun _=>by rw [← r.len,getElem?_append_new];rfl) rfl
theorem zzu {E:Env0} {fn:Func} {h0:Heap} {c:Cfg} {R:AV->Heap->Prop} (t:Nat) (e:TypeId) (hc:look c.ts t=.nl)
  (hg:Good E fn h0 ⟨c.n,c.todo,(t,.own c.h.length 0)::c.ts,c.h++[Blk.row e [] false]⟩ R):Good E fn h0 c R:=by
 intro β0 S0 w0 β S w tmps hb0 hn x0 r rt
 have ht:=rt t
 rw [hc] at ht
 obtain ⟨a,ha⟩:=zlF ht
 obtain ⟨x1,r1⟩:=r.nilRow e a
 refine hg β0 S0 w0 _ S w tmps hb0 hn (x0.trans x1) r1 fun t'=>?_
 simp only [look]
 cases hb:Nat.beq t t' with
 | true =>
  have:=yN hb
  subst this
  simp only
  rw [ha]
  exact r.ownNil e a
 | false=>exact (rt t').ext x1
theorem zeH {E:Env0} {fn:Func} {h0 H:Heap} {c:Cfg} {R:AV->Heap->Prop} (e:TypeId) (hg:Good E fn h0 c fun r h=>r=.nl/\h=H)
  (hR:R (.own H.length 0) (H++[Blk.row e [] false])):Good E fn h0 c R:=by
 intro β0 S0 w0 β S w tmps hb0 hn x0 r rt
 refine zdC (zrk fun en w' hp=>?_) _ _ _ _ (hg β0 S0 w0 β S w tmps hb0 hn x0 r rt)
 obtain ⟨y,h',β',S',v,he,⟨rfl,rfl⟩,r',x',hv⟩:=hp
 obtain ⟨a,rfl⟩:=zlF hv
 obtain ⟨x1,r1⟩:=r'.nilRow e a
 exact ⟨_,_,_,S',_,he,hR,r1,x'.trans x1,r'.ownNil e a⟩
theorem zfw {h:Heap} {β:List Con} {S:Addr->Prop} {w:World} {b:Nat} {cs:List AV} (hb:h[b]?=some (.box cs)) (cs':List AV):Ext h β S w (h.set b (.box cs')) β S w :=
 { Ext.refl h β S w with
  box:=fun b' cs1 h1=>by
   by_cases hbb:b=b'
   ·subst hbb
    exact ⟨cs',by rw [yAI (yB.1 hb).1]⟩
   ·exact ⟨cs1,by rw [yZ hbb];exact h1⟩
  row:=fun b' e xs sh h1=>by
   have hbb:b≠b':=fun e=>by subst e;rw [hb] at h1;cases h1
   exact ⟨xs,sh,by rw [yZ hbb];exact h1,yJ _,fun _=>rfl⟩
  mp:=fun b' es h1=>by
   have hbb:b≠b':=fun e=>by subst e;rw [hb] at h1;cases h1
   exact ⟨es,by rw [yZ hbb];exact h1⟩ }
theorem Rel.setBox {E:Env0} {h:Heap} {β:List Con} {S:Addr->Prop} {w:World} (r:Rel E h β S w) {b:Nat} {cs:List AV} (hb:h[b]?=some (.box cs)) (cs':List AV)
  (hc:∀ (g:Nat) (vs:List Value) (t:TypeId),β[b]?=some (.box g)->w.heap[g]?=some (.cells vs.toArray t (0,0))->cs.length=vs.length->(∀ (i:Nat) (x:AV) (y:Value),cs[i]?=some x->vs[i]?=some y->RelV E.T h β w S x y/\y.oneCell'=true) ->
   cs'.length=vs.length/\∀ (i:Nat) (x:AV) (y:Value),cs'[i]?=some x->vs[i]?=some y->RelV E.T h β w S x y/\y.oneCell'=true):Rel E (h.set b (.box cs')) β S w:=by
 have x:=zfw (β:=β) (S:=S) (w:=w) hb cs'
 have ne:∀ {b':Nat} {e:TypeId} {xs:List (List AV)} {sh:Bool},(h.set b (.box cs'))[b']?=some (.row e xs sh)->b≠b'/\h[b']?=some (.row e xs sh):=by
  intro b' e xs sh h1
  by_cases hbb:b=b'
  ·subst hbb
   rw [yAI (yB.1 hb).1] at h1
   cases h1
  ·rw [yZ hbb] at h1
   exact ⟨hbb,h1⟩
 have nem:∀ {b':Nat} {es:List (AV × AV)},(h.set b (.box cs'))[b']?=some (.mp es)->h[b']?=some (.mp es):=by
  intro b' es h1
  by_cases hbb:b=b'
  ·subst hbb
   rw [yAI (yB.1 hb).1] at h1
   cases h1
  ·rw [yZ hbb] at h1
   exact h1
 refine { r with len:=by simpa using r.len,box:=?_,row:=fun b' e xs sh h1=>r.row b' e xs sh (ne h1).2,mp:=fun b' es h1=>r.mp b' es (nem h1),free:=?_ }
 ·intro b' cs1 h1
  by_cases hbb:b=b'
  ·subst hbb
   rw [yAI (yB.1 hb).1] at h1
   cases h1
   obtain ⟨g,vs,t,h2,h3,h4,h5⟩:=r.box b cs hb
   obtain ⟨h6,h7⟩:=hc g vs t h2 h3 h4 h5
   exact ⟨g,vs,t,h2,h3,h6,fun i y z hy hz=>⟨(h7 i y z hy hz).1.ext x,(h7 i y z hy hz).2⟩⟩
  ·rw [yZ hbb] at h1
   obtain ⟨g,vs,t,h2,h3,h4,h5⟩:=r.box b' cs1 h1
   exact ⟨g,vs,t,h2,h3,h4,fun i y z hy hz=>⟨(h5 i y z hy hz).1.ext x,(h5 i y z hy hz).2⟩⟩
 ·intro b' k g a h1 h2 h3 h4
  obtain ⟨e,xs,h5,h6⟩:=r.free b' k g a h1 h2 h3 h4
  have hbb:b≠b':=fun e=>by subst e;rw [hb] at h5;cases h5
  exact ⟨e,xs,by rw [yZ hbb];exact h5,h6⟩
theorem zuH {E:Env0} {fn:Func} {h0:Heap} {c:Cfg} {R:AV->Heap->Prop} (b i:Nat) (e:TypeId) {cs:List AV} (hb:c.h[b]?=some (.box cs)) (hi:cs[i]?=some .nl)
  (hg:Good E fn h0 ⟨c.n,c.todo,c.ts,(c.h++[Blk.row e [] false]).set b (.box (cs.set i (.own c.h.length 0)))⟩ R):Good E fn h0 c R:=by
 intro β0 S0 w0 β S w tmps hb0 hn x0 r rt
 obtain ⟨g,vs,t,h2,h3,h4,h5⟩:=r.box b cs hb
 have hil:i < vs.length:=by rw [← h4];exact (yB.1 hi).1
 have hv:=h5 i .nl vs[i] hi (by simp [hil])
 obtain ⟨a,ha⟩:=zlF hv.1
 obtain ⟨x1,r1⟩:=r.nilRow e a
 have hb1:(c.h++[Blk.row e [] false])[b]?=some (.box cs):=by rw [yH (yB.1 hb).1];exact hb
 have x2:=zfw (β:=β++[.nil a]) (S:=S) (w:=w) hb1 (cs.set i (.own c.h.length 0))
 have r2:=r1.setBox hb1 (cs.set i (.own c.h.length 0)) (fun g' vs' t' e2 e3 e4 e5=>by
  refine ⟨by simpa using e4,fun j x y hx hy=>?_⟩
  by_cases hij:i=j
  ·subst hij
   rw [yAI (yB.1 hi).1] at hx
   cases hx
   have:=e5 i .nl y hi hy
   refine ⟨?_,this.2⟩
   have hg:(β++[Con.nil a])[b]?=some (.box g):=x1.con b g h2
   rw [hg] at e2
   cases e2
   rw [h3] at e3
   have hvs:vs=vs':=by
    have e6:vs.toArray=vs'.toArray:=by injection e3 with e3;injection e3
    simpa using congrArg Array.toList e6
   subst hvs
   have:y=vs[i]:=by
    rw [yE hil] at hy
    cases hy
    rfl
   rw [this,ha]
   exact r.ownNil e a
  ·rw [yZ hij] at hx
   exact e5 j x y hx hy)
 exact hg β0 S0 w0 _ S w tmps hb0 hn ((x0.trans x1).trans x2) r2 fun t'=>((rt t').ext x1).ext x2
theorem zgM {E:Env0} {fn:Func} {h0:Heap} {c c':Cfg} {R:AV->Heap->Prop} (t:Nat) (e:TypeId) (live:List Nat) (m:Nat) (hc:look c.ts t=.nl) (hm:Nat.ble h0.length m=true)
  (he:cut live m ⟨c.n,c.todo,(t,.own c.h.length 0)::c.ts,c.h++[Blk.row e [] false]⟩=c') (hg:Good E fn h0 c' R):Good E fn h0 c R :=
 zzu t e hc (zdE live m (yI hm) (he ▸ hg))
theorem zkq {E:Env0} {fn:Func} {h0:Heap} {c c':Cfg} {R:AV->Heap->Prop} (b i:Nat) (e:TypeId) (live:List Nat) (m:Nat) {cs:List AV} (hb:c.h[b]?=some (.box cs)) (hi:cs[i]?=some .nl) (hm:Nat.ble h0.length m=true)
  (he:cut live m ⟨c.n,c.todo,c.ts,(c.h++[Blk.row e [] false]).set b (.box (cs.set i (.own c.h.length 0)))⟩=c') (hg:Good E fn h0 c' R):Good E fn h0 c R :=
 zuH b i e hb hi (zdE live m (yI hm) (he ▸ hg))
theorem zwL {E:Env0} {fn:Func} {h0:Heap} {c c':Cfg} {R:AV->Heap->Prop} (t:Nat) (b:Bool) (live:List Nat) (m:Nat) (hc:look c.ts t=.bl b) (hm:Nat.ble h0.length m=true)
  (he:cut live m ⟨c.n,c.todo,(t,.v (.bool b))::c.ts,c.h⟩=c') (hg:Good E fn h0 c' R):Good E fn h0 c R:=by
 have hg':=zdE live m (yI hm) (he ▸ hg)
 intro β0 S0 w0 β S w tmps hb0 hn x0 r rt
 refine hg' β0 S0 w0 β S w tmps hb0 hn x0 r fun t'=>?_
 simp only [look]
 cases hb:Nat.beq t t' with
 | true =>
  have:=yN hb
  subst this
  have ht:=rt t
  rw [hc] at ht
  rw [ht.bl_inv]
  exact zcF _
 | false=>exact rt t'
theorem zuG {E:Env0} {fn:Func} {h0:Heap} {c c':Cfg} {R:AV->Heap->Prop} (t:Nat) {v:AV} {q:Prop} (live:List Nat) (m:Nat) (hc:look c.ts t=v) (hq:frzO c.h v=q) (ho:q) (hm:Nat.ble h0.length m=true)
  (he:cut live m ⟨c.n,c.todo,(t,frz c.h v)::c.ts,share c.h (frzM v)⟩=c') (hg:Good E fn h0 c' R):Good E fn h0 c R:=by
 have hg':=zdE live m (yI hm) (he ▸ hg)
 intro β0 S0 w0 β S w tmps hb0 hn x0 r rt
 have hv:=rt t
 rw [hc] at hv
 obtain ⟨S',⟨x1,r1⟩,d1⟩:=zo4 E v c.h β S w _ r hv (by rw [hq];exact ho)
 refine hg' β0 S0 w0 β S' w tmps hb0 hn (x0.trans x1) r1 fun t'=>?_
 simp only [look]
 cases hb:Nat.beq t t' with
 | true =>
  have:=yN hb
  subst this
  exact .d _ _ d1
 | false=>exact (rt t').ext x1
theorem zwM {E:Env0} {fn:Func} {h0:Heap} {c c':Cfg} {R:AV->Heap->Prop} (t b n:Nat) (live:List Nat) (m:Nat) (hc:look c.ts t=.own b n) (hm:Nat.ble h0.length m=true)
  (he:cut live m ⟨c.n,c.todo,(t,.os b n 0 n)::c.ts,c.h⟩=c') (hg:Good E fn h0 c' R):Good E fn h0 c R:=by
 have hg':=zdE live m (yI hm) (he ▸ hg)
 intro β0 S0 w0 β S w tmps hb0 hn x0 r rt
 refine hg' β0 S0 w0 β S w tmps hb0 hn x0 r fun t'=>?_
 simp only [look]
 cases hb:Nat.beq t t' with
 | true =>
  have:=yN hb
  subst this
  have ht:=rt t
  rw [hc] at ht
  exact r.own_os ht
 | false=>exact rt t'
theorem zrJ {E:Env0} {fn:Func} {h0:Heap} {c c':Cfg} {R:AV->Heap->Prop} (b i:Nat) (x:Bool) (live:List Nat) (m:Nat) {cs:List AV} (hb:c.h[b]?=some (.box cs)) (hi:cs[i]?=some (.bl x)) (hm:Nat.ble h0.length m=true)
  (he:cut live m ⟨c.n,c.todo,c.ts,c.h.set b (.box (cs.set i (.v (.bool x))))⟩=c') (hg:Good E fn h0 c' R):Good E fn h0 c R:=by
 have hg':=zdE live m (yI hm) (he ▸ hg)
 intro β0 S0 w0 β S w tmps hb0 hn x0 r rt
 have x2:=zfw (β:=β) (S:=S) (w:=w) hb (cs.set i (.v (.bool x)))
 have r2:=r.setBox hb (cs.set i (.v (.bool x))) (fun g' vs' t' e2 e3 e4 e5=>by
  refine ⟨by simpa using e4,fun j x' y hx hy=>?_⟩
  by_cases hij:i=j
  ·subst hij
   rw [yAI (yB.1 hi).1] at hx
   cases hx
   have:=e5 i (.bl x) y hi hy
   refine ⟨?_,this.2⟩
   rw [this.1.bl_inv]
   exact zcF _
  ·rw [yZ hij] at hx
   exact e5 j x' y hx hy)
 exact hg' β0 S0 w0 β S w tmps hb0 hn (x0.trans x2) r2 fun t'=>(rt t').ext x2
theorem zas {E:Env0} {fn:Func} {h0:Heap} {n:Nat} {todo:List It} {ts ts':TS} {h h':Heap} {R:AV->Heap->Prop} (e1:ts=ts') (e2:h=h') (hg:Good E fn h0 ⟨n,todo,ts',h'⟩ R):Good E fn h0 ⟨n,todo,ts,h⟩ R:=by
 subst e1;subst e2;exact hg
structure St where
 o:List Orc
 p:List Prop
 h:allP p
def orcs:List St->List Orc
 | []=>[]
 | s::r=>s.o++orcs r
def zbe:List St->List Prop
 | []=>[]
 | s::r=>s.p++zbe r
theorem zsw:∀ {a b:List Prop},allP a->allP b->allP (a++b)
 | [],_,_,hb=>hb
 | [_],[],ha,_=>ha
 | [_],_::_,ha,hb=>⟨ha,hb⟩
 | _::q::r,_,ha,hb=>⟨ha.1,zsw (a:=q::r) ha.2 hb⟩
theorem za7:∀ l:List St,allP (zbe l)
 | []=>trivial
 | s::r=>zsw s.h (za7 r)
def sb {c b:Bool} (h:c=b):St:=⟨[.b b],[c=b],h⟩
def si {e n:Int} (h:e=n):St:=⟨[.i n],[e=n],h⟩
def se {xs:List (List AV)} {i:Int} {c:List AV} {n:Nat} (h:ElAt xs i c n):St:=⟨[.el c],[ElAt xs i c n],h⟩
def sa {cs:List AV} {i:Int} {n:Nat} {c:List AV} {k:Nat} (h:ArrAt cs i n c k):St:=⟨[.el c],[ArrAt cs i n c k],h⟩
def sy {s:ByteArray} {i n:Int} (h:ByteAt s i n):St:=⟨[.i n],[ByteAt s i n],h⟩
def sc {E:Env0} {f:FuncId} {args:List AV} {r:AV} {h':Heap} (h:zab E f args [] r h'):St:=⟨[.call [] r h'],[zab E f args [] r h'],h⟩
def sl {E:Env0} {f:FuncId} {args:List AV} {hl:Heap} {r:AV} {h':Heap} (lend:List Nat) (h:zab E f args hl r h'):St:=⟨[.call lend r h'],[zab E f args hl r h'],h⟩
def sln {E:Env0} {f:FuncId} {args:List AV} {hl:Heap} {r:AV} {h':Heap} (lend:List Nat) (h:zab E f args hl r h'):St:=⟨[.calln lend r h'],[zab E f args hl r h'],h⟩
def sk {E:Env0} {f:FuncId} {args:List AV} {hl:Heap} {r:AV} {h':Heap} {p:Prop} (hp:p) (lend:List Nat) (h:zab E f args hl r h'):St:=⟨[.call lend r h'],[p/\zab E f args hl r h'],⟨hp,h⟩⟩
theorem conv {E:Env0} {f:FuncId} {args args':List AV} {hl hl':Heap} {r:AV} {h':Heap} (h:zab E f args' hl' r h') (e1:args=args') (e2:hl=hl'):zab E f args hl r h':=by
 subst e1;subst e2;exact h
def sq {p:Prop} (h:p):St:=⟨[],[p],h⟩
def sx (o:Orc) {p:Prop} (h:p):St:=⟨[o],[p],h⟩
def sg {c b:Bool} (h:c=b):St:=⟨[.b b],[c=b/\True],⟨h,trivial⟩⟩
def so {c b:Bool} (h:c=b) (s:St):St:=⟨.b b::s.o,[c=b/\allP s.p],⟨h,s.h⟩⟩
def zr7:List (Nat × List St)->List (Nat × List Orc)
 | []=>[]
 | (i,l)::r=>(i,orcs l)::zr7 r
def zo1:List (Nat × List St)->List St
 | []=>[]
 | (_,l)::r=>l++zo1 r
def sd (l:List (Nat × List St)):St:=⟨[.draw (zr7 l)],[allP (zbe (zo1 l))],za7 _⟩
def zxd (p:Prop) (ts:TS) (h:Heap):Nat->Prop
 | 0=>True
 | n+1=>(p/\ts=ts/\h=h)/\zxd p ts h n
theorem ztZ {p:Prop} (hp:p) (ts:TS) (h:Heap):∀ n,zxd p ts h n
 | 0=>trivial
 | n+1=>⟨⟨hp,rfl,rfl⟩,ztZ hp ts h n⟩
def sdm (l:List (Nat × List St)) (n:Nat) (ts:TS) (h:Heap):St:=⟨[.draw (zr7 l)],[allP (zbe (zo1 l))/\zxd (allP (zbe (zo1 l))) ts h (n+1)],⟨za7 _,ztZ (za7 _) ts h _⟩⟩
theorem walk {E : Env0} (ht : zaH E) (hmix : E.P.follows .mixedOrders = true) {f : FuncId} {fn : Func} {c : Code} {args : List AV} {r y : AV} (hf : E.P.funcs[f]? = some fn) (hb : fn.body = some c) (hname : (fn.name == "runtime.NumGoroutine") = false)
  (hn:Nat.ble args.length fn.ntmps=true) (n:Nat) (l:List St) (hfin:fin (mk E) fn 0 n ⟨fn.ntmps,[.code c],zbV 0 args,[]⟩ (orcs l)=some (zbe l,y,[])) (hr:y=r):zab E f args [] r [] :=
 zhC ht hmix hf hb hname hn n (orcs l) hfin (za7 l) ⟨hr,rfl⟩
theorem walkH {E : Env0} (ht : zaH E) (hmix : E.P.follows .mixedOrders = true) {f : FuncId} {fn : Func} {c : Code} {args : List AV} {h : Heap} {r y : AV} {H H' : Heap} (hf : E.P.funcs[f]? = some fn) (hb : fn.body = some c) (hname : (fn.name == "runtime.NumGoroutine") = false)
  (hn:Nat.ble args.length fn.ntmps=true) (n:Nat) (l:List St) (hfin:fin (mk E) fn h.length n ⟨fn.ntmps,[.code c],zbV 0 args,h⟩ (orcs l)=some (zbe l,y,H)) (hr:y=r/\H=H'):zab E f args h r H' :=
 zhC ht hmix hf hb hname hn n (orcs l) hfin (za7 l) hr
def upto (E:Env) (live:List Nat) (m n:Nat) (c:Cfg) (os:List Orc):List Prop × Cfg:=match run E n c os with
 | (q,c',_)=>(q,cut live m c')
theorem zdz {E:Env0} (ht:zaH E) (hmix:E.P.follows .mixedOrders=true) {fn:Func} {R:AV->Heap->Prop} {h0:Heap} {c c':Cfg} (n:Nat) (l:List St) (live:List Nat) (m:Nat) (hm:Nat.ble h0.length m=true)
  (hu:upto (mk E) live m n c (orcs l)=(zbe l,c')) (hg:Good E fn h0 c' R):Good E fn h0 c R:=by
 unfold upto at hu
 have h1:(run (mk E) n c (orcs l)).1=zbe l:=by
  have:=congrArg Prod.fst hu
  exact this
 have h2:cut live m (run (mk E) n c (orcs l)).2.1=c':=congrArg Prod.snd hu
 exact znA ht hmix n (orcs l) live m hm h1 h2 (za7 l) hg
theorem zgS {E:Env0} (ht:zaH E) (hmix:E.P.follows .mixedOrders=true) {fn:Func} {R:AV->Heap->Prop} {h0:Heap} {c:Cfg} {y:AV} {H:Heap} {m:Nat} (n:Nat) (l:List St)
  (hfin:fin (mk E) fn m n c (orcs l)=some (zbe l,y,H)) (hR:R y H):Good E fn h0 c (Shut m R) :=
 zlt ht hmix n (orcs l) hfin (za7 l) hR
theorem zdW {E:Env0} (ht:zaH E) (hmix:E.P.follows .mixedOrders=true) {fn:Func} {R:AV->Heap->Prop} {h0:Heap} {c:Cfg} {y:AV} {H:Heap} (n:Nat) (l:List St)
  (hfin:finK (mk E) fn n c (orcs l)=some (zbe l,y,H)) (hR:R y H):Good E fn h0 c R :=
 zqT ht hmix n (orcs l) hfin (za7 l) hR
theorem zyg {E:Env0} (ht:zaH E) (hmix:E.P.follows .mixedOrders=true) {f:FuncId} {fn:Func} {c:Code} {args:List AV} {h:Heap} {R:AV->Heap->Prop} (hf:E.P.funcs[f]?=some fn) (hb:fn.body=some c)
  (hname : (fn.name == "runtime.NumGoroutine") = false) (hn : Nat.ble args.length fn.ntmps = true) (n : Nat) (l : List St) (live : List Nat) (m : Nat) {c' : Cfg} (hm : Nat.ble h.length m = true)
  (hu:upto (mk E) live m n ⟨fn.ntmps,[.code c],zbV 0 args,h⟩ (orcs l)=(zbe l,c')) (hg:Good E fn h c' R):zbY E f args h R :=
 za6 hf hb hname (yI hn) (zdz ht hmix n l live m hm hu hg)
theorem zig {E:Env0} (ht:zaH E) (hmix:E.P.follows .mixedOrders=true) {f:FuncId} {fn:Func} {c:Code} {args:List AV} {h:Heap} {R:AV->Heap->Prop} (hf:E.P.funcs[f]?=some fn) (hb:fn.body=some c)
  (hname : (fn.name == "runtime.NumGoroutine") = false) (hn : Nat.ble args.length fn.ntmps = true) (n : Nat) (l : List St) (live : List Nat) (m : Nat) {c' : Cfg} (hm : Nat.ble h.length m = true)
  (hu:upto (mk E) live m n ⟨fn.ntmps,[.code c],zbV 0 args,h⟩ (orcs l)=(zbe l,c')) (hg:Good E fn h c' (Shut h.length R)):zbY E f args h R :=
 zd6 (za6 hf hb hname (yI hn) (zdz ht hmix n l live m hm hu hg))
end Go.AM
namespace Go.AM
open Go.RowKit
theorem zvD {x:Value} {k:IntKind} (h:shp x=.int k):∃ a,x=.int k a:=by
 cases x <;> simp [shp] at h
 rename_i k' n;subst h;exact ⟨n,rfl⟩
def znO (t:TI):Shp->Bool
 | .int _=>match t.kind with|.int _=>Nat.beq t.size 1&&!t.isAgg|_=>false
 | .str=>match t.kind with|.str=>Nat.beq t.size 1&&!t.isAgg|_=>false
 | .bool=>match t.kind with|.bool=>Nat.beq t.size 1&&!t.isAgg|_=>false
 | .other=>false
def flat (T:TypeId->TI):Nat->List Field->List Shp->Bool
 | _,[],[]=>true
 | i, f :: fs, s :: ss => (f.name != "_") && Nat.beq f.offset i && znO (T f.type) s && flat T (i + 1) fs ss
 | _,_,_=>false
theorem eqCell {E:Env0} (ht:zaH E) {t:TypeId} {x y:Value} {r:Bool} (d:Nat) (hs:znO (E.T t) (shp x)=true) (he:zdp x y=some r) (w:World):(Op.equalIn (d+1) t x y).run E.P w=.ok r w:=by
 cases x <;> simp [shp,znO] at hs
 case bool a =>
  split at hs
  ·rename_i hk
   obtain ⟨i,dd,z,tok⟩:=ht.at_ (t:=t) (by intro h;rw [h] at hk;cases hk)
   cases y <;> simp [zdp] at he
   subst he
   have:=tok.bool_ hk
   subst this
   exact run_equalIn_bool' w d t _ _ tok.und
  ·cases hs
 case int k a =>
  split at hs
  ·rename_i k' hk
   obtain ⟨i,dd,z,tok⟩:=ht.at_ (t:=t) (by intro h;rw [h] at hk;cases hk)
   cases y <;> simp [zdp] at he
   obtain ⟨rfl,rfl⟩:=he
   have:=tok.int_ hk
   subst this
   exact run_equalIn_int w d t _ _ _ _ tok.und
  ·cases hs
 case string a =>
  split at hs
  ·rename_i hk
   obtain ⟨i,dd,z,tok⟩:=ht.at_ (t:=t) (by intro h;rw [h] at hk;cases hk)
   cases y <;> simp [zdp] at he
   subst he
   have:=tok.str_ hk
   subst this
   rw [run_equalIn_string w d t _ _ tok.und,beq_toListBytes]
  ·cases hs
theorem zp4 {t:TI} {s:Shp} (h:znO t s=true):t.size=1/\t.isAgg=false/\t≠⟨.scalar,0,0,[]⟩:=by
 unfold znO at h
 split at h <;> try cases h
 all_goals
  split at h
  ·rename_i hk
   simp only [yR,Bool.not_eq_true'] at h
   exact ⟨yN h.1,h.2,by intro h';rw [h'] at hk;cases hk⟩
  ·cases h
theorem znZ {E:Env0} (ht:zaH E) (d:Nat) (w:World):∀ (fs:List Field) (px py xs ys:List Value) (r:Bool),px.length=py.length->flat E.T px.length fs (xs.map shp)=true->zbj xs ys=some r ->
  (Op.eqFields (d+1) (px++xs).toArray (py++ys).toArray fs).run E.P w=.ok r w
 | [],px,py,xs,ys,r,hp,hf,he=>by
  cases xs with
  | cons x xs=>simp [flat] at hf
  | nil =>
   cases ys <;> simp [zbj] at he
   subst he
   rfl
 | f::fs,px,py,[],ys,r,hp,hf,he=>by simp [flat] at hf
 | f::fs,px,py,x::xs,[],r,hp,hf,he=>by simp [zbj] at he
 | f::fs,px,py,x::xs,y::ys,r,hp,hf,he=>by
  simp only [yT,flat,yR,bne_iff_ne] at hf
  obtain ⟨⟨⟨hn,ho⟩,hs⟩,hrest⟩:=hf
  have ho:=yN ho
  simp only [zbj] at he
  split at he
  ·rename_i a b h1 h2
   simp only [yA] at he
   subst he
   obtain ⟨hsz,hagg,hne⟩:=zp4 hs
   obtain ⟨i,dd,z,tok⟩:=ht.at_ hne
   have p1:=ziG tok w (px++x::xs) f.offset (by rw [hsz,ho];simp)
   have p2:=ziG tok w (py++y::ys) f.offset (by rw [hsz,ho,hp];simp)
   rw [hsz,ho] at p1
   rw [hsz,ho,hp] at p2
   simp only [List.drop_left,List.take_succ_cons,List.take_zero,zfD,hagg] at p1 p2
   have p3:=eqCell ht d hs h1 w
   have ih:=znZ ht d w fs (px++[x]) (py++[y]) xs ys b (by simp [hp]) (by simpa using hrest) h2
   simp only [yAV,List.singleton_append] at ih
   simp only [Op.eqFields,ne_eq,hn,not_false_eq_true,if_true,Sem.run_bind,ho]
   rw [p1,Result.andThen_ok,hp,p2,Result.andThen_ok]
   simp only [List.headD_cons]
   rw [p3,Result.andThen_ok]
   cases a
   ·rfl
   ·simpa using ih
  ·cases he
theorem zt1 {E:Env0} (ht:zaH E) {t:TypeId} {fs:Array Field} {ss:List Shp} (hu:E.P.underlying t=some (.struct fs)) (hp:E.P.stoodInHeld t=false) (hg:E.P.eqGuardType E.P.depth t=false) (hf:flat E.T 0 fs.toList ss=true) :
  StructEq E.P t ss:=by
 refine ⟨hg,fun w xs ys r hs he=>?_⟩
 have hfo:E.P.fieldsOf t=fs:=by simp [Program.fieldsOf,hu]
 have h1:=run_equalIn_struct (P:=E.P) w 9999 t xs.toArray ys.toArray (by rw [hfo];exact hu) hp
 rw [hfo] at h1
 have h2:=znZ ht 9998 w fs.toList [] [] xs ys r rfl (by rw [hs];exact hf) he
 simp only [List.nil_append] at h2
 unfold Op.equal Op.maxDepth
 rw [h1]
 exact h2
end Go.AM
namespace Go.AM
abbrev Str:=ByteArray
def zcZ (l:List UInt8):Str:=⟨l.toArray⟩
abbrev iv (n:Int):AV:=.v (.int .i64 n)
abbrev bv (b:Bool):AV:=.v (.bool b)
abbrev sv (s:Str):AV:=.v (.string s)
def zeR:List Str:=[zcZ [],zcZ [97],zcZ [98],zcZ [105,116,39,115],zcZ [90,32,122],zcZ [126]]
def za8:List Str:=[zcZ [97,97],zcZ [98,98],zcZ [99,99],zcZ [100,100],zcZ [101,101],zcZ [102,102],zcZ [103,103],zcZ [104,104]]
def globs (g:Nat):Option (List AV) :=
 match Nat.beq g S.DN with
 | true=>some (zeR.map sv)
 | false=>match Nat.beq g S.Dz with
  | true=>some (za8.map sv)
  | false=>none
noncomputable def E0:Env0:=⟨Proofs.Tryz.prog,zlP tabA,globs⟩
theorem E0ok:zaH E0:=zzY zA8
theorem mix0:E0.P.follows .mixedOrders=true:=mix_ok
structure V where
 kind:Int
 int:Int
 text:Str
def V.cells (v:V):List AV:=[iv v.kind,iv v.int,sv v.text]
abbrev V.av (v:V):AV:=.agg v.cells
def V.null:V:=⟨0,0,⟨#[]⟩⟩
mutual
inductive X where
 | mk (kind op:Int) (not:Bool) (val:V) (table name:Str) (args:List X) (sub:List Qy)
inductive Qy where
 | mk (star:Bool) (items:List X) (frm:Str) (wh:List X)
end
def X.kind:X->Int|.mk k _ _ _ _ _ _ _=>k
def X.op:X->Int|.mk _ o _ _ _ _ _ _=>o
def X.not:X->Bool|.mk _ _ n _ _ _ _ _=>n
def X.val:X->V|.mk _ _ _ v _ _ _ _=>v
def X.table:X->Str|.mk _ _ _ _ t _ _ _=>t
def X.name:X->Str|.mk _ _ _ _ _ m _ _=>m
def X.args:X->List X|.mk _ _ _ _ _ _ xs _=>xs
def X.sub:X->List Qy|.mk _ _ _ _ _ _ _ qs=>qs
def Qy.star:Qy->Bool|.mk s _ _ _=>s
def Qy.items:Qy->List X|.mk _ i _ _=>i
def Qy.frm:Qy->Str|.mk _ _ f _=>f
def Qy.wh:Qy->List X|.mk _ _ _ w=>w
@[simp] theorem X.kind_mk (k o:Int) (n:Bool) (v:V) (t m:Str) (xs:List X) (qs:List Qy):(X.mk k o n v t m xs qs).kind=k:=rfl
@[simp] theorem X.op_mk (k o:Int) (n:Bool) (v:V) (t m:Str) (xs:List X) (qs:List Qy):(X.mk k o n v t m xs qs).op=o:=rfl
@[simp] theorem X.not_mk (k o:Int) (n:Bool) (v:V) (t m:Str) (xs:List X) (qs:List Qy):(X.mk k o n v t m xs qs).not=n:=rfl
@[simp] theorem X.val_mk (k o:Int) (n:Bool) (v:V) (t m:Str) (xs:List X) (qs:List Qy):(X.mk k o n v t m xs qs).val=v:=rfl
@[simp] theorem X.table_mk (k o:Int) (n:Bool) (v:V) (t m:Str) (xs:List X) (qs:List Qy):(X.mk k o n v t m xs qs).table=t:=rfl
@[simp] theorem X.name_mk (k o:Int) (n:Bool) (v:V) (t m:Str) (xs:List X) (qs:List Qy):(X.mk k o n v t m xs qs).name=m:=rfl
@[simp] theorem X.args_mk (k o:Int) (n:Bool) (v:V) (t m:Str) (xs:List X) (qs:List Qy):(X.mk k o n v t m xs qs).args=xs:=rfl
@[simp] theorem X.sub_mk (k o:Int) (n:Bool) (v:V) (t m:Str) (xs:List X) (qs:List Qy):(X.mk k o n v t m xs qs).sub=qs:=rfl
@[simp] theorem Qy.star_mk (s:Bool) (i:List X) (f:Str) (w:List X):(Qy.mk s i f w).star=s:=rfl
@[simp] theorem Qy.items_mk (s:Bool) (i:List X) (f:Str) (w:List X):(Qy.mk s i f w).items=i:=rfl
@[simp] theorem Qy.frm_mk (s:Bool) (i:List X) (f:Str) (w:List X):(Qy.mk s i f w).frm=f:=rfl
@[simp] theorem Qy.wh_mk (s:Bool) (i:List X) (f:Str) (w:List X):(Qy.mk s i f w).wh=w:=rfl
mutual
def X.raw:X->List AV
 | .mk k o n v t m xs qs=>[iv k,iv o,bv n,iv v.kind,iv v.int,sv v.text,sv t,sv m,.sl (zad xs),.sl (zam qs)]
def Qy.raw:Qy->List AV
 | .mk s is f w=>[bv s,.sl (zad is),sv f,.sl (zad w)]
def zad:List X->List (List AV)
 | []=>[]
 | x::r=>X.raw x::zad r
def zam:List Qy->List (List AV)
 | []=>[]
 | x::r=>Qy.raw x::zam r
end
def X.cells (x:X):List AV:=[iv x.kind,iv x.op,bv x.not,iv x.val.kind,iv x.val.int,sv x.val.text,sv x.table,sv x.name,.sl (zad x.args),.sl (zam x.sub)]
def Qy.cells (x:Qy):List AV:=[bv x.star,.sl (zad x.items),sv x.frm,.sl (zad x.wh)]
theorem X.raw_eq (x:X):x.raw=x.cells:=by cases x;simp [X.raw,X.cells,X.kind,X.op,X.not,X.val,X.table,X.name,X.args,X.sub]
theorem Qy.raw_eq (x:Qy):x.raw=x.cells:=by cases x;simp [Qy.raw,Qy.cells,Qy.star,Qy.items,Qy.frm,Qy.wh]
theorem zbt:∀ l:List X,zad l=l.map X.cells
 | []=>by simp [zad]
 | x::r=>by simp [zad,zbt r,X.raw_eq]
theorem zet:∀ l:List Qy,zam l=l.map Qy.cells
 | []=>by simp [zam]
 | x::r=>by simp [zam,zet r,Qy.raw_eq]
@[simp] theorem zaL:zad []=[]:=zbt []
@[simp] theorem zaG (x:X) (r:List X):zad (x::r)=x.cells::zad r:=by simp [zbt]
@[simp] theorem zwy (a b:List X):zad (a++b)=zad a++zad b:=by simp [zbt]
@[simp] theorem zeU (a:List X):(zad a).length=a.length:=by simp [zbt]
@[simp] theorem zaN:zam []=[]:=zet []
@[simp] theorem zaJ (x:Qy) (r:List Qy):zam (x::r)=x.cells::zam r:=by simp [zet]
@[simp] theorem zlZ (a:List Qy):(zam a).length=a.length:=by simp [zet]
@[simp] theorem X.cells_length (x:X):x.cells.length=10:=rfl
@[simp] theorem Qy.cells_length (x:Qy):x.cells.length=4:=rfl
abbrev X.av (x:X):AV:=.agg x.cells
abbrev Qy.av (x:Qy):AV:=.agg x.cells
structure Col where
 name:Str
 type:Int
 notNull:Bool
 key:Bool
def Col.cells (c:Col):List AV:=[sv c.name,iv c.type,bv c.notNull,bv c.key]
abbrev ZC (l:List Col):AV:=.sl (l.map Col.cells)
structure Sch where
 name:Str
 cols:List Col
def Sch.cells (s:Sch):List AV:=[sv s.name,.sl (s.cols.map Col.cells)]
abbrev ZS (l:List Sch):AV:=.sl (l.map Sch.cells)
abbrev Sch.av (s:Sch):AV:=.agg s.cells
structure Rw where
 id:Int
 vals:List V
def Rw.cells (r:Rw):List AV:=[iv r.id,.sl (r.vals.map V.cells)]
abbrev ZW (l:List Rw):AV:=.sl (l.map Rw.cells)
structure Tb where
 sch:Sch
 next:Int
 rows:List Rw
def Tb.cells (t:Tb):List AV:=[sv t.sch.name,.sl (t.sch.cols.map Col.cells),iv t.next,.sl (t.rows.map Rw.cells)]
abbrev Tb.av (t:Tb):AV:=.agg t.cells
structure Fr where
 name:Str
 strict:Bool
 cols:List Col
 vals:List V
def Fr.cells (f:Fr):List AV:=[sv f.name,bv f.strict,.sl (f.cols.map Col.cells),.sl (f.vals.map V.cells)]
abbrev vsl (l:List V):AV:=.sl (l.map V.cells)
abbrev fsl (l:List Fr):AV:=.sl (l.map Fr.cells)
abbrev tsl (l:List Tb):AV:=.sl (l.map Tb.cells)
abbrev xsl (l:List X):AV:=.sl (zad l)
abbrev Pure (f:FuncId) (args:List AV) (r:AV):Prop:=zab E0 f args [] r []
theorem znG {f : FuncId} {fn : Func} {c : Code} {args : List AV} {r : AV} (hf : E0.P.funcs[f]? = some fn) (hb : fn.body = some c) (hname : (fn.name == "runtime.NumGoroutine") = false) (hn : Nat.ble args.length fn.ntmps = true)
  (n:Nat) (os:List Orc) {q:List Prop} (hfin:fin (mk E0) fn 0 n ⟨fn.ntmps,[.code c],zbV 0 args,[]⟩ os=some (q,r,[])) (hq:allP q):Pure f args r :=
 zhC E0ok mix0 hf hb hname hn n os hfin hq ⟨rfl,rfl⟩
@[simp] theorem V.cells_length (x:V):x.cells.length=3:=rfl
@[simp] theorem Col.cells_length (x:Col):x.cells.length=4:=rfl
@[simp] theorem Sch.cells_length (x:Sch):x.cells.length=2:=rfl
@[simp] theorem Rw.cells_length (x:Rw):x.cells.length=2:=rfl
@[simp] theorem Tb.cells_length (x:Tb):x.cells.length=4:=rfl
@[simp] theorem Fr.cells_length (x:Fr):x.cells.length=4:=rfl
theorem zcD {l:List X} {i:Nat} {x:X} (h:l[i]?=some x):ElAt (zad l) (i:Int) x.cells 10 :=
 ⟨by omega,by simp [zbt,h],rfl⟩
theorem zbE {l:List Qy} {i:Nat} {x:Qy} (h:l[i]?=some x):ElAt (zam l) (i:Int) x.cells 4 :=
 ⟨by omega,by simp [zet,h],rfl⟩
theorem zaf {α:Type} (f:α->List AV) {l:List α} {i:Nat} {x:α} (h:l[i]?=some x) {n:Nat} (hn:(f x).length=n):ElAt (l.map f) (i:Int) (f x) n :=
 ⟨by omega,by simp [h],hn⟩
theorem zAW {l:List X} {n i:Nat} {x:X} (hn:n=l.length) (h:l[i]?=some x):OwnEl (zad l) n i x.cells :=
 ⟨by simp [hn],by simp [zbt,h]⟩
theorem zcp {α:Type} (f:α->List AV) {l:List α} {n i:Nat} {x:α} (hn:n=l.length) (h:l[i]?=some x):OwnEl (l.map f) n i (f x) :=
 ⟨by simp [hn],by simp [h]⟩
theorem zba (i:Nat) (h:i < 9223372036854775807):IntKind.i64.wrap ((i:Int)+1)=((i+1:Nat):Int):=by
 rw [IntKind.wrap_i64];omega
theorem zap {t:Int} {n:Nat} (h1:t=(n:Int)) (h2:n<=9223372036854775807):IntKind.i64.wrap t=(n:Int):=by
 rw [h1,IntKind.wrap_i64];omega
theorem zzD {c b:Bool} (h:(!c)=b):c=!b:=by cases c <;> cases b <;> simp_all
def pm1:Nat->Int
 | 0=>-1
 | k+1=>(k:Int)
theorem pm1_eq (k:Nat):pm1 k=(k:Int) - 1:=by cases k <;> simp [pm1]
theorem zoy (k:Nat) (h:k < 9223372036854775806):IntKind.i64.wrap ((k:Int) - 1)=pm1 k:=by
 rw [pm1_eq,IntKind.wrap_i64];omega
theorem zaB {α:Type} {l:List α} {i:Nat} {x:α} (h:l[i]?=some x):l.drop i=x::l.drop (i+1):=by
 obtain ⟨h1,h2⟩:=yB.mp h
 rw [yAf h1,h2]
theorem zb1 {α:Type} {l:List α} {i:Nat} {x:α} (h:l[i]?=some x):i < l.length:=(yB.mp h).1
theorem zbc {α:Type} {l:List α} {i:Nat} (h:i < l.length):∃ x,l[i]?=some x:=⟨l[i],by simp [h]⟩
structure Tp where
 l:List Int
 pos:Nat
 ok:l.length<=500
def Tp.cells (t:Tp):List AV:=[.sl (t.l.map fun n=>[iv n]),iv t.pos]
structure Pl where
 frs:List Fr
 tbs:List Sch
def Pl.cells (p:Pl):List AV:=[.sl (p.frs.map Fr.cells),.sl (p.tbs.map Sch.cells)]
abbrev Pl.av (p:Pl):AV:=.agg p.cells
abbrev ssl (l:List Str):AV:=.sl (l.map fun s=>[sv s])
structure Se where
 col:Str
 ex:X
def Se.cells (s:Se):List AV:=sv s.col::s.ex.cells
abbrev ZE (l:List Se):AV:=.sl (l.map Se.cells)
structure Ac where
 kind:Int
 table:Str
 rows:List (List X)
 query:List Qy
 sets:List Se
 wh:List X
 text:Str
def Ac.cells (a:Ac):List AV:=[iv a.kind,sv a.table,.sl (a.rows.map fun r=>[.sl (zad r)]),.sl (zam a.query),.sl (a.sets.map Se.cells),.sl (zad a.wh),sv a.text]
abbrev ZA (l:List Ac):AV:=.sl (l.map Ac.cells)
abbrev Ac.av (a:Ac):AV:=.agg a.cells
structure Rk where
 table:Str
 col:Str
 low:Int
 high:Int
def Rk.cells (r:Rk):List AV:=[sv r.table,sv r.col,iv r.low,iv r.high]
abbrev ZR (l:List Rk):AV:=.sl (l.map Rk.cells)
structure Tg where
 name:Str
 table:Str
 before:Bool
 event:Int
 of:List Str
 each:Bool
 prec:List Str
 foll:List Str
 rank:List Rk
 when_:List X
 acts:List Ac
def Tg.cells (t:Tg):List AV:=[sv t.name,sv t.table,bv t.before,iv t.event,ssl t.of,bv t.each,ssl t.prec,ssl t.foll,.sl (t.rank.map Rk.cells),.sl (zad t.when_),.sl (t.acts.map Ac.cells)]
abbrev ZG (l:List Tg):AV:=.sl (l.map Tg.cells)
abbrev Tg.av (t:Tg):AV:=.agg t.cells
@[simp] theorem Se.cells_length (x:Se):x.cells.length=11:=rfl
@[simp] theorem Ac.cells_length (x:Ac):x.cells.length=7:=rfl
@[simp] theorem Rk.cells_length (x:Rk):x.cells.length=4:=rfl
@[simp] theorem Tg.cells_length (x:Tg):x.cells.length=11:=rfl
theorem zaY:StructEq E0.P Ty.Value [.int .i64,.int .i64,.str] :=
 zt1 E0ok (fs:=E0.P.fieldsOf Ty.Value) kr kr kr kr
noncomputable def runF (fn:Func) (args:List AV) (h:Heap) (os:List Orc):Option (List Prop × AV × Heap) :=
 match fn.body, (fn.name == "runtime.NumGoroutine"), Nat.ble args.length fn.ntmps with
 | some c,false,true=>fin (mk E0) fn h.length 3000 ⟨fn.ntmps,[.code c],zbV 0 args,h⟩ os
 | _,_,_=>none
noncomputable def zlS (fn:Func) (args:List AV) (h:Heap) (live:List Nat) (m:Nat) (os:List Orc):Option (List Prop × Cfg) :=
 match fn.body, (fn.name == "runtime.NumGoroutine"), Nat.ble args.length fn.ntmps, Nat.ble h.length m with
 | some c,false,true,true=>some (upto (mk E0) live m 3000 ⟨fn.ntmps,[.code c],zbV 0 args,h⟩ os)
 | _,_,_,_=>none
noncomputable def zlR (h0:Heap) (live:List Nat) (m:Nat) (c:Cfg) (os:List Orc):Option (List Prop × Cfg) :=
 match Nat.ble h0.length m with
 | true=>some (upto (mk E0) live m 3000 c os)
 | false=>none
theorem wk {f:FuncId} {fn:Func} {args:List AV} {h H:Heap} {r:AV} (hf:E0.P.funcs[f]?=some fn) (l:List St) (hfin:runF fn args h (orcs l)=some (zbe l,r,H)):zab E0 f args h r H:=by
 unfold runF at hfin
 split at hfin
 ·rename_i c hb hn ha
  exact zhC E0ok mix0 hf hb hn ha 3000 (orcs l) hfin (za7 l) ⟨rfl,rfl⟩
 ·cases hfin
theorem wkc {f:FuncId} {fn:Func} {args:List AV} {h:Heap} {R:AV->Heap->Prop} {c':Cfg} (hf:E0.P.funcs[f]?=some fn) (l:List St) (live:List Nat) (m:Nat) (hu:zlS fn args h live m (orcs l)=some (zbe l,c'))
  (hg:Good E0 fn h c' (Shut h.length R)):zbY E0 f args h R:=by
 unfold zlS at hu
 split at hu
 ·rename_i c hb hn ha hm
  exact zig E0ok mix0 hf hb hn ha 3000 l live m hm (Option.some.inj hu) hg
 ·cases hu
theorem wkl {fn:Func} {R:AV->Heap->Prop} {h0:Heap} {c c':Cfg} (l:List St) (live:List Nat) (m:Nat) (hu:zlR h0 live m c (orcs l)=some (zbe l,c')) (hg:Good E0 fn h0 c' R):Good E0 fn h0 c R:=by
 unfold zlR at hu
 split at hu
 ·rename_i hm
  exact zdz E0ok mix0 3000 l live m hm (Option.some.inj hu) hg
 ·cases hu
theorem wkr {fn:Func} {h0:Heap} {c:Cfg} {r:AV} {H:Heap} {m:Nat} (l:List St) (hfin:fin (mk E0) fn m 3000 c (orcs l)=some (zbe l,r,H)):Good E0 fn h0 c (Shut m fun y h=>y=r/\h=H) :=
 zgS E0ok mix0 3000 l hfin ⟨rfl,rfl⟩
noncomputable def runFK (fn:Func) (args:List AV) (h:Heap) (os:List Orc):Option (List Prop × AV × Heap) :=
 match fn.body, (fn.name == "runtime.NumGoroutine"), Nat.ble args.length fn.ntmps with
 | some c,false,true=>finK (mk E0) fn 3000 ⟨fn.ntmps,[.code c],zbV 0 args,h⟩ os
 | _,_,_=>none
theorem wkK {f:FuncId} {fn:Func} {args:List AV} {h H:Heap} {r:AV} (hf:E0.P.funcs[f]?=some fn) (l:List St) (hfin:runFK fn args h (orcs l)=some (zbe l,r,H)):zab E0 f args h r H:=by
 unfold runFK at hfin
 split at hfin
 ·rename_i c hb hn ha
  exact zuj E0ok mix0 hf hb hn ha 3000 (orcs l) hfin (za7 l) ⟨rfl,rfl⟩
 ·cases hfin
def pickS (l:List (Nat × List St)) (i:Nat):List St:=match l with
 | []=>[]
 | (j,s)::r=>match Nat.beq j i with
  | true=>s
  | false=>pickS r i
def pickL (l:List (Nat × List St)):List Nat->List St
 | []=>[]
 | i::r=>pickS l i++pickL l r
def zxe (l:List (Nat × List St)) (ts:TS) (h:Heap):List (List Nat)->Prop
 | []=>True
 | o::r=>(allP (zbe (pickL l o))/\ts=ts/\h=h)/\zxe l ts h r
theorem zt0 (l:List (Nat × List St)) (ts:TS) (h:Heap):∀ o,zxe l ts h o
 | []=>trivial
 | _::r=>⟨⟨za7 _,rfl,rfl⟩,zt0 l ts h r⟩
def sdp (l:List (Nat × List St)) (os:List (List Nat)) (ts:TS) (h:Heap):St:=⟨[.draw (zr7 l)],[allP (zbe (zo1 l))/\zxe l ts h os],⟨za7 _,zt0 l ts h os⟩⟩
theorem wkrS {fn:Func} {h0:Heap} {c:Cfg} {r y:AV} {H H':Heap} {m:Nat} (l:List St) (hfin:fin (mk E0) fn m 3000 c (orcs l)=some (zbe l,y,H)) (e:y=r/\H=H'):Good E0 fn h0 c (Shut m fun y h=>y=r/\h=H'):=by
 obtain ⟨rfl,rfl⟩:=e
 exact wkr l hfin
theorem owed {p:Prop} (h:p:=by first|assumption|(simp;done)|(simp;omega)|omega|rfl|(refine ⟨⟨?_⟩,?_⟩ <;> first|(simp;done)|(simp;omega)|omega)|(refine ⟨⟨?_⟩,?_,?_⟩ <;> first|(simp;done)|(simp;omega)|omega)|(refine ⟨?_,?_,?_⟩ <;> first|(simp;done)|(simp;omega)|omega)|(refine ⟨?_,⟨?_⟩,?_,?_⟩ <;> first|(simp;done)|(simp;omega)|omega)|(constructor <;> first|(simp;done)|(simp;omega)|omega|(simp at *;omega))):p:=h
def sqx (p:Prop) (h:p:=by first|assumption|(simp;done)|(simp;omega)|omega|rfl|(refine ⟨⟨?_⟩,?_⟩ <;> first|(simp;done)|(simp;omega)|omega)|(refine ⟨⟨?_⟩,?_,?_⟩ <;> first|(simp;done)|(simp;omega)|omega)|(refine ⟨?_,?_,?_⟩ <;> first|(simp;done)|(simp;omega)|omega)|(refine ⟨?_,⟨?_⟩,?_,?_⟩ <;> first|(simp;done)|(simp;omega)|omega)|(constructor <;> first|(simp;done)|(simp;omega)|omega|(simp at *;omega))):St:=sq h
def skx (p:Prop) {E:Env0} {f:FuncId} {args:List AV} {hl:Heap} {r:AV} {h':Heap} (lend:List Nat) (h:zab E f args hl r h') (hp:p:=by first|assumption|(simp;done)|(simp;omega)|omega|rfl|(refine ⟨⟨?_⟩,?_⟩ <;> first|(simp;done)|(simp;omega)|omega)|(refine ⟨⟨?_⟩,?_,?_⟩ <;> first|(simp;done)|(simp;omega)|omega)|(refine ⟨?_,?_,?_⟩ <;> first|(simp;done)|(simp;omega)|omega)|(refine ⟨?_,⟨?_⟩,?_,?_⟩ <;> first|(simp;done)|(simp;omega)|omega)|(constructor <;> first|(simp;done)|(simp;omega)|omega|(simp at *;omega))):St:=sk hp lend h
theorem Zih {σ:Type} {Q:σ->Prop} {D:Prop} {E:Env0} {fn:Func} {h0:Heap} {c:σ->Cfg} {a b:Cfg} (h:∃ s,Q s/\D/\∀ R,Good E fn h0 (c s) R->Good E fn h0 a R) (k:∀ R,Good E fn h0 a R->Good E fn h0 b R):∃ s,Q s/\D/\∀ R,Good E fn h0 (c s) R->Good E fn h0 b R:=by
 obtain ⟨s,q,d,g⟩:=h
 exact ⟨s,q,d,fun R r=>k R (g R r)⟩
theorem zlp {P:Nat->Prop} (n:Nat) (s:∀ i,i < n->P (i+1)->P i) (z:P n:=by first|exact fun a _ hI _=>⟨a,hI,by simp,fun R hg=>hg⟩|exact fun _ hI _=>⟨hI,by simp,fun R hg=>hg⟩|exact fun _ hI _=>.inl ⟨hI,by simp,fun R hg=>hg⟩|exact fun a _ hI _=>.inl ⟨a,hI,by simp,fun R hg=>hg⟩|exact fun a b _ hI _=>⟨a,b,hI,by simp,fun R hg=>hg⟩|exact fun a b _ hI _=>.inl ⟨a,b,hI,by simp,fun R hg=>hg⟩) (g:∀ i,n < i->P i:=by intros;omega):∀ i,P i:=by
 intro i
 by_cases h:n < i
 ·exact g i h
 ·obtain ⟨k,hk⟩:∃ k,i+k=n:=⟨n - i,by omega⟩
  clear h
  induction k generalizing i with
  | zero =>
   have e:i=n:=by omega
   rw [e]
   exact z
  | succ k ih=>exact s i Zo (ih (i+1) Zo)
theorem zlq {α:Type} {l:List α} {i:Nat} (m:Nat) (hi:i < l.length) (hw:i < 9223372036854775807:=by first|omega|(simp only [zac,Few] at *;omega)) (hm:m=l.length:=by simp):∃ x,l[i]?=some x/\decide (((i:Nat):Int) < ((m:Nat):Int))=true/\IntKind.i64.wrap (((i:Nat):Int)+1)=((i+1:Nat):Int):=by
 obtain ⟨x,hx⟩:=zbc hi
 refine ⟨x,hx,?_,zba i hw⟩
 rw [hm];simp;omega
theorem zie1 {Q D:Prop} {E:Env0} {fn:Func} {h0:Heap} {c a b:Cfg} {α:Type} {F:α->AV->Heap->Prop} (h:(Q/\D/\∀ R,Good E fn h0 c R->Good E fn h0 a R)\/∃ r,Good E fn h0 a (F r)) (k:∀ R,Good E fn h0 a R->Good E fn h0 b R):(Q/\D/\∀ R,Good E fn h0 c R->Good E fn h0 b R)\/∃ r,Good E fn h0 b (F r) :=
 h.elim (fun ⟨q,d,g⟩=>.inl ⟨q,d,fun R r=>k R (g R r)⟩) fun ⟨r,g⟩=>.inr ⟨r,k _ g⟩
theorem zie2 {Q D:Prop} {E:Env0} {fn:Func} {h0:Heap} {c a b:Cfg} {α:Type} {P:α->Prop} {F:α->AV->Heap->Prop} (h:(Q/\D/\∀ R,Good E fn h0 c R->Good E fn h0 a R)\/∃ r,P r/\Good E fn h0 a (F r)) (k:∀ R,Good E fn h0 a R->Good E fn h0 b R):(Q/\D/\∀ R,Good E fn h0 c R->Good E fn h0 b R)\/∃ r,P r/\Good E fn h0 b (F r) :=
 h.elim (fun ⟨q,d,g⟩=>.inl ⟨q,d,fun R r=>k R (g R r)⟩) fun ⟨r,p,g⟩=>.inr ⟨r,p,k _ g⟩
theorem zie3 {Q D:Prop} {E:Env0} {fn:Func} {h0:Heap} {c a b:Cfg} {P:Prop} {F:AV->Heap->Prop} (h:(Q/\D/\∀ R,Good E fn h0 c R->Good E fn h0 a R)\/(P/\Good E fn h0 a F)) (k:∀ R,Good E fn h0 a R->Good E fn h0 b R):(Q/\D/\∀ R,Good E fn h0 c R->Good E fn h0 b R)\/(P/\Good E fn h0 b F) :=
 h.elim (fun ⟨q,d,g⟩=>.inl ⟨q,d,fun R r=>k R (g R r)⟩) fun ⟨p,g⟩=>.inr ⟨p,k _ g⟩
set_option linter.defProp false in
def zsl:=And.intro @X.av.eq_1 (And.intro @Qy.av.eq_1 (And.intro @V.av.eq_1 (And.intro @Tb.av.eq_1 (And.intro @Sch.av.eq_1 (And.intro @Pl.av.eq_1 (And.intro @xsl.eq_1 (And.intro @fsl.eq_1 (And.intro @vsl.eq_1 (And.intro @tsl.eq_1 (And.intro @yAR.{0,0} (And.intro @yT.{0,0} (And.intro @yAD.{0,0} (And.intro @V.cells.eq_1 (And.intro @Col.cells.eq_1 (And.intro @Rw.cells.eq_1 (And.intro @Tb.cells.eq_1 (And.intro @Fr.cells.eq_1 (And.intro @Sch.cells.eq_1 (And.intro @Pl.cells.eq_1 (And.intro @zwy (And.intro @zaG (And.intro @zaL (And.intro @zaJ (And.intro @zaN (And.intro @X.cells.eq_1 (And.intro @Qy.cells.eq_1 (And.intro @X.args_mk (And.intro @X.sub_mk (And.intro @Qy.items_mk @Qy.wh_mk)))))))))))))))))))))))))))))
def sqA (xs ys:List (List AV)) (n k sz:Nat) (h:AllLen ys k/\n=xs.length/\((xs.length+ys.length) * sz).le 140737488355328:=by first|assumption|(refine ⟨⟨?_⟩,?_,?_⟩ <;> first|(simp;done)|(simp;omega)|omega)|(simp;done)|(simp;omega)):St:=sq h
def getS:TS->Nat->AV
 | [],_=>.un
 | (j,x)::r,k=>match Nat.beq j k with|true=>x|false=>getS r k
def setS:TS->Nat->AV->TS
 | [],_,_=>[]
 | (j,x)::r,k,v=>match Nat.beq j k with|true=>(j,v)::r|false=>(j,x)::setS r k v
def getB:Heap->Nat->Blk
 | [],_=>.box []
 | x::_,0=>x
 | _::r,k+1=>getB r k
def setB:Heap->Nat->Blk->Heap
 | [],_,_=>[]
 | _::r,0,y=>y::r
 | x::r,k+1,y=>x::setB r k y
theorem zvB:∀ (ts:TS) (k:Nat),setS ts k (getS ts k)=ts
 | [],_=>rfl
 | (j,x)::r,k=>by
  cases h:Nat.beq j k
  ·simp only [setS,getS,h,zvB r k]
  ·simp only [setS,getS,h]
theorem zqF:∀ (h:Heap) (k:Nat),setB h k (getB h k)=h
 | [],_=>rfl
 | _::_,0=>rfl
 | _::r,k+1=>by simp only [setB,getB,zqF r k]
theorem zaK {E:Env0} {fn:Func} {h0:Heap} {c:Cfg} {R:AV->Heap->Prop} {e:TypeId} {ys:List (List AV)} {sh:Bool} {m:Nat} (k b:Nat) (xs:List (List AV)) (hg:Good E fn h0 c R) (h1:getS c.ts k=.own b m:=by rfl) (h2:getB c.h b=.row e ys sh:=by rfl) (he:xs=ys) (hm:ys.length=m):Good E fn h0 ⟨c.n,c.todo,setS c.ts k (.own b xs.length),setB c.h b (.row e xs sh)⟩ R:=by
 subst he
 rw [hm,← h1,← h2,zvB,zqF]
 exact hg
theorem good_rowB {E:Env0} {fn:Func} {h0:Heap} {c:Cfg} {R:AV->Heap->Prop} {e:TypeId} {ys:List (List AV)} {sh:Bool} (b:Nat) (xs:List (List AV)) (hg:Good E fn h0 c R) (h2:getB c.h b=.row e ys sh:=by rfl) (he:xs=ys):Good E fn h0 ⟨c.n,c.todo,c.ts,setB c.h b (.row e xs sh)⟩ R:=by
 subst he
 rw [← h2,zqF]
 exact hg
def cmpI (a b:Int):Int:=if a < b then -1 else if b < a then 1 else 0
def ltS (a b:Str):Bool:=Op.bytesLess a.toList b.toList
def eqS (a b:Str):Bool:=a.toList==b.toList
def cmpS (a b:Str):Int:=if ltS a b then -1 else if !(ltS a b || eqS a b) then 1 else 0
theorem zb7 (n:Str):Pure S.Bz [sv n] (bv (!(n.toList==n.toList))) :=
 znG At.Bz rfl kr kr 100 [] (q:=[]) kr trivial
theorem zfy (a b:Str):Pure S.CD [sv a,sv b] (iv (cmpS a b)):=by
 unfold cmpS ltS eqS
 cases h1:Op.bytesLess a.toList b.toList
 ·rw [if_neg Zs]
  cases h2:(!(Op.bytesLess a.toList b.toList || a.toList==b.toList))
  ·rw [h1] at h2
   rw [h2,if_neg Zs]
   exact znG At.CD rfl kr kr 1500 ([.call [] (bv (!(a.toList==a.toList))) [],.call [] (bv (!(b.toList==b.toList))) [],.b false,.b false,.b false,.b false]) (q:=[zab E0 S.Bz [AV.v (Value.string a)] [] (AV.v (Value.bool !ByteArray.toList a==ByteArray.toList a)) [],zab E0 S.Bz [AV.v (Value.string b)] [] (AV.v (Value.bool !ByteArray.toList b==ByteArray.toList b)) [],(!ByteArray.toList a==ByteArray.toList a)=false,(!ByteArray.toList b==ByteArray.toList b)=false,Op.bytesLess (ByteArray.toList a) (ByteArray.toList b)=false,(!(Op.bytesLess (ByteArray.toList a) (ByteArray.toList b) || ByteArray.toList a==ByteArray.toList b))=false]) kr ⟨zb7 a,zb7 b,by simp,by simp,h1,by simp only [allP];rw [h1];exact h2⟩
  ·rw [h1] at h2
   rw [h2,if_pos rfl]
   exact znG At.CD rfl kr kr 1500 ([.call [] (bv (!(a.toList==a.toList))) [],.call [] (bv (!(b.toList==b.toList))) [],.b false,.b false,.b false,.b true]) (q:=[zab E0 S.Bz [AV.v (Value.string a)] [] (AV.v (Value.bool !ByteArray.toList a==ByteArray.toList a)) [],zab E0 S.Bz [AV.v (Value.string b)] [] (AV.v (Value.bool !ByteArray.toList b==ByteArray.toList b)) [],(!ByteArray.toList a==ByteArray.toList a)=false,(!ByteArray.toList b==ByteArray.toList b)=false,Op.bytesLess (ByteArray.toList a) (ByteArray.toList b)=false,(!(Op.bytesLess (ByteArray.toList a) (ByteArray.toList b) || ByteArray.toList a==ByteArray.toList b))=true]) kr ⟨zb7 a,zb7 b,by simp,by simp,h1,by simp only [allP];rw [h1];exact h2⟩
 ·rw [if_pos rfl]
  exact znG At.CD rfl kr kr 1500 ([.call [] (bv (!(a.toList==a.toList))) [],.call [] (bv (!(b.toList==b.toList))) [],.b false,.b false,.b true]) (q:=[zab E0 S.Bz [AV.v (Value.string a)] [] (AV.v (Value.bool !ByteArray.toList a==ByteArray.toList a)) [],zab E0 S.Bz [AV.v (Value.string b)] [] (AV.v (Value.bool !ByteArray.toList b==ByteArray.toList b)) [],(!ByteArray.toList a==ByteArray.toList a)=false,(!ByteArray.toList b==ByteArray.toList b)=false,Op.bytesLess (ByteArray.toList a) (ByteArray.toList b)=true]) kr ⟨zb7 a,zb7 b,by simp,by simp,h1⟩
def orI:List Int->Int
 | []=>0
 | x::r=>if x=0 then orI r else x
abbrev isl (l:List Int):AV:=.sl (l.map fun n=>[iv n])
noncomputable def L_Or (l:List Int) (i:Nat):Cfg:=zai B.De 0 [(3,iv 0),(6,.sl (l.map fun n=>[iv n])),(7,iv ((l.map fun n=>[iv n]).length:Nat)),(8,iv (i:Nat))] []
theorem zyl (l:List Int) (hl:l.length < 9223372036854775807):∀ (k i:Nat),i+k=l.length->Good E0 B.De [] (L_Or l i) (Shut 0 fun r h=>r=iv (orI (l.drop i))/\h=[]):=by
 intro k
 induction k with
 | zero =>
  intro i hi
  refine zaa ?_
  refine zlt E0ok mix0 1500 ([.b false]) (q:=[decide ((i:Int) < (↑(List.map (fun n=>[iv n]) l).length:Int))=false]) (y:=iv 0) (H:=[]) kr ?_ ⟨?_,rfl⟩
  ·simp [allP];omega
  ·rw [yAJ Zo];rfl
 | succ k ih =>
  intro i hi
  obtain ⟨x,hx⟩:=zbc (l:=l) (i:=i) Zo
  have hlt:=zb1 hx
  refine zaa ?_
  rw [zaB hx,orI]
  by_cases h0:x=0
  ·rw [if_pos h0]
   exact znA E0ok mix0 1500 ([.b true,.el [iv x],.b false,.i ((i+1:Nat):Int)]) [3,6,7,8] 0 (q:=[decide ((i:Int) < (↑(List.map (fun n=>[iv n]) l).length:Int))=true,ElAt (List.map (fun n=>[iv n]) l) (i:Int) [AV.v (Value.int IntKind.i64 x)] (1:Nat),(x != (0:Int))=false,IntKind.i64.wrap ((i:Int)+(1:Int))=(↑(i+(1:Nat)):Int)]) kr kr kr ⟨by simp;omega,zaf (fun n=>[iv n]) hx rfl,by simp [h0],zba i Zo⟩ (ih (i+1) Zo)
  ·rw [if_neg h0]
   exact zlt E0ok mix0 1500 ([.b true,.el [iv x],.b true]) (q:=[decide ((i:Int) < (↑(List.map (fun n=>[iv n]) l).length:Int))=true,ElAt (List.map (fun n=>[iv n]) l) (i:Int) [AV.v (Value.int IntKind.i64 x)] (1:Nat),(x != (0:Int))=true]) (y:=iv x) (H:=[]) kr ⟨by simp;omega,zaf (fun n=>[iv n]) hx rfl,by simpa [allP] using h0⟩ ⟨rfl,rfl⟩
theorem zti (l:List Int) (hl:l.length < 9223372036854775807):Pure S.De [.sl (l.map fun n=>[iv n])] (iv (orI l)) :=
 zxJ E0ok mix0 At.De rfl kr kr 1500 ([]) [3,6,7,8] 0 (q:=[]) kr kr kr trivial (zyl l hl l.length 0 Zo)
def cmpV (a b:V):Int:=orI [cmpI a.kind b.kind,cmpI a.int b.int,cmpS a.text b.text]
def okB (c:Nat):Bool:=!(decide ((c:Int) < 32))&&!(decide ((126:Int) < c))
def ziC (l:List UInt8):Bool:=match l with
 | []=>true
 | c::r=>okB c.toNat&&ziC r
def zek (s:Str):Bool:=ziC s.data.toList&&decide ((s.size:Int)<=64)
noncomputable def zqc (s:Str) (i:Nat):Cfg:=zai B.C7 0 [(0,sv s),(5,iv (s.size:Nat)),(6,iv (i:Nat))] []
theorem ztk (s:Str) (hl:s.size < 9223372036854775807):∀ (k i:Nat),i+k=s.size->Good E0 B.C7 [] (zqc s i) (Shut 0 fun r h=>r=bv (ziC (s.data.toList.drop i)&&decide ((s.size:Int)<=64))/\h=[]):=by
 intro k
 induction k with
 | zero =>
  intro i hi
  refine zaa ?_
  have h0:decide ((i:Int) < (s.size:Int))=false:=by simp;omega
  have e0:s.data.toList.drop i=[]:=yAJ (by simp [← hi])
  rw [e0]
  exact zgS E0ok mix0 3000 (y:=AV.v (Value.bool (decide ((↑(ByteArray.size s):Int)<=(64:Int))))) [sb h0] kr ⟨rfl,rfl⟩
 | succ k ih =>
  intro i hi
  have ih:=ih (i+1) Zo
  have hlt:i < s.size:=by omega
  have h0:decide ((i:Int) < (s.size:Int))=true:=by simp;omega
  have hb:ByteAt s (i:Int) ((s[i].toNat:Nat):Int):=⟨by omega,by simp [hlt]⟩
  have hw:=zba i Zo
  have e0:s.data.toList.drop i=s[i]::s.data.toList.drop (i+1):=by
   rw [yAf (by simpa using hlt)];rfl
  rw [e0]
  generalize s[i]=c at hb
  simp only [ziC,okB]
  refine zaa ?_
  cases h1:decide ((c.toNat:Int) < (32:Int))
  ·cases h2:decide ((126:Int) < (c.toNat:Int))
   ·exact zdz E0ok mix0 3000 (c':=zqc s (i+(1:Nat))) [sb h0,sy hb,sg h1,sy hb,sb h2,si hw] [0,5,6] 0 kr kr (by simpa [h1,h2] using ih)
   ·exact zgS E0ok mix0 3000 (y:=AV.v (Value.bool false)) [sb h0,sy hb,sg h1,sy hb,sb h2] kr ⟨by simp [h1,h2],rfl⟩
  ·exact zgS E0ok mix0 3000 (y:=AV.v (Value.bool false)) [sb h0,sy hb,sb h1] kr ⟨by simp [h1],rfl⟩
theorem zrQ (s:Str) (hl:s.size < 9223372036854775807):Pure S.C7 [sv s] (bv (zek s)):=by
 exact zig E0ok mix0 At.C7 rfl kr kr 3000 (c':=zqc s (0:Nat)) [] [0,5,6] 0 kr kr (by simpa [zek] using ztk s hl s.size 0 Zs)
abbrev V.small (v:V):Prop:=v.text.size < 9223372036854775807
theorem zqG:(⟨#[]⟩:Str).size < 9223372036854775807:=by decide
def num (n:Int):V:=⟨1,n,⟨#[]⟩⟩
def zbu (v:V):Bool :=
 bif v.kind==(0:Int) then
  v.kind==(0:Int)&&(v.int==(0:Int)&&(v.text==ByteArray.mk #[]&&true))
 else
  bif v.kind==(1:Int) then
   ByteArray.toList v.text==Zs0.toList
  else
   bif v.kind==(2:Int) then
    bif v.int==(0:Int) then
     ByteArray.toList v.text==Zs0.toList
    else
     bif v.int==(1:Int) then
      ByteArray.toList v.text==Zs0.toList
     else
      false
   else
    bif v.kind==(3:Int) then
     bif v.int==(0:Int) then
      zek v.text
     else
      false
    else
     false
theorem zl5 (v:V) (hv:v.small):zab E0 S.BR [v.av] [] (bv (zbu v)) []:=by
 cases h1:v.kind==(0:Int)
 ·cases h2:v.kind==(1:Int)
  ·cases h3:v.kind==(2:Int)
   ·cases h4:v.kind==(3:Int)
    ·exact walk E0ok mix0 At.BR rfl kr kr 3000 (y:=AV.v (Value.bool false)) [sb h1,sb h2,sb h3,sb h4] kr (by simp only [zbu,cond_true,cond_false,h1,h2,h3,h4] <;> rfl)
    ·cases h5:v.int==(0:Int)
     ·exact walk E0ok mix0 At.BR rfl kr kr 3000 (y:=AV.v (Value.bool false)) [sb h1,sb h2,sb h3,sb h4,sb h5] kr (by simp only [zbu,cond_true,cond_false,h1,h2,h3,h4,h5] <;> rfl)
     ·exact walk E0ok mix0 At.BR rfl kr kr 3000 (y:=AV.v (Value.bool (zek v.text))) [sb h1,sb h2,sb h3,sb h4,sg h5,sc (zrQ v.text (by first|assumption|(simp;done)|omega|(simp;omega)))] kr (by simp only [zbu,cond_true,cond_false,h1,h2,h3,h4,h5] <;> rfl)
   ·cases h6:v.int==(0:Int)
    ·cases h7:v.int==(1:Int)
     ·exact walk E0ok mix0 At.BR rfl kr kr 3000 (y:=AV.v (Value.bool false)) [sb h1,sb h2,sb h3,sg h6,sb h7] kr (by simp only [zbu,cond_true,cond_false,h1,h2,h3,h6,h7] <;> rfl)
     ·exact walk E0ok mix0 At.BR rfl kr kr 3000 (y:=AV.v (Value.bool (ByteArray.toList v.text==Zs0.toList))) [sb h1,sb h2,sb h3,sg h6,sg h7] kr (by simp only [zbu,cond_true,cond_false,h1,h2,h3,h6,h7] <;> rfl)
    ·exact walk E0ok mix0 At.BR rfl kr kr 3000 (y:=AV.v (Value.bool (ByteArray.toList v.text==Zs0.toList))) [sb h1,sb h2,sb h3,sb h6] kr (by simp only [zbu,cond_true,cond_false,h1,h2,h3,h6] <;> rfl)
  ·exact walk E0ok mix0 At.BR rfl kr kr 3000 (y:=AV.v (Value.bool (ByteArray.toList v.text==Zs0.toList))) [sb h1,sb h2] kr (by simp only [zbu,cond_true,cond_false,h1,h2] <;> rfl)
 ·exact walk E0ok mix0 At.BR rfl kr kr 3000 (y:=AV.v (Value.bool (v.kind==(0:Int)&&(v.int==(0:Int)&&(v.text==ByteArray.mk #[]&&true))))) [sb h1,sq zaY] kr (by simp only [zbu,cond_true,cond_false,h1] <;> rfl)
def zkz (v:V):Bool :=
 bif zbu v then
  bif v.kind==2 then
   true
  else
   v.kind==(0:Int)
 else
  false
def lnot (v:V):V × Bool :=
 bif !zkz v then
  (V.mk 0 0 Zs0,false)
 else
  bif v.kind==0 then
   (v,true)
  else
   (V.mk (2:Int) (if (v.int==(0:Int))=true then (1:Int) else (0:Int)) Zs0,true)
def zwW (a b:V):V :=
 bif a.kind==2&&((a.int==if false=true then 1 else 0)&&(a.text==ByteArray.mk #[]&&true)) then
  V.mk 2 (if false=true then 1 else 0) Zs0
 else
  bif b.kind==2&&((b.int==if false=true then 1 else 0)&&(b.text==ByteArray.mk #[]&&true)) then
   V.mk 2 (if false=true then 1 else 0) Zs0
  else
   bif a.kind==0 then
    V.mk 0 0 Zs0
   else
    bif b.kind==0 then
     V.mk 0 0 Zs0
    else
     V.mk 2 (if true=true then 1 else 0) Zs0
def land (a b:V):V × Bool :=
 bif !zkz a then
  (V.mk 0 0 Zs0,false)
 else
  bif !zkz b then
   (V.mk 0 0 Zs0,false)
  else
   (zwW a b,true)
def lor (a b:V):V × Bool :=
 bif !zkz a then
  (V.mk 0 0 Zs0,false)
 else
  bif !zkz b then
   (V.mk 0 0 Zs0,false)
  else
   ((lnot (zwW (lnot a).fst (lnot b).fst)).fst,(lnot (zwW (lnot a).fst (lnot b).fst)).snd)
def isTrue (a:V):Bool :=
 a.kind==(2:Int)&&((a.int==if true=true then (1:Int) else (0:Int))&&(a.text==ByteArray.mk #[]&&true))
def aAdd (a b:Int):Int × Bool :=
 bif decide (0 < b) then
  bif decide (IntKind.i64.wrap (9223372036854775807 - b) < a) then
   (0,false)
  else
   bif decide (b < 0) then
    bif decide (a < IntKind.i64.wrap (-9223372036854775808 - b)) then
     (0,false)
    else
     (IntKind.i64.wrap (a+b),true)
   else
    (IntKind.i64.wrap (a+b),true)
 else
  bif decide (b < 0) then
   bif decide (a < IntKind.i64.wrap (-9223372036854775808 - b)) then
    (0,false)
   else
    (IntKind.i64.wrap (a+b),true)
  else
   (IntKind.i64.wrap (a+b),true)
def aSub (a b:Int):Int × Bool :=
 bif decide (b < 0) then
  bif decide (IntKind.i64.wrap (9223372036854775807+b) < a) then
   (0,false)
  else
   bif decide (0 < b) then
    bif decide (a < IntKind.i64.wrap (-9223372036854775808+b)) then
     (0,false)
    else
     (IntKind.i64.wrap (a - b),true)
   else
    (IntKind.i64.wrap (a - b),true)
 else
  bif decide (0 < b) then
   bif decide (a < IntKind.i64.wrap (-9223372036854775808+b)) then
    (0,false)
   else
    (IntKind.i64.wrap (a - b),true)
  else
   (IntKind.i64.wrap (a - b),true)
def aMul (a b:Int):Int × Bool :=
 bif a==0 then
  (0,true)
 else
  bif b==0 then
   (0,true)
  else
   bif a==-9223372036854775808 then
    bif b==-1 then
     (0,false)
    else
     bif b==-9223372036854775808 then
      bif a==-1 then
       (0,false)
      else
       bif IntKind.i64.wrap ((IntKind.i64.wrap (a * b)).tdiv b) != a then
        (0,false)
       else
        (IntKind.i64.wrap (a * b),true)
     else
      bif IntKind.i64.wrap ((IntKind.i64.wrap (a * b)).tdiv b) != a then
       (0,false)
      else
       (IntKind.i64.wrap (a * b),true)
   else
    bif b==-9223372036854775808 then
     bif a==-1 then
      (0,false)
     else
      bif IntKind.i64.wrap ((IntKind.i64.wrap (a * b)).tdiv b) != a then
       (0,false)
      else
       (IntKind.i64.wrap (a * b),true)
    else
     bif IntKind.i64.wrap ((IntKind.i64.wrap (a * b)).tdiv b) != a then
      (0,false)
     else
      (IntKind.i64.wrap (a * b),true)
def aDiv (a b:Int):Int × Bool :=
 bif b==0 then
  (0,false)
 else
  bif a==-9223372036854775808 then
   bif b==-1 then
    (0,false)
   else
    (IntKind.i64.wrap (a.tdiv b),true)
  else
   (IntKind.i64.wrap (a.tdiv b),true)
def aMod (a b:Int):Int × Bool :=
 bif b==0 then
  (0,false)
 else
  bif b==-1 then
   (0,true)
  else
   (a.tmod b,true)
def zhd (v:V) (ok:Bool):V × Int :=
 bif !ok then
  (V.mk 0 0 Zs0,5)
 else
  (v,0)
def cmpOp (op c:Int):Bool:=bif op==3 then c==0 else bif op==4 then c != 0 else bif op==5 then decide (c < 0) else bif op==6 then decide (c<=0) else bif op==7 then decide (0 < c) else decide (0<=c)
def vCmp (op:Int) (a b:V):V × Int :=
 bif a.kind==0 then
  (V.mk 0 0 Zs0,0)
 else
  bif b.kind==0 then
   (V.mk 0 0 Zs0,0)
  else
   bif a.kind != b.kind then
    (V.mk 0 0 Zs0,5)
   else
    (V.mk 2 (if cmpOp op (cmpV a b)=true then 1 else 0) Zs0,0)
def zp7 (op:Int) (a b:V):V × Int :=
 bif a.kind==0 then
  (V.mk 0 0 Zs0,0)
 else
  bif b.kind==0 then
   (V.mk 0 0 Zs0,0)
  else
   bif a.kind != 1 then
    (V.mk 0 0 Zs0,5)
   else
    bif b.kind != 1 then
     (V.mk 0 0 Zs0,5)
    else
     bif op==12 then
      bif b.int==0 then
       (V.mk 0 0 Zs0,7)
      else
       bif op==9 then
        bif !(aAdd a.int b.int).snd then
         (V.mk 0 0 Zs0,6)
        else
         (V.mk 1 (aAdd a.int b.int).fst Zs0,0)
       else
        bif op==10 then
         bif !(aSub a.int b.int).snd then
          (V.mk 0 0 Zs0,6)
         else
          (V.mk 1 (aSub a.int b.int).fst Zs0,0)
        else
         bif op==11 then
          bif !(aMul a.int b.int).snd then
           (V.mk 0 0 Zs0,6)
          else
           (V.mk 1 (aMul a.int b.int).fst Zs0,0)
         else
          bif !(aDiv a.int b.int).snd then
           (V.mk 0 0 Zs0,6)
          else
           (V.mk 1 (aDiv a.int b.int).fst Zs0,0)
     else
      bif op==13 then
       bif b.int==0 then
        (V.mk 0 0 Zs0,7)
       else
        bif op==9 then
         bif !(aAdd a.int b.int).snd then
          (V.mk 0 0 Zs0,6)
         else
          (V.mk 1 (aAdd a.int b.int).fst Zs0,0)
        else
         bif op==10 then
          bif !(aSub a.int b.int).snd then
           (V.mk 0 0 Zs0,6)
          else
           (V.mk 1 (aSub a.int b.int).fst Zs0,0)
         else
          bif op==11 then
           bif !(aMul a.int b.int).snd then
            (V.mk 0 0 Zs0,6)
           else
            (V.mk 1 (aMul a.int b.int).fst Zs0,0)
          else
           bif !(aMod a.int b.int).snd then
            (V.mk 0 0 Zs0,6)
           else
            (V.mk 1 (aMod a.int b.int).fst Zs0,0)
      else
       bif op==9 then
        bif !(aAdd a.int b.int).snd then
         (V.mk 0 0 Zs0,6)
        else
         (V.mk 1 (aAdd a.int b.int).fst Zs0,0)
       else
        bif op==10 then
         bif !(aSub a.int b.int).snd then
          (V.mk 0 0 Zs0,6)
         else
          (V.mk 1 (aSub a.int b.int).fst Zs0,0)
        else
         bif op==11 then
          bif !(aMul a.int b.int).snd then
           (V.mk 0 0 Zs0,6)
          else
           (V.mk 1 (aMul a.int b.int).fst Zs0,0)
         else
          (V.mk 0 0 Zs0,6)
def zue (x y z:V):V × Int :=
 bif (vCmp 6 y x).snd != 0 then
  (V.mk 0 0 Zs0,(vCmp 6 y x).snd)
 else
  bif (vCmp 6 x z).snd != 0 then
   (V.mk 0 0 Zs0,(vCmp 6 x z).snd)
  else
   ((zhd (land (vCmp 6 y x).fst (vCmp 6 x z).fst).fst (land (vCmp 6 y x).fst (vCmp 6 x z).fst).snd).fst,(zhd (land (vCmp 6 y x).fst (vCmp 6 x z).fst).fst (land (vCmp 6 y x).fst (vCmp 6 x z).fst).snd).snd)
def zzF (op:Int) (nt:Bool) (a:V):V × Int :=
 (V.mk (2:Int) (if (!(a.kind==(0:Int))==nt)=true then (1:Int) else (0:Int)) Zs0,0)
def opNot (op:Int) (nt:Bool) (a:V):V × Int :=
 ((zhd (lnot a).fst (lnot a).snd).fst,(zhd (lnot a).fst (lnot a).snd).snd)
def opNeg (op:Int) (nt:Bool) (a:V):V × Int :=
 ((zp7 10 (V.mk 1 0 Zs0) a).fst,(zp7 10 (V.mk 1 0 Zs0) a).snd)
def opBet (op:Int) (nt:Bool) (a b c:V):V × Int :=
 ((zue a b c).fst,(zue a b c).snd)
def opBin (op:Int) (nt:Bool) (a b:V):V × Int :=
 bif op==2 then
  ((zhd (land a b).fst (land a b).snd).fst,(zhd (land a b).fst (land a b).snd).snd)
 else
  bif op==1 then
   ((zhd (lor a b).fst (lor a b).snd).fst,(zhd (lor a b).fst (lor a b).snd).snd)
  else
   bif decide (op<=8) then
    ((vCmp op a b).fst,(vCmp op a b).snd)
   else
    ((zp7 op a b).fst,(zp7 op a b).snd)
abbrev zac {α:Type} (l:List α):Prop:=l.length<=1000000000
def idxF {α:Type} (p:α->Bool):List α->Nat->Int
 | [],_=>-1
 | x::r,i=>bif p x then (i:Int) else idxF p r (i+1)
theorem zh3 {α:Type} (p:α->Bool):∀ (l:List α) (i:Nat),(idxF p l i=-1/\l.find? p=none)\/∃ (j:Nat) (x:α),idxF p l i=((i+j:Nat):Int)/\l[j]?=some x/\l.find? p=some x
 | [],i=>.inl ⟨rfl,rfl⟩
 | x::r,i=>by
  cases hp:p x
  ·rcases zh3 p r (i+1) with ⟨h1,h2⟩|⟨j,y,h1,h2,h3⟩
   ·exact .inl ⟨by simp [idxF,hp,h1],by simp [hp,h2]⟩
   ·exact .inr ⟨j+1,y,by simp only [idxF,hp,cond_false,h1];omega,by simpa using h2,by simp [hp,h3]⟩
  ·exact .inr ⟨0,x,by simp [idxF,hp],by simp,by simp [hp]⟩
def zaT (t:Tb) (n:Str):Bool :=
 ByteArray.toList t.sch.name==ByteArray.toList n
def colC (t:Col) (n:Str):Bool :=
 ByteArray.toList t.name==ByteArray.toList n
theorem zis (t:Col) (n:Str) :zab E0 S.C1 [.agg t.cells,.p 0 0] [.box [sv n]] (bv (colC t n)) [.box [sv n]]:=by
 exact walkH E0ok mix0 At.C1 rfl kr kr 3000 (y:=AV.v (Value.bool (ByteArray.toList t.name==ByteArray.toList n))) (H:=[Blk.box [AV.v (Value.string n)]]) [] kr (⟨rfl,rfl⟩)
noncomputable def zvX (tb:List Col) (n:Str) (i:Nat):Cfg:=zai B.Av 0 [(0,.sl (tb.map Col.cells)),(1,.fn S.C1 [.p 0 0]),(7,iv ((tb.map Col.cells).length:Nat)),(8,iv (i:Nat))] [.box [sv n]]
theorem zwT (tb:List Col) (n:Str) (hl:zac tb):∀ (k i:Nat),i+k=tb.length->Good E0 B.Av [.box [sv n]] (zvX tb n i) (Shut 1 fun r h=>r=iv (idxF (fun t=>colC t n) (tb.drop i) i)/\h=[.box [sv n]]):=by
 intro k
 induction k with
 | zero =>
  intro i hi
  refine zaa ?_
  have h0:decide ((i:Int) < (((tb.map Col.cells).length:Nat):Int))=false:=by simp;omega
  have e0:tb.drop i=[]:=yAJ Zo
  rw [e0]
  exact zgS E0ok mix0 3000 (y:=AV.v (Value.int IntKind.i64 (-1:Int))) (H:=[Blk.box [AV.v (Value.string n)]]) [sb h0] kr (⟨rfl,rfl⟩)
 | succ k ih =>
  intro i hi
  have ih:=ih (i+1) Zo
  obtain ⟨x,hx⟩:=zbc (l:=tb) (i:=i) Zo
  have h0:decide ((i:Int) < (((tb.map Col.cells).length:Nat):Int))=true:=by simp;omega
  have hw:=zba i Zo
  rw [zaB hx]
  simp only [idxF]
  refine zaa ?_
  cases h1:colC x n
  ·exact zdz E0ok mix0 3000 (c':=zvX tb n (i+(1:Nat))) [sb h0,se (zaf Col.cells hx rfl),sl [(0:Nat)] (zis x n),sb h1,si hw] [0,1,7,8] 1 kr kr (by simpa only [cond_true,cond_false,h1] using ih)
  ·exact zgS E0ok mix0 3000 (y:=AV.v (Value.int IntKind.i64 (i:Int))) (H:=[Blk.box [AV.v (Value.string n)]]) [sb h0,se (zaf Col.cells hx rfl),sl [(0:Nat)] (zis x n),sb h1] kr (⟨by simp only [cond_true,cond_false,h1],rfl⟩)
theorem zhH (tb:List Col) (n:Str) (hl:zac tb):zab E0 S.Av [.sl (tb.map Col.cells),.fn S.C1 [.p 0 0]] [.box [sv n]] (iv (idxF (fun t=>colC t n) tb 0)) [.box [sv n]]:=by
 exact zig E0ok mix0 At.Av rfl kr kr 3000 (c':=zvX tb n (0:Nat)) [] [0,1,7,8] 1 kr kr (by simpa using zwT tb n hl tb.length 0 Zs)
def zhE (tb:List Tb) (n:Str):Option Tb:=tb.find? fun t=>zaT t n
def Tb.zero:Tb:=⟨⟨⟨#[]⟩,[]⟩,0,[]⟩
theorem zdQ (s:Sch) (n:Str) (hl:zac s.cols):Pure S.DH [s.av,sv n] (iv (idxF (fun c=>colC c n) s.cols 0)):=by
 exact walk E0ok mix0 At.DH rfl kr kr 3000 (y:=AV.v (Value.int IntKind.i64 (idxF (fun t=>colC t n) s.cols (0:Nat)))) [sl [(1:Nat)] (zhH s.cols n (by first|assumption|(simp;done)|omega|(simp;omega)))] kr (rfl)
def zqo (kind op:Int) (xs:List X) (qs:List Qy) (it wh:List X):Bool :=
 bif kind==1 then
  bif (↑(zad xs).length:Int) != 0 then
   false
  else
   bif (↑(zam qs).length:Int) != 0 then
    false
   else
    true
 else
  bif kind==2 then
   bif (↑(zad xs).length:Int) != 0 then
    false
   else
    bif (↑(zam qs).length:Int) != 0 then
     false
    else
     true
  else
   bif kind==3 then
    bif (↑(zad xs).length:Int) != 1 then
     false
    else
     bif (↑(zam qs).length:Int) != 0 then
      false
     else
      true
   else
    bif kind==4 then
     bif (↑(zad xs).length:Int) != 1 then
      false
     else
      bif (↑(zam qs).length:Int) != 0 then
       false
      else
       true
    else
     bif kind==6 then
      bif (↑(zad xs).length:Int) != 1 then
       false
      else
       bif (↑(zam qs).length:Int) != 0 then
        false
       else
        true
     else
      bif kind==5 then
       bif decide (op < 1) then
        false
       else
        bif decide (13 < op) then
         false
        else
         bif (↑(zad xs).length:Int) != 2 then
          false
         else
          bif (↑(zam qs).length:Int) != 0 then
           false
          else
           true
      else
       bif kind==7 then
        bif (↑(zad xs).length:Int) != 3 then
         false
        else
         bif (↑(zam qs).length:Int) != 0 then
          false
         else
          true
       else
        bif kind==8 then
         bif (↑(zad xs).length:Int) != 0 then
          false
         else
          bif (↑(zam qs).length:Int) != 1 then
           false
          else
           bif (↑(zad it).length:Int)==0 then
            decide ((↑(zad wh).length:Int)<=(1:Int))
           else
            false
        else
         bif kind==9 then
          bif (↑(zad xs).length:Int) != 0 then
           false
          else
           bif (↑(zam qs).length:Int) != 1 then
            false
           else
            bif (↑(zad it).length:Int)==0 then
             decide ((↑(zad wh).length:Int)<=(1:Int))
            else
             false
         else
          bif kind==10 then
           bif (↑(zad xs).length:Int) != 0 then
            false
           else
            bif (↑(zam qs).length:Int) != 1 then
             false
            else
             bif (↑(zad it).length:Int)==1 then
              decide ((↑(zad wh).length:Int)<=(1:Int))
             else
              false
          else
           bif kind==11 then
            bif (↑(zad xs).length:Int) != 0 then
             false
            else
             bif (↑(zam qs).length:Int) != 1 then
              false
             else
              bif (↑(zad it).length:Int)==1 then
               decide ((↑(zad wh).length:Int)<=(1:Int))
              else
               false
           else
            bif kind==12 then
             bif (↑(zad xs).length:Int) != 0 then
              false
             else
              bif (↑(zam qs).length:Int) != 1 then
               false
              else
               bif (↑(zad it).length:Int)==1 then
                decide ((↑(zad wh).length:Int)<=(1:Int))
               else
                false
            else
             false
def zqn (kind op:Int) (xs:List X):Bool :=
 bif kind==1 then
  bif (↑(zad xs).length:Int) != 0 then
   false
  else
   true
 else
  bif kind==2 then
   bif (↑(zad xs).length:Int) != 0 then
    false
   else
    true
  else
   bif kind==3 then
    bif (↑(zad xs).length:Int) != 1 then
     false
    else
     true
   else
    bif kind==4 then
     bif (↑(zad xs).length:Int) != 1 then
      false
     else
      true
    else
     bif kind==6 then
      bif (↑(zad xs).length:Int) != 1 then
       false
      else
       true
     else
      bif kind==5 then
       bif decide (op < 1) then
        false
       else
        bif decide (13 < op) then
         false
        else
         bif (↑(zad xs).length:Int) != 2 then
          false
         else
          true
      else
       bif kind==7 then
        bif (↑(zad xs).length:Int) != 3 then
         false
        else
         true
       else
        bif kind==8 then
         bif (↑(zad xs).length:Int) != 0 then
          false
         else
          false
        else
         bif kind==9 then
          bif (↑(zad xs).length:Int) != 0 then
           false
          else
           false
         else
          bif kind==10 then
           bif (↑(zad xs).length:Int) != 0 then
            false
           else
            false
          else
           bif kind==11 then
            bif (↑(zad xs).length:Int) != 0 then
             false
            else
             false
           else
            bif kind==12 then
             bif (↑(zad xs).length:Int) != 0 then
              false
             else
              false
            else
             false
theorem zeW {p:Prop} (h:p:=by first|assumption|omega|(simp;done)|(simp;omega)):p:=h
def modI (v n:Int):Int:=bif decide (v.tmod n < 0) then IntKind.i64.wrap (v.tmod n+n) else v.tmod n
theorem zuU (v n:Int) (hn:n≠0):Pure S.DC [iv v,iv n] (iv (modI v n)):=by
 unfold modI
 cases h1:decide (v.tmod n < (0:Int))
 ·exact wk At.DC [sx (.i (v.tmod n)) (show ¬n=(0:Int)/\(v.tmod n:Int)=v.tmod n from ⟨hn,rfl⟩),sb h1] kr
 ·exact wk At.DC [sx (.i (v.tmod n)) (show ¬n=(0:Int)/\(v.tmod n:Int)=v.tmod n from ⟨hn,rfl⟩),sb h1,si (e:=IntKind.i64.wrap (v.tmod n+n)) rfl] kr
def Tp.next (t:Tp) (n:Int):Nat × Tp:=match t.l[t.pos]? with
 | some x=>((modI x n).toNat,⟨t.l,t.pos+1,t.ok⟩)
 | none=>(0,t)
theorem zpr (v n:Int) (hn:0 < n) (hv:n<=9223372036854775807):0<=modI v n/\modI v n < n:=by
 unfold modI
 have h1:=Int.tmod_lt_of_pos v hn
 have h2:-n < v.tmod n:=by
  have:=Int.tmod_lt_of_pos (-v) hn
  rw [Int.neg_tmod] at this;omega
 cases h:decide (v.tmod n < 0)
 ·simp at h;simp;omega
 ·simp at h;simp only [cond_true];rw [IntKind.wrap_i64];omega
theorem Tp.next_lt (t:Tp) (n:Int) (hn:0 < n) (hv:n<=9223372036854775807):((t.next n).1:Int) < n:=by
 unfold Tp.next
 split
 ·have:=zpr ‹_› n hn hv
  simp;omega
 ·simpa using hn
abbrev Pos (n:Int):Prop:=0 < n/\n<=9223372036854775807
theorem zfj (i:Nat) (h:i < 9223372036854775806):IntKind.i64.wrap (((i+1:Nat):Int) - 1)=((i:Nat):Int):=by
 rw [IntKind.wrap_i64];omega
theorem zAk (t:Tp) (n:Int) (hx:t.l.length<=t.pos):zab E0 S.Ck [.p 0 0,iv n] [.box t.cells] (iv 0) [.box t.cells]:=by
 have h0:decide ((((t.l.map fun n=>[iv n]).length:Nat):Int)<=((t.pos:Nat):Int))=true:=by simp;omega
 exact wk At.Ck [sd [],sb h0] kr
theorem zlf (t:Tp) (n:Int) (x:Int) (hn:n≠0) (hx:t.l[t.pos]?=some x) (h0:decide ((((t.l.map fun n=>[iv n]).length:Nat):Int)<=((t.pos:Nat):Int))=false) (hw:IntKind.i64.wrap ((t.pos:Int)+1)=((t.pos+1:Nat):Int)) (hw2:IntKind.i64.wrap (((t.pos+1:Nat):Int) - 1)=((t.pos:Nat):Int)):∃ (a:Int),a=modI x n/\zab E0 S.Ck [.p 0 0,iv n] [.box t.cells] (iv a) [.box (Tp.cells ⟨t.l,t.pos+1,t.ok⟩)]:=by
 exact ⟨modI x n,by first|assumption|trivial|(simp;done)|omega|(simp;omega)|(simp at *;omega),wk At.Ck [sd [],sb h0,si hw,sd [(8,[si hw2]),(9,[se (zaf (fun n=>[iv n]) hx rfl)]),(12,[sc (zuU x n zeW)])]] kr⟩
theorem c_next (t:Tp) (n:Int) (hn:Pos n):zab E0 S.Ck [.p 0 0,iv n] [.box t.cells] (iv ((t.next n).1:Nat)) [.box (t.next n).2.cells]:=by
 unfold Tp.next
 cases hx:t.l[t.pos]? with
 | none=>exact zAk t n (by simpa using hx)
 | some x =>
  have hl:=zb1 hx
  have ho:=t.ok
  obtain ⟨a,rfl,hc⟩:=zlf t n x Zo hx Zp (zba t.pos Zo) (zfj t.pos Zo)
  have h2:=zpr x n hn.1 hn.2
  simp only
  rw [Int.toNat_of_nonneg h2.1]
  exact hc
theorem zae (t:Tp) (n:Int) (hn:Pos n):∃ (a:Nat) (t':Tp),(a:Int) < n/\zab E0 S.Ck [.p 0 0,iv n] [.box t.cells] (iv a) [.box t'.cells] :=
 ⟨_,_,t.next_lt n hn.1 hn.2,c_next t n hn⟩
abbrev I64 (n:Int):Prop:=-9223372036854775808<=n/\n<=9223372036854775807
theorem zij (n:Int):I64 (IntKind.i64.wrap n):=by simp only [I64];rw [IntKind.wrap_i64];omega
theorem zah (t:Tp) (n:Int) (hn:Pos n):∃ (b:Bool) (t':Tp),zab E0 S.Dq [.p 0 0,iv n] [.box t.cells] (bv b) [.box t'.cells]:=by
 obtain ⟨a1,t1,q1,c1⟩:=(zae t n zeW)
 exact ⟨(a1:Int)==IntKind.i64.wrap (n - 1),t1,wk At.Dq [sl [0] c1,si (e:=IntKind.i64.wrap (n - 1)) rfl] kr⟩
theorem zaQ (t:Tp) :∃ (a:Int) (t':Tp),(-3<=a/\a<=12)/\zab E0 S.Dn [.p 0 0] [.box t.cells] (iv a) [.box t'.cells]:=by
 obtain ⟨a1,t1,q1,c1⟩:=(zae t 16 zeW)
 exact ⟨IntKind.i64.wrap ((a1:Int) - 3),t1,by rw [IntKind.wrap_i64];omega,wk At.Dn [sl [0] c1,si (e:=IntKind.i64.wrap ((a1:Int) - 3)) rfl] kr⟩
theorem zmr (t:Tp) :∃ (a:Int) (t':Tp),I64 a/\zab E0 S.Cl [.p 0 0] [.box t.cells] (iv a) [.box t'.cells]:=by
 obtain ⟨a1,t1,q1,c1⟩:=(zae t 8 zeW)
 cases h2:(a1:Int)==0
 ·cases h3:(a1:Int)==1
  ·cases h4:(a1:Int)==2
   ·obtain ⟨a5,t5,q5,c5⟩:=(zae t1 9 zeW)
    exact ⟨(a5:Int),t5,by first|exact zij _|(simp only [I64];omega),wk At.Cl [sl [0] c1,sb h2,sb h3,sb h4,sl [0] c5] kr⟩
   ·obtain ⟨a6,t6,q6,c6⟩:=(zae t1 9 zeW)
    exact ⟨IntKind.i64.wrap (-(a6:Int)),t6,by first|exact zij _|(simp only [I64];omega),wk At.Cl [sl [0] c1,sb h2,sb h3,sb h4,sl [0] c6,si (e:=IntKind.i64.wrap (-(a6:Int))) rfl] kr⟩
  ·obtain ⟨a7,t7,q7,c7⟩:=(zae t1 3 zeW)
   exact ⟨IntKind.i64.wrap (-9223372036854775808+(a7:Int)),t7,by first|exact zij _|(simp only [I64];omega),wk At.Cl [sl [0] c1,sb h2,sb h3,sl [0] c7,si (e:=IntKind.i64.wrap (-9223372036854775808+(a7:Int))) rfl] kr⟩
 ·obtain ⟨a8,t8,q8,c8⟩:=(zae t1 3 zeW)
  exact ⟨IntKind.i64.wrap (9223372036854775807 - (a8:Int)),t8,by first|exact zij _|(simp only [I64];omega),wk At.Cl [sl [0] c1,sb h2,sl [0] c8,si (e:=IntKind.i64.wrap (9223372036854775807 - (a8:Int))) rfl] kr⟩
def znl (i:Nat):Str:=zeR.getD i ⟨#[]⟩
theorem zAd (i:Nat) (h:(i:Int) < 6):ArrAt (zeR.map sv) i 6 [sv (znl i)] 1:=by
 have h:i=0\/i=1\/i=2\/i=3\/i=4\/i=5:=by omega
 rcases h with rfl|rfl|rfl|rfl|rfl|rfl <;> exact ⟨by decide,by decide,rfl,rfl⟩
theorem zAC (i:Nat) (h:(i:Int) < 6):ArrAt (zeR.map sv) i 6 [sv (znl i)] 1:=zAd i h
theorem zBf (i:Nat):znl i∈zeR:=by
 unfold znl
 rw [yAF]
 cases h:zeR[i]? with
 | none=>simp [zeR,zcZ]
 | some x=>exact yC h
theorem zds (t:Tp) :∃ (w:Str) (t':Tp),w∈zeR/\zab E0 S.Dr [.p 0 0] [.box t.cells] (sv w) [.box t'.cells]:=by
 obtain ⟨a1,t1,q1,c1⟩:=(zae t 6 zeW)
 exact ⟨znl a1,t1,by exact zBf _,wk At.Dr [sl [0] c1,sa (zAC a1 zeW)] kr⟩
structure V.Good (v:V):Prop where
 valid:zbu v=true
 i64:I64 v.int
 small:v.small
theorem zbU {n:Int} (h:I64 n):V.Good ⟨1,n,⟨#[]⟩⟩:=⟨by kernel_rfl,h,zqG⟩
theorem zbK:V.Good ⟨0,0,⟨#[]⟩⟩:=⟨by kernel_rfl,by decide,zqG⟩
theorem zju {n:Nat} (h:(n:Int) < 2):V.Good ⟨2,n,⟨#[]⟩⟩:=by
 have:n=0\/n=1:=by omega
 rcases this with rfl|rfl <;> exact ⟨by kernel_rfl,by decide,zqG⟩
theorem zjv {w:Str} (h:w∈zeR):V.Good ⟨3,0,w⟩:=by
 simp only [zeR,yO,yAE,or_false] at h
 rcases h with rfl|rfl|rfl|rfl|rfl|rfl <;> exact ⟨by kernel_rfl,by decide,by decide⟩
abbrev zb0 (k:Int):Int:=if k=1\/k=2\/k=3 then k else 0
theorem zaU (t:Tp) (kind:Int) :∃ (v:V) (t':Tp),(v.kind=zb0 kind/\v.Good)/\zab E0 S.Cu [.p 0 0,iv kind] [.box t.cells] v.av [.box t'.cells]:=by
 cases h1:kind==1
 ·cases h2:kind==2
  ·cases h3:kind==3
   ·exact ⟨V.mk 0 0 Zs0,t,by first|exact ⟨by simp_all [zb0],zbU ‹_›⟩|exact ⟨by simp_all [zb0],zju ‹_›⟩|exact ⟨by simp_all [zb0],zjv ‹_›⟩|exact ⟨by simp_all [zb0],zbK⟩,wk At.Cu [sb h1,sb h2,sb h3] kr⟩
   ·obtain ⟨w4,t4,q4,c4⟩:=(zds t)
    exact ⟨V.mk 3 0 w4,t4,by first|exact ⟨by simp_all [zb0],zbU ‹_›⟩|exact ⟨by simp_all [zb0],zju ‹_›⟩|exact ⟨by simp_all [zb0],zjv ‹_›⟩|exact ⟨by simp_all [zb0],zbK⟩,wk At.Cu [sb h1,sb h2,sb h3,sl [0] c4] kr⟩
  ·obtain ⟨a5,t5,q5,c5⟩:=(zae t 2 zeW)
   exact ⟨V.mk 2 (a5:Int) Zs0,t5,by first|exact ⟨by simp_all [zb0],zbU ‹_›⟩|exact ⟨by simp_all [zb0],zju ‹_›⟩|exact ⟨by simp_all [zb0],zjv ‹_›⟩|exact ⟨by simp_all [zb0],zbK⟩,wk At.Cu [sb h1,sb h2,sl [0] c5] kr⟩
 ·obtain ⟨a6,t6,q6,c6⟩:=(zmr t)
  exact ⟨V.mk 1 a6 Zs0,t6,by first|exact ⟨by simp_all [zb0],zbU ‹_›⟩|exact ⟨by simp_all [zb0],zju ‹_›⟩|exact ⟨by simp_all [zb0],zjv ‹_›⟩|exact ⟨by simp_all [zb0],zbK⟩,wk At.Cu [sb h1,sl [0] c6] kr⟩
theorem zcI (t:Tp) :∃ (v:V) (t':Tp),v.Good/\zab E0 S.Dm [.p 0 0] [.box t.cells] v.av [.box t'.cells]:=by
 obtain ⟨a1,t1,q1,c1⟩:=(zae t 4 zeW)
 obtain ⟨v2,t2,q2,c2⟩:=(zaU t1 ((a1:Int)))
 exact ⟨v2,t2,by exact (by assumption:_/\V.Good _).2,wk At.Dm [sl [0] c1,sl [0] c2] kr⟩
def xLit (v:V):X :=
 X.mk 1 0 false v Zs0 Zs0 [] []
theorem zaP (v:V) :zab E0 S.DK [v.av] [] ((xLit v).av) []:=by
 exact wk At.DK [] kr
def xCol (t n:Str):X :=
 X.mk 2 0 false (V.mk 0 0 Zs0) t n [] []
theorem zaM (t n:Str) :zab E0 S.DJ [sv t,sv n] [] ((xCol t n).av) []:=by
 exact wk At.DJ [] kr
def xBin (op:Int) (a b:X):X :=
 X.mk 5 op false (V.mk 0 0 Zs0) Zs0 Zs0 [a,b] []
theorem zaz (op:Int) (a b:X) :zab E0 S.DM [iv op,a.av,b.av] [] ((xBin op a b).av) []:=by
 unfold xBin
 exact (by (try simp only [X.av,Qy.av,xsl,zaG,zaL,zaJ,zaN,X.cells,Qy.cells,X.args_mk,X.sub_mk,Qy.items_mk,Qy.wh_mk]);exact wk At.DM [] kr)
end Go.AM
namespace Go.AM
open Go.RowKit
section
variable {E : Env0}
theorem zzt (ht:zaH E) {fn:Func} {R:AV->Heap->Prop} {h0:Heap} {n:Nat} {ts:TS} {h:Heap} {y:AV} (hv:retV E ts h fn.results.toList=some y) (hR:R y h):Good E fn h0 ⟨n,[],ts,h⟩ R:=by
 intro β0 S0 w0 β S w tmps hb0 hn x0 r rt
 simp only at r rt x0
 have key:∀ v,(results fn tmps).run E.P w=.ok v w->RelV E.T h β w S y v->kont E.P [] (bodyPost E.P fn (Post E h0 β0 S0 w0 R)) .normal ⟨tmps,[]⟩ w:=by
  intro v hrun hrel
  have hpost:bodyPost E.P fn (Post E h0 β0 S0 w0 R) .normal ⟨tmps,[]⟩ w:=⟨rfl,v,hrun,y,h,β,S,v,rfl,hR,r,x0,hrel⟩
  exact hpost
 unfold retV at hv
 cases ha:ziE E ts h fn.results.toList with
 | none=>simp [ha] at hv
 | some ys =>
  obtain ⟨vs,w1,w2⟩:=zm4 ht r rt _ ys ha
  have hrun:(results fn tmps).run E.P w=.ok (if hh:vs.toArray.size=1 then vs.toArray[0] else .tuple vs.toArray) w:=by
   rw [zpx,Array.mapM_eq_mapM_toList]
   simp only [Sem.run_bind,Sem.run_map]
   rw [w1]
   simp only [Result.andThen_ok,Sem.run_pure]
  rw [ha] at hv
  split at hv
  ·rename_i x hx
   cases hx
   cases hv
   have hvl:=w2.1
   match vs,hvl,w2,hrun with
   | [v],_,w2,hrun =>
    refine key v ?_ w2.uncons.1
    rw [hrun]
    simp
   | [],hvl,_,_=>simp at hvl
   | _::_::_,hvl,_,_=>simp at hvl
  ·rename_i xs hne hx
   cases hx
   cases hv
   refine key (.tuple vs.toArray) ?_ (.tup _ _ w2.1 w2.2)
   rw [hrun,dif_neg]
   intro h1
   have hl:ys.length=1:=by rw [w2.1];simpa using h1
   match ys,hl with
   | [a],_=>exact hne a rfl
  ·rename_i hx
   cases hx
end
theorem zrK {E:Env0} {fn:Func} {h0:Heap} {c c':Cfg} {R:AV->Heap->Prop} (b i:Nat) (live:List Nat) (m:Nat) {cs:List AV} (hb:c.h[b]?=some (.box cs)) (hi:cs[i]?=some .nl) (hm:Nat.ble h0.length m=true)
  (he:cut live m ⟨c.n,c.todo,c.ts,c.h.set b (.box (cs.set i (.sl [])))⟩=c') (hg:Good E fn h0 c' R):Good E fn h0 c R:=by
 have hg':=zdE live m (yI hm) (he ▸ hg)
 intro β0 S0 w0 β S w tmps hb0 hn x0 r rt
 have x2:=zfw (β:=β) (S:=S) (w:=w) hb (cs.set i (.sl []))
 have r2:=r.setBox hb (cs.set i (.sl [])) (fun g' vs' t' e2 e3 e4 e5=>by
  refine ⟨by simpa using e4,fun j x' y hx hy=>?_⟩
  by_cases hij:i=j
  ·subst hij
   rw [yAI (yB.1 hi).1] at hx
   cases hx
   have:=e5 i .nl y hi hy
   refine ⟨?_,this.2⟩
   obtain ⟨a,rfl⟩:=zlF this.1
   exact .d _ _ (.sl [] a 0 0 0 0 (fun _=>undef) (fun hn=>absurd rfl hn) (yJ _) (yAh _) Zs Zs Zs)
  ·rw [yZ hij] at hx
   exact e5 j x' y hx hy)
 exact hg' β0 S0 w0 β S w tmps hb0 hn (x0.trans x2) r2 fun t'=>(rt t').ext x2
def finE (E:Env) (fn:Func) (m n:Nat) (c:Cfg) (os:List Orc):Option (List Prop × AV × Heap) :=
 match run E n c os with
 | (q,⟨_,[],ts,h⟩,[])=>match retV E.toEnv0 ts h fn.results.toList with
  | some y=>some ((match frzM y with|[]=>q|_::_=>frzO h y::q),frz h y,((share h (frzM y)).take m).map (zbf (zcr m)))
  | none=>none
 | _=>none
theorem zyj {E:Env0} (ht:zaH E) (hmix:E.P.follows .mixedOrders=true) {fn:Func} {R:AV->Heap->Prop} {h0:Heap} {c:Cfg} (n:Nat) (os:List Orc) {q:List Prop} {y:AV} {H:Heap} {m:Nat}
  (hfin:finE (mk E) fn m n c os=some (q,y,H)) (hq:allP q) (hR:R y H):Good E fn h0 c (Shut m R):=by
 unfold finE at hfin
 split at hfin
 ·rename_i q' n' ts h' hrun
  split at hfin
  ·rename_i y' hret
   simp only [yA,Prod.mk.injEq] at hfin
   obtain ⟨h1,h2,h3⟩:=hfin
   have hqo:allP q'/\frzO h' y':=by
    split at h1
    ·rename_i hm
     subst h1
     exact ⟨hq,zfx y' hm⟩
    ·subst h1
     obtain ⟨a,b⟩:=zjo hq
     exact ⟨b,a⟩
   refine ziF ht hmix n c os (by rw [hrun];exact hqo.1) ?_
   rw [hrun]
   exact zzt ht hret ⟨hqo.2,by rw [h2,h3];exact hR⟩
  ·cases hfin
 ·cases hfin
noncomputable def runFE (fn:Func) (args:List AV) (h:Heap) (os:List Orc):Option (List Prop × AV × Heap) :=
 match fn.body, (fn.name == "runtime.NumGoroutine"), Nat.ble args.length fn.ntmps with
 | some c,false,true=>finE (mk E0) fn h.length 3000 ⟨fn.ntmps,[.code c],zbV 0 args,h⟩ os
 | _,_,_=>none
theorem wkE {f:FuncId} {fn:Func} {args:List AV} {h H:Heap} {r:AV} (hf:E0.P.funcs[f]?=some fn) (l:List St) (hfin:runFE fn args h (orcs l)=some (zbe l,r,H)):zab E0 f args h r H:=by
 unfold runFE at hfin
 split at hfin
 ·rename_i c hb hn ha
  exact zd6 (za6 hf hb hn (yI ha) (zyj E0ok mix0 3000 (orcs l) hfin (za7 l) ⟨rfl,rfl⟩))
 ·cases hfin
end Go.AM
namespace Go.AM
inductive Ct where
 | fz (t:Nat)
 | os (t:Nat)
 | bl (t:Nat)
 | bx (k q:Nat)
 | nl (k q:Nat)
 | ot (t:Nat) (e:TypeId)
 | ob (k q:Nat) (e:TypeId)
def ctM (live:List Nat) (m:Nat) (x:Ct) (c:Cfg):Option (List Prop × Cfg):=match x with
 | .fz t=>some ([frzO c.h (look c.ts t)],cut live m ⟨c.n,c.todo,(t,frz c.h (look c.ts t))::c.ts,share c.h (frzM (look c.ts t))⟩)
 | .os t=>match look c.ts t with
  | .own b n=>some ([],cut live m ⟨c.n,c.todo,(t,.os b n 0 n)::c.ts,c.h⟩)
  | _=>none
 | .bl t=>match look c.ts t with
  | .bl b=>some ([],cut live m ⟨c.n,c.todo,(t,.v (.bool b))::c.ts,c.h⟩)
  | _=>none
 | .bx k q=>match c.h[k]? with
  | some (.box cs)=>match cs[q]? with
   | some (.bl b)=>some ([],cut live m ⟨c.n,c.todo,c.ts,c.h.set k (.box (cs.set q (.v (.bool b))))⟩)
   | _=>none
  | _=>none
 | .nl k q=>match c.h[k]? with
  | some (.box cs)=>match cs[q]? with
   | some .nl=>some ([],cut live m ⟨c.n,c.todo,c.ts,c.h.set k (.box (cs.set q (.sl [])))⟩)
   | _=>none
  | _=>none
 | .ot t e=>match look c.ts t with
  | .nl=>some ([],cut live m ⟨c.n,c.todo,(t,.own c.h.length 0)::c.ts,c.h++[Blk.row e [] false]⟩)
  | _=>none
 | .ob k q e=>match c.h[k]? with
  | some (.box cs)=>match cs[q]? with
   | some .nl=>some ([],cut live m ⟨c.n,c.todo,c.ts,(c.h++[Blk.row e [] false]).set k (.box (cs.set q (.own c.h.length 0)))⟩)
   | _=>none
  | _=>none
theorem ctM_ok {E:Env0} {fn:Func} {h0:Heap} {c c':Cfg} {R:AV->Heap->Prop} {live:List Nat} {m:Nat} {x:Ct} {q:List Prop} (hm:Nat.ble h0.length m=true) (h:ctM live m x c=some (q,c')) (ho:allP q) (hg:Good E fn h0 c' R):Good E fn h0 c R:=by
 cases x with
 | fz t =>
  cases h
  exact zuG t live m rfl rfl ho hm rfl hg
 | os t =>
  simp only [ctM] at h
  split at h
  ·rename_i b n hl
   cases h
   exact zwM t b n live m hl hm rfl hg
  ·cases h
 | bl t =>
  simp only [ctM] at h
  split at h
  ·rename_i b hl
   cases h
   exact zwL t b live m hl hm rfl hg
  ·cases h
 | bx k q =>
  simp only [ctM] at h
  split at h
  ·rename_i cs hb
   split at h
   ·rename_i b hi
    cases h
    exact zrJ k q b live m hb hi hm rfl hg
   ·cases h
  ·cases h
 | nl k q =>
  simp only [ctM] at h
  split at h
  ·rename_i cs hb
   split at h
   ·rename_i hi
    cases h
    exact zrK k q live m hb hi hm rfl hg
   ·cases h
  ·cases h
 | ot t e =>
  simp only [ctM] at h
  split at h
  ·rename_i hl
   cases h
   exact zgM t e live m hl hm rfl hg
  ·cases h
 | ob k q e =>
  simp only [ctM] at h
  split at h
  ·rename_i cs hb
   split at h
   ·rename_i hi
    cases h
    exact zkq k q e live m hb hi hm rfl hg
   ·cases h
  ·cases h
def cts (live:List Nat) (n0:Nat):List (Ct × Nat)->List Prop->Cfg->Option (List Prop × Cfg)
 | [],q,c=>some (q,c)
 | (x,m)::r,q,c=>match Nat.ble n0 m,ctM live m x c with
  | true,some (q1,c1)=>cts live n0 r (q++q1) c1
  | _,_=>none
theorem zes:∀ {a b:List Prop},allP (a++b)->allP a/\allP b
 | [],_,h=>⟨trivial,h⟩
 | [_],[],h=>⟨h,trivial⟩
 | [_],_::_,h=>⟨h.1,h.2⟩
 | _::q::r,b,h=>by
  have:=zes (a:=q::r) (b:=b) h.2
  exact ⟨⟨h.1,this.1⟩,this.2⟩
theorem zkn {live:List Nat} {n0:Nat}:∀ {l:List (Ct × Nat)} {q q':List Prop} {c c':Cfg},cts live n0 l q c=some (q',c')->∃ q2,q'=q++q2
 | [],_,_,_,_,h=>by
  cases h
  exact ⟨[],by simp⟩
 | (x,m)::r,q,q',c,c',h=>by
  simp only [cts] at h
  split at h
  ·rename_i q1 c1 _ _
   obtain ⟨q2,h2⟩:=zkn h
   exact ⟨q1++q2,by rw [h2,yAV]⟩
  ·cases h
theorem zoZ {E:Env0} {fn:Func} {h0:Heap} {R:AV->Heap->Prop} {live:List Nat}:∀ {l:List (Ct × Nat)} {q q':List Prop} {c c':Cfg},cts live h0.length l q c=some (q',c')->allP q'->Good E fn h0 c' R->Good E fn h0 c R
 | [],_,_,_,_,h,_,hg=>by
  cases h
  exact hg
 | (x,m)::r,q,q',c,c',h,ho,hg=>by
  simp only [cts] at h
  split at h
  ·rename_i q1 c1 hm hc
   obtain ⟨q2,h2⟩:=zkn h
   have h3:allP q1:=by
    rw [h2] at ho
    exact (zes (zes ho).1).2
   exact ctM_ok hm hc h3 (zoZ h ho hg)
  ·cases h
noncomputable def zp6 (fn:Func) (args:List AV) (h:Heap) (live:List Nat) (m:Nat) (k:List (Ct × Nat)) (os:List Orc):Option (List Prop × Cfg) :=
 match zlS fn args h live m os with
 | some (q,c)=>cts live h.length k q c
 | none=>none
noncomputable def zyU (h0:Heap) (live:List Nat) (m:Nat) (k:List (Ct × Nat)) (c:Cfg) (os:List Orc):Option (List Prop × Cfg) :=
 match zlR h0 live m c os with
 | some (q,c)=>cts live h0.length k q c
 | none=>none
theorem znk {fn:Func} {h0:Heap} {c c':Cfg} {R:AV->Heap->Prop} {live:List Nat} {m:Nat} {os:List Orc} {q:List Prop} (hm:Nat.ble h0.length m=true) (hu:upto (mk E0) live m 3000 c os=(q,c')) (hq:allP q) (hg:Good E0 fn h0 c' R):Good E0 fn h0 c R:=by
 unfold upto at hu
 have h1:(run (mk E0) 3000 c os).1=q:=by
  have:=congrArg Prod.fst hu
  exact this
 have h2:cut live m (run (mk E0) 3000 c os).2.1=c':=congrArg Prod.snd hu
 exact znA E0ok mix0 3000 os live m hm h1 h2 hq hg
theorem wklN {fn:Func} {R:AV->Heap->Prop} {h0:Heap} {c c':Cfg} (l:List St) (live:List Nat) (m:Nat) (k:List (Ct × Nat)) (hu:zyU h0 live m k c (orcs l)=some (zbe l,c')) (hg:Good E0 fn h0 c' R):Good E0 fn h0 c R:=by
 unfold zyU at hu
 split at hu
 ·rename_i q c1 h1
  unfold zlR at h1
  split at h1
  ·rename_i hm
   obtain ⟨q2,h2⟩:=zkn hu
   have h3:=za7 l
   have h4:allP q:=by
    rw [h2] at h3
    exact (zes h3).1
   exact znk hm (Option.some.inj h1) h4 (zoZ hu h3 hg)
  ·cases h1
 ·cases hu
theorem wkcN {f:FuncId} {fn:Func} {args:List AV} {h:Heap} {R:AV->Heap->Prop} {c':Cfg} (hf:E0.P.funcs[f]?=some fn) (l:List St) (live:List Nat) (m:Nat) (k:List (Ct × Nat)) (hu:zp6 fn args h live m k (orcs l)=some (zbe l,c'))
  (hg:Good E0 fn h c' (Shut h.length R)):zbY E0 f args h R:=by
 unfold zp6 at hu
 split at hu
 ·rename_i q c1 h1
  unfold zlS at h1
  split at h1
  ·rename_i c hb hn ha hm
   obtain ⟨q2,h2⟩:=zkn hu
   have h3:=za7 l
   have h4:allP q:=by
    rw [h2] at h3
    exact (zes h3).1
   exact zd6 (za6 hf hb hn (yI ha) (znk hm (Option.some.inj h1) h4 (zoZ hu h3 hg)))
  ·cases h1
 ·cases hu
theorem zhM {p:Prop} (h:p:=by first|exact hI.push hx (zxo ‹_›)|exact hI.push hx (zu5 ‹_› ‹_› ‹_›)|exact hI.push hx (zu6 (hc _ (yC hx)) ‹_›)):p:=h
theorem zgO {p:Prop} (h:p:=by first|assumption|omega|(simp;done)|(simp;omega)):p:=h
theorem zsg {p:Prop} (h:p:=by first|assumption|exact PrefOk.nil _|omega):p:=h
structure ValOk (c:Col) (v:V):Prop where
 good:v.Good
 kind:v.kind=0\/v.kind=c.type
 nn:c.notNull=true->v.kind=c.type
abbrev zdo (c:Col):Prop:=c.type=1\/c.type=2\/c.type=3
structure PrefOk (cols:List Col) (n:Nat) (vals:List V):Prop where
 len:vals.length=n
 at_:∀ (k:Nat) (c:Col) (v:V),cols[k]?=some c->vals[k]?=some v->ValOk c v
abbrev zbJ (cols:List Col) (vals:List V):Prop:=PrefOk cols cols.length vals
theorem PrefOk.nil (cols:List Col):PrefOk cols 0 []:=⟨rfl,fun k c v _ h=>by simp at h⟩
theorem PrefOk.push {cols:List Col} {n:Nat} {vals:List V} (h:PrefOk cols n vals) {c:Col} (hc:cols[n]?=some c) {v:V} (hv:ValOk c v):PrefOk cols (n+1) (vals++[v]):=by
 refine ⟨by simp [h.len],fun k c' v' h1 h2=>?_⟩
 by_cases hk:k < vals.length
 ·rw [yH hk] at h2
  exact h.at_ k c' v' h1 h2
 ·rw [yY Zo] at h2
  have hl:=h.len
  have:k - vals.length=0:=by
   rcases Nat.eq_zero_or_pos (k - vals.length) with h|h
   ·exact h
   ·rw [yAX Zp] at h2;cases h2
  rw [this] at h2
  simp only [yAB,yA] at h2
  have:k=n:=by omega
  subst this
  rw [h1] at hc
  cases hc
  exact h2 ▸ hv
theorem zu6 {c:Col} {v:V} (ht:zdo c) (h:v.kind=zb0 c.type/\v.Good):ValOk c v:=by
 have:zb0 c.type=c.type:=by simp only [zb0];exact if_pos ht
 exact ⟨h.2,.inr (h.1.trans this),fun _=>h.1.trans this⟩
theorem zuI {v:V} (h:v.Good) (hk:v.kind=1) {a:Int} (ha:I64 a):V.Good ⟨v.kind,a,v.text⟩:=by
 refine ⟨?_,ha,h.small⟩
 have:=h.valid
 simp only [zbu,hk] at this ⊢
 exact this
theorem zu5 {c:Col} {v:V} {a:Int} (h:v.kind=zb0 c.type/\v.Good) (hc:(c.type==(1:Int))=true) (ha:-3<=a/\a<=12):ValOk c ⟨v.kind,a,v.text⟩:=by
 have e:c.type=1:=by simpa using hc
 have:v.kind=1:=by rw [h.1,e];rfl
 exact ⟨zuI h.2 this ⟨by omega,by omega⟩,.inr (by rw [e];exact this),fun _=>by rw [e];exact this⟩
theorem zxo {c:Col} (h:(!c.notNull)=true):ValOk c ⟨0,0,⟨#[]⟩⟩:=⟨zbK,.inl rfl,fun h'=>by rw [h'] at h;cases h⟩
noncomputable def L_row (t0:Tp) (s:Sch) (i:Nat) (t:Tp) (out:List V):Cfg:=zai B.BH 0 [(0,.p 0 0),(5,.own 1 out.length),(10,.sl (s.cols.map Col.cells)),(11,iv ((s.cols.map Col.cells).length:Nat)),(12,iv (i:Nat))] [.box t.cells,.row Ty.Value (out.map V.cells) false]
theorem Zcv1 {p:Prop} (h:p:=by first|rfl|(simp;done)|(simp [X.cells,Qy.cells,V.cells,Col.cells,Rw.cells,Tb.cells,Fr.cells,Sch.cells,Tp.cells,Pl.cells];done)):p:=h
theorem zd5 (t0:Tp) (s:Sch) (hl:zac s.cols) (hc:∀ c∈s.cols,zdo c) (i:Nat) (t:Tp) (out:List V) (hi:i<=(s.cols).length) (hI:PrefOk s.cols i out):∃ (t':Tp) (out':List V),(PrefOk s.cols (s.cols).length out')/\(decide ((((s.cols).length:Nat):Int) < (((s.cols.map Col.cells).length:Nat):Int))=false)/\∀ R,Good E0 B.BH [.box t0.cells] (L_row t0 s (s.cols).length t' out') R->Good E0 B.BH [.box t0.cells] (L_row t0 s i t out) R:=by
 have hk:=hi;revert i t out;refine zlp ((s.cols).length) (fun i hlt ih t out hi hI _=>?_)
 obtain ⟨x,hx,h0,hw⟩:=zlq (l:=s.cols) ((s.cols.map Col.cells).length) hlt
 have hlen:=hI.len
 obtain ⟨v1,t1,q1,c1⟩:=(zaU t x.type)
 let p_1:List St:=[sb h0,se (zaf Col.cells hx rfl),sl [0] c1]
 cases h2:x.type==1
 ·cases h3:!x.notNull
  ·obtain ⟨tZ,outZ,qZ,xZ,gZ⟩:=ih t1 (out++[v1]) Zo zhM Zo;exact ⟨tZ,outZ,qZ,xZ,fun R hg=>zaa (wkl (p_1++[sb h2,sb h3,sqA (List.map V.cells out) [[iv v1.kind,iv v1.int,sv v1.text]] out.length 3 32,si hw]) [0,5,10,11,12] 2 kr (zaK 5 1 (List.map V.cells out++[[iv v1.kind,iv v1.int,sv v1.text]]) (gZ R hg) (he:=Zcv1) (hm:=Zcv1)))⟩
  ·obtain ⟨b4,t4,c4⟩:=(zah t1 5 zgO)
   rcases (yD b4).symm with h5|h5
   ·obtain ⟨tZ,outZ,qZ,xZ,gZ⟩:=ih t4 (out++[v1]) Zo zhM Zo;exact ⟨tZ,outZ,qZ,xZ,fun R hg=>zaa (wkl (p_1++[sb h2,sg h3,sl [0] c4,sb h5,sqA (List.map V.cells out) [[iv v1.kind,iv v1.int,sv v1.text]] out.length 3 32,si hw]) [0,5,10,11,12] 2 kr (zaK 5 1 (List.map V.cells out++[[iv v1.kind,iv v1.int,sv v1.text]]) (gZ R hg) (he:=Zcv1) (hm:=Zcv1)))⟩
   ·obtain ⟨tZ,outZ,qZ,xZ,gZ⟩:=ih t4 (out++[V.mk 0 0 Zs0]) Zo zhM Zo;exact ⟨tZ,outZ,qZ,xZ,fun R hg=>zaa (wkl (p_1++[sb h2,sg h3,sl [0] c4,sb h5,sqA (List.map V.cells out) [[iv 0,iv 0,sv Zs0]] out.length 3 32,si hw]) [0,5,10,11,12] 2 kr (zaK 5 1 (List.map V.cells out++[[iv 0,iv 0,sv Zs0]]) (gZ R hg) (he:=Zcv1) (hm:=Zcv1)))⟩
 ·obtain ⟨b6,t6,c6⟩:=(zah t1 9 zgO)
  cases h7:!b6
  ·cases h8:!x.notNull
   ·obtain ⟨tZ,outZ,qZ,xZ,gZ⟩:=ih t6 (out++[v1]) Zo zhM Zo;exact ⟨tZ,outZ,qZ,xZ,fun R hg=>zaa (wkl (p_1++[sg h2,sl [0] c6,sb h7,sb h8,sqA (List.map V.cells out) [[iv v1.kind,iv v1.int,sv v1.text]] out.length 3 32,si hw]) [0,5,10,11,12] 2 kr (zaK 5 1 (List.map V.cells out++[[iv v1.kind,iv v1.int,sv v1.text]]) (gZ R hg) (he:=Zcv1) (hm:=Zcv1)))⟩
   ·obtain ⟨b9,t9,c9⟩:=(zah t6 5 zgO)
    let p_2:List St:=p_1++[sg h2,sl [0] c6,sb h7,sg h8,sl [0] c9]
    rcases (yD b9).symm with h10|h10
    ·obtain ⟨tZ,outZ,qZ,xZ,gZ⟩:=ih t9 (out++[v1]) Zo zhM Zo;exact ⟨tZ,outZ,qZ,xZ,fun R hg=>zaa (wkl (p_2++[sb h10,sqA (List.map V.cells out) [[iv v1.kind,iv v1.int,sv v1.text]] out.length 3 32,si hw]) [0,5,10,11,12] 2 kr (zaK 5 1 (List.map V.cells out++[[iv v1.kind,iv v1.int,sv v1.text]]) (gZ R hg) (he:=Zcv1) (hm:=Zcv1)))⟩
    ·obtain ⟨tZ,outZ,qZ,xZ,gZ⟩:=ih t9 (out++[V.mk 0 0 Zs0]) Zo zhM Zo;exact ⟨tZ,outZ,qZ,xZ,fun R hg=>zaa (wkl (p_2++[sb h10,sqA (List.map V.cells out) [[iv 0,iv 0,sv Zs0]] out.length 3 32,si hw]) [0,5,10,11,12] 2 kr (zaK 5 1 (List.map V.cells out++[[iv 0,iv 0,sv Zs0]]) (gZ R hg) (he:=Zcv1) (hm:=Zcv1)))⟩
  ·obtain ⟨a11,t11,q11,c11⟩:=(zaQ t6)
   cases h12:!x.notNull
   ·obtain ⟨tZ,outZ,qZ,xZ,gZ⟩:=ih t11 (out++[V.mk v1.kind a11 v1.text]) Zo zhM Zo;exact ⟨tZ,outZ,qZ,xZ,fun R hg=>zaa (wkl (p_1++[sg h2,sl [0] c6,sb h7,sl [0] c11,sb h12,sqA (List.map V.cells out) [[iv v1.kind,iv a11,sv v1.text]] out.length 3 32,si hw]) [0,5,10,11,12] 2 kr (zaK 5 1 (List.map V.cells out++[[iv v1.kind,iv a11,sv v1.text]]) (gZ R hg) (he:=Zcv1) (hm:=Zcv1)))⟩
   ·obtain ⟨b13,t13,c13⟩:=(zah t11 5 zgO)
    let p_3:List St:=p_1++[sg h2,sl [0] c6,sb h7,sl [0] c11,sg h12,sl [0] c13]
    rcases (yD b13).symm with h14|h14
    ·obtain ⟨tZ,outZ,qZ,xZ,gZ⟩:=ih t13 (out++[V.mk v1.kind a11 v1.text]) Zo zhM Zo;exact ⟨tZ,outZ,qZ,xZ,fun R hg=>zaa (wkl (p_3++[sb h14,sqA (List.map V.cells out) [[iv v1.kind,iv a11,sv v1.text]] out.length 3 32,si hw]) [0,5,10,11,12] 2 kr (zaK 5 1 (List.map V.cells out++[[iv v1.kind,iv a11,sv v1.text]]) (gZ R hg) (he:=Zcv1) (hm:=Zcv1)))⟩
    ·obtain ⟨tZ,outZ,qZ,xZ,gZ⟩:=ih t13 (out++[V.mk 0 0 Zs0]) Zo zhM Zo;exact ⟨tZ,outZ,qZ,xZ,fun R hg=>zaa (wkl (p_3++[sb h14,sqA (List.map V.cells out) [[iv 0,iv 0,sv Zs0]] out.length 3 32,si hw]) [0,5,10,11,12] 2 kr (zaK 5 1 (List.map V.cells out++[[iv 0,iv 0,sv Zs0]]) (gZ R hg) (he:=Zcv1) (hm:=Zcv1)))⟩
theorem zoA (t:Tp) (s:Sch) (hl:zac s.cols) (hc:∀ c∈s.cols,zdo c):∃ (r:List V) (t':Tp),zbJ s.cols r/\zab E0 S.BH [.p 0 0,s.av] [.box t.cells] (vsl r) [.box t'.cells]:=by
 obtain ⟨t1,out1,q1,q1_1,g1⟩:=zd5 t s zsg zsg 0 t ([]) zsg zsg
 exact ⟨out1,t1,(by first|assumption|trivial|(simp;done)|omega|(simp;omega)|(simp at *;omega)),wkcN At.BH [] [0,5,10,11,12] 1 [(.ot 5 Ty.Value,2)] kr (g1 _ (zaa (wkr [sqx (out1.length=(List.map V.cells out1).length),sb q1_1] kr)))⟩
def zan :(List Sch) :=
 [Sch.mk Zsl [Col.mk Zsn 1 false false,Col.mk (ByteArray.mk #[115]) 3 false false],Sch.mk (ByteArray.mk #[116]) [Col.mk Zsi 1 true true,Col.mk Zsn 1 false false,Col.mk (ByteArray.mk #[98]) 2 false false,Col.mk (ByteArray.mk #[115]) 3 false false],Sch.mk Zsu [Col.mk Zsi 1 true true,Col.mk Zsn 1 true false,Col.mk (ByteArray.mk #[109]) 1 false false]]
theorem zfB  :zab E0 S.AH [] [] (.sl (zan.map Sch.cells)) []:=by
 unfold zan
 exact (by (try simp only [zsl]);exact wk At.AH [] kr)
theorem zdc:zac zan:=by simp [zan]
noncomputable def zxG (n:Str) (i:Nat) :Cfg:=zai B.CN 0 [(0,sv n),(2,.p 0 0),(5,.sl (zan.map Sch.cells)),(6,iv ((zan.map Sch.cells).length:Nat)),(7,iv (i:Nat))] [.box [sv ⟨#[]⟩,.nl]]
def zkS (n:Str):List (Sch)->Nat->Sch
 | [],i =>
  Sch.mk Zs0 []
 | x::r,i =>
  bif ByteArray.toList x.name==ByteArray.toList n then
   x
  else
   zkS n r (i+1)
theorem zqz (n:Str) (hs:zac zan):∀ (kk i:Nat),i+kk=(zan).length->Good E0 B.CN [] (zxG n i ) (Shut 0 fun r h=>r=((zkS n ((zan).drop i) i ).av)/\h=[]):=by
 intro kk
 induction kk with
 | zero =>
  intro i  hi
  have h0:decide (((i:Nat):Int) < (((zan.map Sch.cells).length:Nat):Int))=false:=by simp;omega
  have e0:(zan).drop i=[]:=yAJ Zo
  rw [e0]
  simp only [zkS]
  refine zaa ?_
  exact wkr [sb h0] kr
 | succ kk ih =>
  intro i  hi
  obtain ⟨x,hx⟩:=zbc (l:=zan) (i:=i) Zo
  have h0:decide (((i:Nat):Int) < (((zan.map Sch.cells).length:Nat):Int))=true:=by simp;omega
  have hw:=zba i (by first|omega|(simp only [zac,Few] at *;omega))
  rw [zaB hx]
  simp only [zkS]
  refine zaa ?_
  let p_1:List St:=[sb h0,se (zaf Sch.cells hx rfl)]
  cases h1:ByteArray.toList x.name==ByteArray.toList n
  ·exact wkl (p_1++[sb h1,si hw]) [0,2,5,6,7] 1 kr (ih (i+1) Zo )
  ·exact wkr (p_1++[sb h1]) kr
def zal (n:Str):Sch :=
 zkS n zan (0)
theorem zbx (n:Str) (hs:zac zan):zab E0 S.CN [sv n] [] ((zal n).av) []:=by
 unfold zal
 exact wkc At.CN [sc zfB] [0,2,5,6,7] 1 kr (zqz n hs zan.length 0 Zs)
theorem zsz (n:Int) (h1:decide (n < (0:Int))=false):Pure S.Dc [iv n] (X.av (xLit ⟨1,n,⟨#[]⟩⟩)):=by
 exact wk At.Dc [sb h1,sc (zaP (V.mk 1 n ⟨#[]⟩))] kr
def xNeg (a:X):X:=X.mk 4 0 false ⟨0,0,⟨#[]⟩⟩ ⟨#[]⟩ ⟨#[]⟩ [a] []
theorem c_Num1 (n:Int) (h1:decide (n < (0:Int))=true) (h2:-9223372036854775808 < n):Pure S.Dc [iv n] (X.av (xNeg (xLit ⟨1,IntKind.i64.wrap (-n),⟨#[]⟩⟩))):=by
 have hk:=zsz (IntKind.i64.wrap (-n)) (by rw [IntKind.wrap_i64];simp at *;omega)
 unfold xNeg
 simp only [X.av,xLit,zaG,zaL,X.cells,X.args_mk,X.sub_mk]
 exact wk At.Dc [sb h1,si (e:=IntKind.i64.wrap (-n)) rfl,sc hk] kr
def xNum (n:Int):X:=bif decide (n < 0) then xNeg (xLit ⟨1,IntKind.i64.wrap (-n),⟨#[]⟩⟩) else xLit ⟨1,n,⟨#[]⟩⟩
theorem zaZ (n:Int) (h2:-9223372036854775808 < n):Pure S.Dc [iv n] (X.av (xNum n)):=by
 unfold xNum
 cases h:decide (n < 0)
 ·exact zsz n h
 ·exact c_Num1 n h h2
def zbd (l:List V):(List V) :=
 l
theorem zbN (l:List V) (hl:zac l):zab E0 S.DL [vsl l] [] (vsl (zbd l)) []:=by
 exact wk At.DL [sqx ((List.map V.cells l).length=(List.map V.cells l).length),sqx (AllLen (List.map V.cells l) 3/\((List.map V.cells l).length * 32).le 140737488355328)] kr
def zcv (t:Tg) (s:Sch) (a b:List V):(List Fr) :=
 bif t.each then
  bif t.event==2 then
   [Fr.mk ZsO true s.cols (zbd a),Fr.mk ZsN true s.cols (zbd b)]
  else
   bif t.event==3 then
    bif t.event==1 then
     [Fr.mk ZsO true s.cols (zbd a),Fr.mk ZsN true s.cols (zbd b)]
    else
     [Fr.mk ZsO true s.cols (zbd a)]
   else
    bif t.event==1 then
     [Fr.mk ZsN true s.cols (zbd b)]
    else
     []
 else
  []
theorem zkw (t:Tg) (s:Sch) (a b:List V) (hs:zac s.cols) (ha:zac a) (hb:zac b):zab E0 S.Cs [t.av,s.av,vsl a,vsl b] [] (fsl (zcv t s a b)) []:=by
 unfold zcv
 cases h1:t.each
 ·exact wk At.Cs [sb h1,sb h1] kr
 ·cases h2:t.event==2
  ·cases h3:t.event==3
   ·cases h4:t.event==1
    ·exact wk At.Cs [sg h1,sg h2,sb h3,sg h1,sg h2,sb h4] kr
    ·exact (by (try simp only [zsl]);exact wk At.Cs [sqx (1=1),sg h1,sg h2,sb h3,sg h1,sg h2,sb h4,sqx (AllLen (List.map Col.cells s.cols) 4/\((List.map Col.cells s.cols).length * 32).le 140737488355328),sc (zbN b zgO),sqx (True/\True/\(List.map Col.cells s.cols).length=(List.map Col.cells s.cols).length/\True/\True),sqx (AllLen [[sv ZsN,bv true,ZC s.cols,vsl (zbd b)]] 4/\Nat.le 72 140737488355328)] kr)
   ·cases h5:t.event==1
    ·exact (by (try simp only [zsl]);exact wk At.Cs [sqx (1=1),sg h1,sg h2,sb h3,sqx (AllLen (List.map Col.cells s.cols) 4/\((List.map Col.cells s.cols).length * 32).le 140737488355328),sc (zbN a zgO),sqx (True/\True/\(List.map Col.cells s.cols).length=(List.map Col.cells s.cols).length/\True/\True),sqx (AllLen [[sv ZsO,bv true,ZC s.cols,vsl (zbd a)]] 4/\Nat.le 72 140737488355328),sg h1,sg h2,sb h5] kr)
    ·exact (by (try simp only [zsl]);exact wk At.Cs [sqx (2=2),sg h1,sg h2,sb h3,sqx (AllLen (List.map Col.cells s.cols) 4/\((List.map Col.cells s.cols).length * 32).le 140737488355328),sc (zbN a zgO),sqx (True/\True/\(List.map Col.cells s.cols).length=(List.map Col.cells s.cols).length/\True/\True),sqx (AllLen [[sv ZsO,bv true,ZC s.cols,vsl (zbd a)]] 4/\Nat.le 72 140737488355328),sg h1,sg h2,sb h5,sqx (AllLen (List.map Col.cells s.cols) 4/\((List.map Col.cells s.cols).length * 32).le 140737488355328),sc (zbN b zgO),sqx (True/\True/\(List.map Col.cells s.cols).length=(List.map Col.cells s.cols).length/\True/\True),sqx (AllLen [[sv ZsN,bv true,ZC s.cols,vsl (zbd b)]] 4/\1=1/\Nat.le 144 140737488355328)] kr)
  ·exact (by (try simp only [zsl]);exact wk At.Cs [sqx (2=2),sg h1,sb h2,sqx (AllLen (List.map Col.cells s.cols) 4/\((List.map Col.cells s.cols).length * 32).le 140737488355328),sc (zbN a zgO),sqx (True/\True/\(List.map Col.cells s.cols).length=(List.map Col.cells s.cols).length/\True/\True),sqx (AllLen [[sv ZsO,bv true,ZC s.cols,vsl (zbd a)]] 4/\Nat.le 72 140737488355328),sg h1,sb h2,sqx (AllLen (List.map Col.cells s.cols) 4/\((List.map Col.cells s.cols).length * 32).le 140737488355328),sc (zbN b zgO),sqx (True/\True/\(List.map Col.cells s.cols).length=(List.map Col.cells s.cols).length/\True/\True),sqx (AllLen [[sv ZsN,bv true,ZC s.cols,vsl (zbd b)]] 4/\1=1/\Nat.le 144 140737488355328)] kr)
def plIn (p:Pl) (s:Sch):Pl :=
 Pl.mk (p.frs++[Fr.mk s.name false s.cols []]) p.tbs
theorem zbQ (p:Pl) (s:Sch) (hp:zac p.frs):zab E0 S.DE [p.av,s.av] [] ((plIn p s).av) []:=by
 unfold plIn
 exact (by (try simp only [zsl]);exact wk At.DE [sqx ((List.map Fr.cells p.frs++[[sv s.name,bv false,ZC s.cols,AV.sl []]]).length=(List.map Fr.cells p.frs++[[sv s.name,bv false,ZC s.cols,AV.sl []]]).length/\True/\True),sd [(2,[sqx (AllLen (List.map Fr.cells p.frs) 4/\((List.map Fr.cells p.frs).length * 72).le 140737488355328)]),(9,[sqA (List.map Fr.cells p.frs) [[sv s.name,bv false,ZC s.cols,AV.sl []]] ((List.map Fr.cells p.frs).length) 4 72])]] kr)
theorem zsh {p:Prop} (h:p:=by exact ⟨by (try simp only [yAO,yAL,yAS]);omega,by first|exact hI.2|exact hI.2.app (zcJ.col _ _)|exact (hI.2.app (zcJ.col _ _)).app (zcJ.col _ _)⟩):p:=h
theorem znJ {p:Prop} (h:p:=by first|assumption|exact ⟨by simp,zcJ.nil⟩|exact zAY ‹_› Zo|omega):p:=h
theorem zsi {p:Prop} (h:p:=by first|assumption|(simp;done)|omega|exact ⟨by simp only [Few] at hfx;omega,hI.2⟩):p:=h
theorem sD3_6 {p:Prop} (h:p:=by first|trivial|assumption|(simp;done)|omega|(simp;omega)|(simp at *;omega)):p:=h
theorem sD3_9 {p:Prop} (h:p:=by first|omega|(simp only [zac,Few] at *;omega)):p:=h
abbrev Few {α:Type} (l:List α):Prop:=l.length<=1000
abbrev zX:List AV:=[iv 0,iv 0,.bl false,iv 0,iv 0,sv ⟨#[]⟩,sv ⟨#[]⟩,sv ⟨#[]⟩,.nl,.nl]
def zfs (x:X):Prop:=∃ a b,x=xCol a b
def zcJ (l:List X):Prop:=∀ x∈l,zfs x
theorem zcJ.nil:zcJ []:=fun _ h=>by cases h
theorem zcJ.app {l m:List X} (h:zcJ l) (hm:zcJ m):zcJ (l++m):=fun x hx=>(yK.1 hx).elim (h x) (hm x)
theorem zcJ.col (a b:Str):zcJ [xCol a b]:=fun x hx=>by simp only [yF] at hx;exact ⟨a,b,hx⟩
theorem zcJ.at {l:List X} (h:zcJ l) {i:Nat} {x:X} (hx:l[i]?=some x):zfs x:=h x (yC hx)
noncomputable def zxv (t0:Tp) (p:Pl) (w:Int) (i:Nat) (l:List X):Cfg:=zai B.A2 0 [(0,.p 0 0),(2,iv w),(4,.p 1 0),(6,.p 2 0),(8,.own 3 l.length),(14,fsl p.frs),(15,iv ((p.frs.map Fr.cells).length:Nat)),(16,iv (i:Nat))] [.box t0.cells,.box p.cells,.box zX,.row Ty.Expr (zad l) false]
noncomputable def zxu (t0:Tp) (p:Pl) (w:Int) (io:Nat) (f:Fr) (i:Nat) (l:List X):Cfg:=zai B.A2 1 [(0,.p 0 0),(2,iv w),(4,.p 1 0),(6,.p 2 0),(8,.own 3 l.length),(9,iv (io:Nat)),(10,.p 4 0),(14,fsl p.frs),(15,iv ((p.frs.map Fr.cells).length:Nat)),(16,iv (io:Nat)),(22,.sl (f.cols.map Col.cells)),(23,iv ((f.cols.map Col.cells).length:Nat)),(24,iv (i:Nat))] [.box t0.cells,.box p.cells,.box zX,.row Ty.Expr (zad l) false,.box f.cells]
theorem Zcv0 {p:Prop} (h:p:=by first|rfl|(simp;done)|(simp [X.cells,Qy.cells,V.cells,Col.cells,Rw.cells,Tb.cells,Fr.cells,Sch.cells,Tp.cells,Pl.cells,xCol,xLit,xBin,xNeg];done)):p:=h
theorem zf6 (t0:Tp) (p:Pl) (w:Int) (io:Nat) (f:Fr) (hl:Few f.cols) (hio:io<=1000) (i:Nat) (l:List X) (hi:i<=(f.cols).length) (hI:l.length+2 * (f.cols.length - i)<=2000 * (io+1)/\zcJ l):∃ (l':List X),(l'.length+2 * (f.cols.length - (f.cols).length)<=2000 * (io+1)/\zcJ l')/\(decide ((((f.cols).length:Nat):Int) < (((f.cols.map Col.cells).length:Nat):Int))=false)/\∀ R,Good E0 B.A2 [.box t0.cells] (zxu t0 p w io f (f.cols).length l') R->Good E0 B.A2 [.box t0.cells] (zxu t0 p w io f i l) R:=by
 have hk:=hi;revert i l;refine zlp ((f.cols).length) (fun i hlt ih l hi hI _=>?_)
 obtain ⟨x,hx,h0,hw⟩:=zlq (l:=f.cols) ((f.cols.map Col.cells).length) hlt sD3_9
 have hil:=zb1 hx;have hlen:l.length<=2002000:=by omega
 let p_1:List St:=[sb h0,se (zaf Col.cells hx rfl)]
 cases h1:x.type != w
 ·let p_2:List St:=p_1++[sb h1,sc (zaM f.name x.name),sqA (zad l) [[iv (xCol f.name x.name).kind,iv (xCol f.name x.name).op,bv (xCol f.name x.name).not,iv (xCol f.name x.name).val.kind,iv (xCol f.name x.name).val.int,sv (xCol f.name x.name).val.text,sv (xCol f.name x.name).table,sv (xCol f.name x.name).name,AV.sl (zad []),AV.sl (zam [])]] l.length 10 136]
  cases h2:!f.strict
  ·exact Zih (ih (l++[xCol f.name x.name]) Zo zsh Zo) fun R gY=>zaa (wkl (p_2++[sb h2,si hw]) [0,2,4,6,8,9,10,14,15,16,22,23,24] 5 kr (zaK 8 3 (zad l++[(xCol f.name x.name).cells]) gY (he:=Zcv0) (hm:=Zcv0)))
  ·let p_3:List St:=p_2++[sg h2,si (e:=IntKind.i64.wrap ((↑(List.map Fr.cells p.frs).length:Int) - 1)) rfl]
   cases h3:(io:Int)==IntKind.i64.wrap ((↑(List.map Fr.cells p.frs).length:Int) - 1)
   ·exact Zih (ih (l++[xCol f.name x.name]) Zo zsh Zo) fun R gY=>zaa (wkl (p_3++[sb h3,si hw]) [0,2,4,6,8,9,10,14,15,16,22,23,24] 5 kr (zaK 8 3 (zad l++[(xCol f.name x.name).cells]) gY (he:=Zcv0) (hm:=Zcv0)))
   ·exact Zih (ih (l++[xCol f.name x.name]++[xCol Zs0 x.name]) Zo zsh Zo) fun R gY=>zaa (wkl (p_3++[sb h3,sc (zaM Zs0 x.name),sqA (zad l++[(xCol f.name x.name).cells]) [(xCol Zs0 x.name).cells] ((zad l++[(xCol f.name x.name).cells]).length) 10 136,si hw]) [0,2,4,6,8,9,10,14,15,16,22,23,24] 5 kr (zaK 8 3 (zad l++[(xCol f.name x.name).cells]++[(xCol Zs0 x.name).cells]) gY (he:=Zcv0) (hm:=Zcv0)))
 ·exact Zih (ih l Zo zsh Zo) fun R gY=>zaa (wkl (p_1++[sb h1,si hw]) [0,2,4,6,8,9,10,14,15,16,22,23,24] 5 kr gY)
theorem zf7 (t0:Tp) (p:Pl) (w:Int) (hf:Few p.frs) (hc:∀ f∈p.frs,Few f.cols) (i:Nat) (l:List X) (hi:i<=(p.frs).length) (hI:l.length<=2000 * i/\zcJ l):∃ (l':List X),(l'.length<=2000 * (p.frs).length/\zcJ l')/\(decide ((((p.frs).length:Nat):Int) < (((p.frs.map Fr.cells).length:Nat):Int))=false)/\∀ R,Good E0 B.A2 [.box t0.cells] (zxv t0 p w (p.frs).length l') R->Good E0 B.A2 [.box t0.cells] (zxv t0 p w i l) R:=by
 have hk:=hi;revert i l;refine zlp ((p.frs).length) (fun i hlt ih l hi hI _=>?_)
 obtain ⟨x,hx,h0,hw⟩:=zlq (l:=p.frs) ((p.frs.map Fr.cells).length) hlt sD3_9
 have hfx:=hc x (yC hx);have hix:i<=1000:=by simp only [Few] at hf;omega
 obtain ⟨l1,q1,q1_1,g1⟩:=zf6 t0 p w i x zsi zsi 0 l zsi zsi
 exact Zih (ih l1 Zo sD3_6 Zo) fun R gY=>zaa (wkl [sb h0,se (zaf Fr.cells hx rfl)] [0,2,4,6,8,9,10,14,15,16,22,23,24] 5 kr (g1 _ (zaa (wkl [sb q1_1,si hw] [0,2,4,6,8,14,15,16] 4 kr gY))))
theorem zAY {n:Nat} (h:(((n:Nat):Int)==0)=false) (hb:n<=1000000000):Pos (n:Int):=by
 have:(n:Int)≠0:=by simpa using h
 exact ⟨by omega,by omega⟩
structure Pl.Ok (p:Pl):Prop where
 frs:Few p.frs
 cols:∀ f∈p.frs,Few f.cols
theorem zbX (t:Tp) (p:Pl) (w:Int) (hf:Few p.frs) (hc:∀ f∈p.frs,Few f.cols):∃ (x:X) (ok:Bool) (t':Tp),(ok=true->zfs x)/\zab E0 S.A2 [.p 0 0,p.av,iv w] [.box t.cells] (.tup [x.av,bv ok]) [.box t'.cells]:=by
 obtain ⟨l1,q1,q1_1,g1⟩:=zf7 t p w znJ znJ 0 ([]) znJ znJ
 let p_1:List St:=[sb q1_1,sqx (l1.length=(zad l1).length)]
 cases h2:(l1.length:Int)==0
 ·obtain ⟨a3,t3,q3,c3⟩:=(zae t ((l1.length:Int)) znJ)
  obtain ⟨x4,e4⟩:=zbc (l:=l1) (i:=(a3:Int).toNat) znJ
  exact ⟨x4,true,t3,(by first|(simp;done)|exact fun _=>(‹_/\zcJ _›).2.at ‹_›),wkcN At.A2 [] [0,2,4,6,8,14,15,16] 3 [(.ot 8 Ty.Expr,4)] kr (g1 _ (zaa (wkr (p_1++[sb h2,sqx (l1.length=(zad l1).length),sl [0] c3,sqx (OwnAt (zad l1) l1.length (a3:Int)),sx (.el x4.cells) (zAW (n:=l1.length) Zs e4)]) kr)))⟩
 ·exact ⟨X.mk 0 0 false (V.mk 0 0 Zs0) Zs0 Zs0 [] [],false,t,(by first|(simp;done)|exact fun _=>(‹_/\zcJ _›).2.at ‹_›),wkcN At.A2 [] [0,2,4,6,8,14,15,16] 3 [(.ot 8 Ty.Expr,4)] kr (g1 _ (zaa (wkr (p_1++[sb h2]) kr)))⟩
abbrev zT:List AV:=[sv ⟨#[]⟩,.nl,iv 0,.nl]
structure TabOk (t:Tb):Prop where
 rows:∀ r∈t.rows,zbJ t.sch.cols r.vals
 len:t.rows.length<=1000
structure SchOk (s:Sch):Prop where
 few:Few s.cols
 cols:∀ c∈s.cols,zdo c
 ne:s.cols≠[]
abbrev zvL (n:Nat) (key:Int):Prop:=key < n
theorem SchOk.short {s:Sch} (h:SchOk s):zac s.cols:=by have:=h.few;simp only [Few] at this;simp only [zac];omega
def zak (l:List V) (key:Int):V:=l.getD key.toNat V.null
theorem zcT (l:List V) (key:Int) (hk:decide (key < 0)=false) (h:key < l.length):ElAt (l.map V.cells) key (zak l key).cells 3:=by
 have h0:0<=key:=by simpa using hk
 refine ⟨h0,?_,rfl⟩
 have:key.toNat < l.length:=by omega
 simp [zak,yAF,yE this]
abbrev zh9 (s:Sch) (rows:List Rw):Prop:=∀ r∈rows,zbJ s.cols r.vals
theorem zh9.len {s:Sch} {rows:List Rw} (h:zh9 s rows) {i:Nat} {x:Rw} (hx:rows[i]?=some x):x.vals.length=s.cols.length:=(h x (yC hx)).len
theorem zh9.push {s:Sch} {rows:List Rw} (h:zh9 s rows) {x:Rw} (hx:zbJ s.cols x.vals):zh9 s (rows++[x]):=fun r hr=>(yK.1 hr).elim (h r) fun h=>by simp only [yF] at h;exact h ▸ hx
theorem zep {x:Sch} (hx:x∈zan):SchOk x:=by
 simp only [zan,yO,yAE,or_false] at hx
 rcases hx with rfl|rfl|rfl <;> exact ⟨by simp,by simp [zdo],by simp⟩
structure StoreOk (l:List Tb):Prop where
 len:l.length<=1000
 tabs:∀ t∈l,TabOk t/\SchOk t.sch
theorem StoreOk.push {l:List Tb} (h:StoreOk l) (hl:l.length+1<=1000) {t:Tb} (ht:TabOk t) (hs:SchOk t.sch):StoreOk (l++[t]) :=
 ⟨by simp;omega,fun x hx=>(yK.1 hx).elim (h.tabs x) fun h=>by simp only [yF] at h;exact h ▸ ⟨ht,hs⟩⟩
theorem zbb {p:Prop} (h:p:=by first|assumption|exact zde Zo Zo|exact zc4 zbK|exact zc4 (by assumption:_/\V.Good _).2|exact zgD ((by assumption:_=true->zfs _) ‹_›)|exact zxr ‹_›|exact zf8 ‹_› ‹_›):p:=h
theorem zef {p:Prop} (h:p:=by first|exact zde Zo Zo|exact zc4 zbK|exact zc4 (by assumption:_/\V.Good _).2|exact zgD ((by assumption:_=true->zfs _) ‹_›)):p:=h
theorem zaO {p:Prop} (h:p:=by first|assumption|(simp;done)|omega):p:=h
theorem zjD {p:Prop} (h:p:=by first|assumption|exact hp.pos|exact hp.short|exact hp.ins ‹_›|(simp;done)|omega|(simp only [yG] at *;omega)):p:=h
theorem zeg {p:Prop} (h:p:=by first|assumption|omega|(simp;done)|(simp;omega)):p:=h
theorem zpD {p:Prop} (h:p:=by first|exact zxr ‹_›|exact zf8 ‹_› ‹_›|exact zxs ‹_› ‹_› ‹_›):p:=h
theorem zsj {p:Prop} (h:p:=by exact xok_q Zs (by first|exact all0|exact all1 ‹_›) (by first|exact all0|exact all1 ‹_›)):p:=h
abbrev Thin {α:Type} (k:Nat) (l:List α):Prop:=l.length<=k
theorem Thin.few {α:Type} {k:Nat} {l:List α} (h:Thin k l) (hk:k<=1000:=by decide):Few l:=Nat.le_trans h hk
theorem Thin.short {α:Type} {k:Nat} {l:List α} (h:Thin k l) (hk:k<=1000000000:=by decide):zac l:=Nat.le_trans h hk
def XOk:Nat->X->Prop
 | 0,_=>False
 | n+1,e=>e.val.Good/\(Thin 3 e.args/\Thin 1 e.sub)/\(∀ x∈e.args,XOk n x)/\∀ q∈e.sub,(Thin 8 q.items/\Thin 1 q.wh)/\(∀ x∈q.items,XOk n x)/\∀ x∈q.wh,XOk n x
theorem XOk.mono:∀ {n:Nat} {e:X},XOk n e->XOk (n+1) e
 | 0,_,h=>h.elim
 | n+1,e,⟨h1,h2,h3,h4⟩=>⟨h1,h2,fun x hx=>(h3 x hx).mono,fun q hq=>⟨(h4 q hq).1,fun x hx=>((h4 q hq).2.1 x hx).mono,fun x hx=>((h4 q hq).2.2 x hx).mono⟩⟩
theorem XOk.le {n m:Nat} {e:X} (h:XOk n e) (hm:n<=m):XOk m e:=by
 induction hm with
 | refl=>exact h
 | step _ ih=>exact ih.mono
theorem zc4 {n:Nat} {v:V} (h:v.Good):XOk (n+1) (xLit v):=⟨h,⟨by simp [xLit],by simp [xLit]⟩,fun x hx=>by simp [xLit] at hx,fun q hq=>by simp [xLit] at hq⟩
theorem zgD {n:Nat} {x:X} (h:zfs x):XOk (n+1) x:=by
 obtain ⟨a,b,rfl⟩:=h
 exact ⟨zbK,⟨by simp [xCol],by simp [xCol]⟩,fun x hx=>by simp [xCol] at hx,fun q hq=>by simp [xCol] at hq⟩
theorem zoC {n:Nat} {k o:Int} {nt:Bool} {l:List X} (hl:Thin 3 l) (h:∀ x∈l,XOk n x):XOk (n+1) (X.mk k o nt ⟨0,0,⟨#[]⟩⟩ ⟨#[]⟩ ⟨#[]⟩ l []) :=
 ⟨zbK,⟨hl,by simp⟩,h,fun q hq=>by simp at hq⟩
theorem zxr {n:Nat} {k o:Int} {nt:Bool} {a:X} (h:XOk n a):XOk (n+1) (X.mk k o nt ⟨0,0,⟨#[]⟩⟩ ⟨#[]⟩ ⟨#[]⟩ [a] []) :=
 zoC Zs fun x hx=>by simp only [yF] at hx;exact hx ▸ h
theorem zf8 {n:Nat} {k o:Int} {nt:Bool} {a b:X} (h:XOk n a) (h2:XOk n b):XOk (n+1) (X.mk k o nt ⟨0,0,⟨#[]⟩⟩ ⟨#[]⟩ ⟨#[]⟩ [a,b] []) :=
 zoC Zs fun x hx=>by simp only [yO,yAE,or_false] at hx;rcases hx with rfl|rfl <;> assumption
theorem zxs {n:Nat} {k o:Int} {nt:Bool} {a b c:X} (h:XOk n a) (h2:XOk n b) (h3:XOk n c):XOk (n+1) (X.mk k o nt ⟨0,0,⟨#[]⟩⟩ ⟨#[]⟩ ⟨#[]⟩ [a,b,c] []) :=
 zoC Zs fun x hx=>by simp only [yO,yAE,or_false] at hx;rcases hx with rfl|rfl|rfl <;> assumption
theorem xok_q {n:Nat} {k:Int} {s:Bool} {i w:List X} {f:Str} (hi:Thin 8 i) (h1:∀ x∈i,XOk n x) (h2:∀ x∈w,XOk n x) (hw:Thin 1 w:=by simp):XOk (n+1) (X.mk k 0 false ⟨0,0,⟨#[]⟩⟩ ⟨#[]⟩ ⟨#[]⟩ [] [Qy.mk s i f w]) :=
 ⟨zbK,⟨by simp,by simp⟩,fun x hx=>by simp at hx,fun q hq=>by
  simp only [X.sub_mk,yF] at hq
  subst hq
  exact ⟨⟨hi,hw⟩,h1,h2⟩⟩
theorem all0 {n:Nat}:∀ x∈([]:List X),XOk n x:=fun x hx=>by cases hx
theorem all1 {n:Nat} {a:X} (h:XOk n a):∀ x∈[a],XOk n x:=fun x hx=>by simp only [yF] at hx;exact hx ▸ h
theorem zde {n:Nat} {a:Int} (h:-9223372036854775808 < a) (h2:a<=9223372036854775807):XOk (n+2) (xNum a):=by
 unfold xNum
 cases decide (a < 0)
 ·exact zc4 (zbU ⟨by omega,by omega⟩)
 ·exact zxr (zc4 (zbU (zij _)))
structure Pl.OkN (n:Nat) (p:Pl):Prop where
 frs:p.frs.length+n<=1000
 cols:∀ f∈p.frs,Few f.cols
 ne:p.tbs≠[]
 few:Few p.tbs
 tcols:∀ s∈p.tbs,Few s.cols
theorem Pl.OkN.few1 {n:Nat} {p:Pl} (h:p.OkN n):Few p.frs:=by have:=h.frs;simp only [Few];omega
theorem Pl.OkN.short {n:Nat} {p:Pl} (h:p.OkN n):zac p.frs:=by have:=h.frs;simp only [zac];omega
theorem Pl.OkN.less {n:Nat} {p:Pl} (h:p.OkN (n+1)):p.OkN n:=⟨by have:=h.frs;omega,h.cols,h.ne,h.few,h.tcols⟩
theorem Pl.OkN.pos {n:Nat} {p:Pl} (h:p.OkN n):Pos (((p.tbs.map Sch.cells).length:Nat):Int):=by
 have h1:=h.few
 have h2:0 < p.tbs.length:=List.length_pos_iff.2 h.ne
 simp only [Few] at h1
 simp only [Pos,yG];omega
theorem Pl.OkN.ins {n:Nat} {p:Pl} (h:p.OkN (n+1)) {k:Nat} {s:Sch} (hs:p.tbs[k]?=some s):(plIn p s).OkN n:=by
 refine ⟨by have:=h.frs;simp [plIn];omega,fun f hf=>?_,h.ne,h.few,h.tcols⟩
 simp only [plIn,yK,yF] at hf
 rcases hf with hf|rfl
 ·exact h.cols f hf
 ·exact h.tcols s (yC hs)
abbrev RecE (n m:Nat) (d:Int):Prop:=∀ (t:Tp) (p:Pl) (w:Int),p.OkN n->∃ (e:X) (t':Tp),XOk m e/\zab E0 S.Ac [.p 0 0,p.av,iv w,iv d] [.box t.cells] e.av [.box t'.cells]
theorem zun (t:Tp) (p:Pl) (n m:Nat) (d:Int) (hp:p.OkN n) (hf:∀ (t:Tp) (p:Pl) (w:Int),p.OkN n->∃ (e:X) (t':Tp),XOk m e/\zab E0 S.Ac [.p 0 0,p.av,iv w,iv (IntKind.i64.wrap (d - 1))] [.box t.cells] e.av [.box t'.cells]):∃ (x:X) (t':Tp),XOk (m+1) x/\zab E0 S.Bg [.p 0 0,p.av,iv d] [.box t.cells] x.av [.box t'.cells]:=by
 obtain ⟨a1,t1,q1,c1⟩:=(zae t 3 zeg)
 obtain ⟨a2,t2,q2,c2⟩:=(zae t1 6 zeg)
 let p_1:List St:=[sl [0] c1,si (e:=IntKind.i64.wrap (1+(a1:Int))) rfl,sl [0] c2]
 cases h3:(a2:Int)==0
 ·cases h4:(a2:Int)==1
  ·cases h5:(a2:Int)==2
   ·cases h6:(a2:Int)==3
    ·obtain ⟨a7,t7,q7,c7⟩:=(zae t2 6 zeg)
     obtain ⟨e8,t8,q8,c8⟩:=(hf t7 p (IntKind.i64.wrap (1+(a1:Int))) zeg)
     obtain ⟨e9,t9,q9,c9⟩:=(hf t8 p (IntKind.i64.wrap (1+(a1:Int))) zeg)
     exact ⟨xBin (IntKind.i64.wrap (3+(a7:Int))) e8 e9,t9,zpD,wk At.Bg (p_1++[sb h3,sb h4,sb h5,sb h6,sd [(7,[si (e:=IntKind.i64.wrap (d - 1)) rfl]),(13,[si (e:=IntKind.i64.wrap (d - 1)) rfl]),(1,[sl [0] c7]),(2,[si (e:=IntKind.i64.wrap (3+(a7:Int))) rfl]),(8,[sl [0] c8]),(14,[sl [0] c9]),(15,[sc (zaz (IntKind.i64.wrap (3+(a7:Int))) e8 e9)])]]) kr⟩
    ·obtain ⟨e10,t10,q10,c10⟩:=(hf t2 p 1 zeg)
     obtain ⟨e11,t11,q11,c11⟩:=(hf t10 p 1 zeg)
     obtain ⟨e12,t12,q12,c12⟩:=(hf t11 p 1 zeg)
     exact ⟨X.mk 7 0 false (V.mk 0 0 Zs0) Zs0 Zs0 [e10,e11,e12] [],t12,zpD,(by (try simp only [zsl,xCol,xLit,xBin,xNeg]);exact wk At.Bg (p_1++[sb h3,sb h4,sb h5,sb h6,sd [(3,[si (e:=IntKind.i64.wrap (d - 1)) rfl]),(8,[si (e:=IntKind.i64.wrap (d - 1)) rfl]),(13,[si (e:=IntKind.i64.wrap (d - 1)) rfl]),(4,[sl [0] c10]),(9,[sl [0] c11]),(14,[sl [0] c12])]]) kr)⟩
   ·obtain ⟨b13,t13,c13⟩:=(zah t2 2 zeg)
    obtain ⟨e14,t14,q14,c14⟩:=(hf t13 p (IntKind.i64.wrap (1+(a1:Int))) zeg)
    exact ⟨X.mk 6 0 b13 (V.mk 0 0 Zs0) Zs0 Zs0 [e14] [],t14,zpD,(by (try simp only [zsl,xCol,xLit,xBin,xNeg]);exact wk At.Bg (p_1++[sb h3,sb h4,sb h5,sd [(6,[si (e:=IntKind.i64.wrap (d - 1)) rfl]),(1,[sl [0] c13]),(7,[sl [0] c14])]]) kr)⟩
  ·obtain ⟨a15,t15,q15,c15⟩:=(zae t2 2 zeg)
   obtain ⟨e16,t16,q16,c16⟩:=(hf t15 p 2 zeg)
   obtain ⟨e17,t17,q17,c17⟩:=(hf t16 p 2 zeg)
   exact ⟨xBin (IntKind.i64.wrap (1+(a15:Int))) e16 e17,t17,zpD,wk At.Bg (p_1++[sb h3,sb h4,sd [(6,[si (e:=IntKind.i64.wrap (d - 1)) rfl]),(11,[si (e:=IntKind.i64.wrap (d - 1)) rfl]),(1,[sl [0] c15]),(2,[si (e:=IntKind.i64.wrap (1+(a15:Int))) rfl]),(7,[sl [0] c16]),(12,[sl [0] c17]),(13,[sc (zaz (IntKind.i64.wrap (1+(a15:Int))) e16 e17)])]]) kr⟩
 ·obtain ⟨e18,t18,q18,c18⟩:=(hf t2 p 2 zeg)
  exact ⟨X.mk 3 0 false (V.mk 0 0 Zs0) Zs0 Zs0 [e18] [],t18,zpD,(by (try simp only [zsl,xCol,xLit,xBin,xNeg]);exact wk At.Bg (p_1++[sb h3,si (e:=IntKind.i64.wrap (d - 1)) rfl,sl [0] c18]) kr)⟩
def opAt (k:Nat):Int:=[9,10,11,9,12,13].getD k 0
theorem zgY (k:Nat) (h:(k:Int) < 6):ElAt [[iv 9],[iv 10],[iv 11],[iv 9],[iv 12],[iv 13]] (k:Int) [iv (opAt k)] 1:=by
 have h:k=0\/k=1\/k=2\/k=3\/k=4\/k=5:=by omega
 rcases h with rfl|rfl|rfl|rfl|rfl|rfl <;> exact ⟨by decide,rfl,rfl⟩
theorem zAl (t:Tp) (p:Pl) (kind:Int) (n m:Nat) (d:Int) (hp:p.OkN (n+1)) (hf1:∀ (t:Tp) (p:Pl) (w:Int),p.OkN n->∃ (e:X) (t':Tp),XOk m e/\zab E0 S.Ac [.p 0 0,p.av,iv w,iv (IntKind.i64.wrap (d - 1))] [.box t.cells] e.av [.box t'.cells]) (hf2:∀ (t:Tp) (p:Pl) (w:Int),p.OkN n->∃ (e:X) (t':Tp),XOk m e/\zab E0 S.Ac [.p 0 0,p.av,iv w,iv (IntKind.i64.wrap (d - 2))] [.box t.cells] e.av [.box t'.cells]):∃ (x:X) (t':Tp),XOk (m+1) x/\zab E0 S.Ca [.p 0 0,p.av,iv kind,iv d] [.box t.cells] x.av [.box t'.cells]:=by
 obtain ⟨a1,t1,q1,c1⟩:=(zae t ((↑(List.map Sch.cells p.tbs).length:Int)) zjD)
 obtain ⟨x2,e2⟩:=zbc (l:=p.tbs) (i:=a1) zjD
 let p_1:List St:=[sdm [(6,[sl [0] c1]),(7,[se (zaf Sch.cells e2 rfl)])] 0 [(0,AV.p 0 0),(1,AV.agg [fsl p.frs,ZS p.tbs]),(2,iv kind),(3,iv d),(5,AV.p 1 0),(8,AV.p 2 0),(9,AV.p 3 0),(12,AV.p 1 1),(13,ZS p.tbs),(14,AV.p 0 0),(15,AV.p 1 1),(16,ZS p.tbs),(17,iv (↑(List.map Sch.cells p.tbs).length:Int)),(18,iv (a1:Int)),(19,AV.dp [sv x2.name,ZC x2.cols]),(20,AV.agg [sv x2.name,ZC x2.cols])] [Blk.box [AV.sl (List.map (fun n=>[iv n]) t1.l),iv (t1.pos:Int)],Blk.box [fsl p.frs,ZS p.tbs],Blk.box [iv 0,iv 0,AV.bl false,iv 0,iv 0,sv Zs0,sv Zs0,sv Zs0,AV.nl,AV.nl],Blk.box [sv x2.name,ZC x2.cols]],sc (zbQ p x2 zjD)]
 cases h3:decide (10<=kind)
 ·obtain ⟨b4,t4,c4⟩:=(zah t1 3 zjD)
  cases h5:!b4
  ·exact ⟨X.mk kind (0:Int) false (V.mk (0:Int) (0:Int) Zs0) Zs0 Zs0 [] [Qy.mk (kind==(8:Int)) [] x2.name []],t4,zsj,(by (try simp only [zsl,xCol,xLit,xBin,xNeg]);exact wk At.Ca (p_1++[sb h3,sl [0] c4,sb h5]) kr)⟩
  ·obtain ⟨e6,t6,q6,c6⟩:=(hf1 t4 (plIn p x2) 2 zjD)
   exact ⟨X.mk kind (0:Int) false (V.mk (0:Int) (0:Int) Zs0) Zs0 Zs0 [] [Qy.mk (kind==(8:Int)) [] x2.name [e6]],t6,zsj,(by (try simp only [zsl,xCol,xLit,xBin,xNeg]);exact wk At.Ca (p_1++[sb h3,sl [0] c4,sb h5,si (e:=IntKind.i64.wrap (d - 1)) rfl,sl [0] c6]) kr)⟩
 ·obtain ⟨e7,t7,q7,c7⟩:=(hf2 t1 (plIn p x2) 1 zjD)
  obtain ⟨b8,t8,c8⟩:=(zah t7 3 zjD)
  let p_2:List St:=p_1++[sb h3,si (e:=IntKind.i64.wrap (d - 2)) rfl,sl [0] c7,sl [0] c8]
  cases h9:!b8
  ·exact ⟨X.mk kind (0:Int) false (V.mk (0:Int) (0:Int) Zs0) Zs0 Zs0 [] [Qy.mk (kind==(8:Int)) [e7] x2.name []],t8,zsj,(by (try simp only [zsl,xCol,xLit,xBin,xNeg]);exact wk At.Ca (p_2++[sb h9]) kr)⟩
  ·obtain ⟨e10,t10,q10,c10⟩:=(hf1 t8 (plIn p x2) 2 zjD)
   exact ⟨X.mk kind (0:Int) false (V.mk (0:Int) (0:Int) Zs0) Zs0 Zs0 [] [Qy.mk (kind==(8:Int)) [e7] x2.name [e10]],t10,zsj,(by (try simp only [zsl,xCol,xLit,xBin,xNeg]);exact wk At.Ca (p_2++[sb h9,si (e:=IntKind.i64.wrap (d - 1)) rfl,sl [0] c10]) kr)⟩
theorem zvc (t:Tp) (p:Pl) (w:Int) (d:Int) (hd:decide (d<=(0:Int))=true) (hd2:decide ((0:Int) < d)=false) (hf:Few p.frs) (hc:∀ f∈p.frs,Few f.cols):∃ (x:X) (t':Tp),XOk 2 x/\zab E0 S.Ac [.p 0 0,p.av,iv w,iv d] [.box t.cells] x.av [.box t'.cells]:=by
 obtain ⟨a1,t1,q1,c1⟩:=(zae t 6 zaO)
 cases h2:decide (4<=(a1:Int))
 ·obtain ⟨x3,ok3,t3,q3,c3⟩:=(zbX t1 p w zaO zaO)
  rcases (yD ok3).symm with h4|h4
  ·obtain ⟨b5,t5,c5⟩:=(zah t3 8 zaO)
   let p_1:List St:=[sl [0] c1,sb h2,sb hd,sl [0] c3,sb h4,sl [0] c5]
   rcases (yD b5).symm with h6|h6
   ·cases h7:w==1
    ·obtain ⟨v8,t8,q8,c8⟩:=(zaU t5 w)
     exact ⟨xLit v8,t8,zef,wk At.Ac (p_1++[sb h6,sb h7,sl [0] c8,sc (zaP v8)]) kr⟩
    ·obtain ⟨a9,t9,q9,c9⟩:=(zaQ t5)
     exact ⟨xNum a9,t9,zef,wk At.Ac (p_1++[sb h6,sb h7,sl [0] c9,sc (zaZ a9 zaO)]) kr⟩
   ·exact ⟨xLit (V.mk 0 0 Zs0),t5,zef,wk At.Ac (p_1++[sb h6,sc (zaP (V.mk 0 0 Zs0))]) kr⟩
  ·obtain ⟨b10,t10,c10⟩:=(zah t3 3 zaO)
   let p_2:List St:=[sl [0] c1,sb h2,sb hd,sl [0] c3,sg h4,sl [0] c10]
   cases h11:!b10
   ·obtain ⟨b12,t12,c12⟩:=(zah t10 8 zaO)
    rcases (yD b12).symm with h13|h13
    ·cases h14:w==1
     ·obtain ⟨v15,t15,q15,c15⟩:=(zaU t12 w)
      exact ⟨xLit v15,t15,zef,wk At.Ac (p_2++[sb h11,sl [0] c12,sb h13,sb h14,sl [0] c15,sc (zaP v15)]) kr⟩
     ·obtain ⟨a16,t16,q16,c16⟩:=(zaQ t12)
      exact ⟨xNum a16,t16,zef,wk At.Ac (p_2++[sb h11,sl [0] c12,sb h13,sb h14,sl [0] c16,sc (zaZ a16 zaO)]) kr⟩
    ·exact ⟨xLit (V.mk 0 0 Zs0),t12,zef,wk At.Ac (p_2++[sb h11,sl [0] c12,sb h13,sc (zaP (V.mk 0 0 Zs0))]) kr⟩
   ·exact ⟨x3,t10,zef,wk At.Ac (p_2++[sb h11]) kr⟩
 ·obtain ⟨x17,ok17,t17,q17,c17⟩:=(zbX t1 p w zaO zaO)
  let p_3:List St:=[sl [0] c1,sg h2,sb hd2,sb hd,sl [0] c17]
  rcases (yD ok17).symm with h18|h18
  ·obtain ⟨b19,t19,c19⟩:=(zah t17 8 zaO)
   rcases (yD b19).symm with h20|h20
   ·cases h21:w==1
    ·obtain ⟨v22,t22,q22,c22⟩:=(zaU t19 w)
     exact ⟨xLit v22,t22,zef,wk At.Ac (p_3++[sb h18,sl [0] c19,sb h20,sb h21,sl [0] c22,sc (zaP v22)]) kr⟩
    ·obtain ⟨a23,t23,q23,c23⟩:=(zaQ t19)
     exact ⟨xNum a23,t23,zef,wk At.Ac (p_3++[sb h18,sl [0] c19,sb h20,sb h21,sl [0] c23,sc (zaZ a23 zaO)]) kr⟩
   ·exact ⟨xLit (V.mk 0 0 Zs0),t19,zef,wk At.Ac (p_3++[sb h18,sl [0] c19,sb h20,sc (zaP (V.mk 0 0 Zs0))]) kr⟩
  ·obtain ⟨b24,t24,c24⟩:=(zah t17 3 zaO)
   cases h25:!b24
   ·obtain ⟨b26,t26,c26⟩:=(zah t24 8 zaO)
    let p_4:List St:=p_3++[sg h18,sl [0] c24,sb h25,sl [0] c26]
    rcases (yD b26).symm with h27|h27
    ·cases h28:w==1
     ·obtain ⟨v29,t29,q29,c29⟩:=(zaU t26 w)
      exact ⟨xLit v29,t29,zef,wk At.Ac (p_4++[sb h27,sb h28,sl [0] c29,sc (zaP v29)]) kr⟩
     ·obtain ⟨a30,t30,q30,c30⟩:=(zaQ t26)
      exact ⟨xNum a30,t30,zef,wk At.Ac (p_4++[sb h27,sb h28,sl [0] c30,sc (zaZ a30 zaO)]) kr⟩
    ·exact ⟨xLit (V.mk 0 0 Zs0),t26,zef,wk At.Ac (p_4++[sb h27,sc (zaP (V.mk 0 0 Zs0))]) kr⟩
   ·exact ⟨x17,t24,zef,wk At.Ac (p_3++[sg h18,sl [0] c24,sb h25]) kr⟩
theorem zAh (t:Tp) (p:Pl) (w:Int) (d:Int) (m:Nat) (hd:decide (d<=(0:Int))=false) (hd2:decide ((0:Int) < d)=true) (hf:Few p.frs) (hc:∀ f∈p.frs,Few f.cols) (hf1:∀ (t:Tp) (w:Int),∃ (e:X) (t':Tp),XOk (m+1) e/\zab E0 S.Ac [.p 0 0,p.av,iv w,iv (IntKind.i64.wrap (d - 1))] [.box t.cells] e.av [.box t'.cells]) (hq:∀ (t:Tp) (k:Int),∃ (e:X) (t':Tp),XOk (m+2) e/\zab E0 S.Ca [.p 0 0,p.av,iv k,iv d] [.box t.cells] e.av [.box t'.cells]) (hcd:∀ (t:Tp),∃ (e:X) (t':Tp),XOk (m+2) e/\zab E0 S.Bg [.p 0 0,p.av,iv d] [.box t.cells] e.av [.box t'.cells]):∃ (x:X) (t':Tp),XOk (m+2) x/\zab E0 S.Ac [.p 0 0,p.av,iv w,iv d] [.box t.cells] x.av [.box t'.cells]:=by
 obtain ⟨a1,t1,q1,c1⟩:=(zae t 6 zaO)
 cases h2:decide (4<=(a1:Int))
 ·cases h3:decide (3<=(a1:Int))
  ·cases h4:w==1
   ·cases h5:w==2
    ·obtain ⟨v6,t6,q6,c6⟩:=(zaU t1 w)
     exact ⟨xLit v6,t6,zbb,wk At.Ac [sl [0] c1,sb h2,sg hd,sb h3,sb h4,sb h5,sb h4,sb h5,sl [0] c6,sc (zaP v6)] kr⟩
    ·let p_1:List St:=[sl [0] c1,sb h2,sg hd,sb h3,sb h4,sg h5]
     cases h7:(a1:Int)==0
     ·obtain ⟨e8,t8,q8,c8⟩:=(hcd t1)
      exact ⟨e8,t8,zbb,wk At.Ac (p_1++[sb h7,sb h4,sb h5,sl [0] c8]) kr⟩
     ·cases h9:decide (0 < (↑(List.map Sch.cells p.tbs).length:Int))
      ·obtain ⟨e10,t10,q10,c10⟩:=(hcd t1)
       exact ⟨e10,t10,zbb,wk At.Ac (p_1++[sg h7,sb h9,sb h4,sb h5,sl [0] c10]) kr⟩
      ·obtain ⟨b11,t11,c11⟩:=(zah t1 2 zaO)
       rcases (yD b11).symm with h12|h12
       ·obtain ⟨e13,t13,q13,c13⟩:=(hcd t11)
        exact ⟨e13,t13,zbb,wk At.Ac (p_1++[sg h7,sg h9,sl [0] c11,sb h12,sb h4,sb h5,sl [0] c13]) kr⟩
       ·obtain ⟨e14,t14,q14,c14⟩:=(hq t11 8)
        exact ⟨e14,t14,zbb,wk At.Ac (p_1++[sg h7,sg h9,sl [0] c11,sb h12,sl [0] c14]) kr⟩
   ·cases h15:(a1:Int)==0
    ·let p_2:List St:=[sl [0] c1,sb h2,sg hd,sb h3,sg h4,sb h15]
     cases h16:w==2
     ·obtain ⟨b17,t17,c17⟩:=(zah t1 6 zaO)
      rcases (yD b17).symm with h18|h18
      ·obtain ⟨a19,t19,q19,c19⟩:=(zae t17 6 zaO)
       obtain ⟨e20,t20,q20,c20⟩:=(hf1 t19 w)
       obtain ⟨e21,t21,q21,c21⟩:=(hf1 t20 w)
       exact ⟨xBin (opAt a19) e20 e21,t21,zbb,wk At.Ac (p_2++[sb h16,sb h4,sl [0] c17,sb h18,sd [(9,[si (e:=IntKind.i64.wrap (d - 1)) rfl]),(15,[si (e:=IntKind.i64.wrap (d - 1)) rfl]),(2,[sl [0] c19]),(3,[se (zgY a19 zaO)]),(10,[sl [0] c20]),(16,[sl [0] c21]),(17,[sc (zaz (opAt a19) e20 e21)])]]) kr⟩
      ·obtain ⟨e22,t22,q22,c22⟩:=(hf1 t17 w)
       exact ⟨X.mk 4 0 false (V.mk 0 0 Zs0) Zs0 Zs0 [e22] [],t22,zbb,(by (try simp only [zsl,xCol,xLit,xBin,xNeg]);exact wk At.Ac (p_2++[sb h16,sb h4,sl [0] c17,sb h18,si (e:=IntKind.i64.wrap (d - 1)) rfl,sl [0] c22]) kr)⟩
     ·obtain ⟨b23,t23,c23⟩:=(zah t1 6 zaO)
      rcases (yD b23).symm with h24|h24
      ·obtain ⟨a25,t25,q25,c25⟩:=(zae t23 6 zaO)
       obtain ⟨e26,t26,q26,c26⟩:=(hf1 t25 w)
       obtain ⟨e27,t27,q27,c27⟩:=(hf1 t26 w)
       exact ⟨xBin (opAt a25) e26 e27,t27,zbb,wk At.Ac (p_2++[sg h16,sb h15,sb h4,sl [0] c23,sb h24,sd [(9,[si (e:=IntKind.i64.wrap (d - 1)) rfl]),(15,[si (e:=IntKind.i64.wrap (d - 1)) rfl]),(2,[sl [0] c25]),(3,[se (zgY a25 zaO)]),(10,[sl [0] c26]),(16,[sl [0] c27]),(17,[sc (zaz (opAt a25) e26 e27)])]]) kr⟩
      ·obtain ⟨e28,t28,q28,c28⟩:=(hf1 t23 w)
       exact ⟨X.mk 4 0 false (V.mk 0 0 Zs0) Zs0 Zs0 [e28] [],t28,zbb,(by (try simp only [zsl,xCol,xLit,xBin,xNeg]);exact wk At.Ac (p_2++[sg h16,sb h15,sb h4,sl [0] c23,sb h24,si (e:=IntKind.i64.wrap (d - 1)) rfl,sl [0] c28]) kr)⟩
    ·let p_3:List St:=[sl [0] c1,sb h2,sg hd,sb h3,sg h4,sg h15]
     cases h29:decide (0 < (↑(List.map Sch.cells p.tbs).length:Int))
     ·cases h30:w==2
      ·obtain ⟨b31,t31,c31⟩:=(zah t1 6 zaO)
       rcases (yD b31).symm with h32|h32
       ·obtain ⟨a33,t33,q33,c33⟩:=(zae t31 6 zaO)
        obtain ⟨e34,t34,q34,c34⟩:=(hf1 t33 w)
        obtain ⟨e35,t35,q35,c35⟩:=(hf1 t34 w)
        exact ⟨xBin (opAt a33) e34 e35,t35,zbb,wk At.Ac (p_3++[sb h29,sb h30,sb h4,sl [0] c31,sb h32,sd [(9,[si (e:=IntKind.i64.wrap (d - 1)) rfl]),(15,[si (e:=IntKind.i64.wrap (d - 1)) rfl]),(2,[sl [0] c33]),(3,[se (zgY a33 zaO)]),(10,[sl [0] c34]),(16,[sl [0] c35]),(17,[sc (zaz (opAt a33) e34 e35)])]]) kr⟩
       ·obtain ⟨e36,t36,q36,c36⟩:=(hf1 t31 w)
        exact ⟨X.mk 4 0 false (V.mk 0 0 Zs0) Zs0 Zs0 [e36] [],t36,zbb,(by (try simp only [zsl,xCol,xLit,xBin,xNeg]);exact wk At.Ac (p_3++[sb h29,sb h30,sb h4,sl [0] c31,sb h32,si (e:=IntKind.i64.wrap (d - 1)) rfl,sl [0] c36]) kr)⟩
      ·obtain ⟨b37,t37,c37⟩:=(zah t1 6 zaO)
       let p_4:List St:=p_3++[sb h29,sg h30,sg h15,sb h29,sb h4,sl [0] c37]
       rcases (yD b37).symm with h38|h38
       ·obtain ⟨a39,t39,q39,c39⟩:=(zae t37 6 zaO)
        obtain ⟨e40,t40,q40,c40⟩:=(hf1 t39 w)
        obtain ⟨e41,t41,q41,c41⟩:=(hf1 t40 w)
        exact ⟨xBin (opAt a39) e40 e41,t41,zbb,wk At.Ac (p_4++[sb h38,sd [(9,[si (e:=IntKind.i64.wrap (d - 1)) rfl]),(15,[si (e:=IntKind.i64.wrap (d - 1)) rfl]),(2,[sl [0] c39]),(3,[se (zgY a39 zaO)]),(10,[sl [0] c40]),(16,[sl [0] c41]),(17,[sc (zaz (opAt a39) e40 e41)])]]) kr⟩
       ·obtain ⟨e42,t42,q42,c42⟩:=(hf1 t37 w)
        exact ⟨X.mk 4 0 false (V.mk 0 0 Zs0) Zs0 Zs0 [e42] [],t42,zbb,(by (try simp only [zsl,xCol,xLit,xBin,xNeg]);exact wk At.Ac (p_4++[sb h38,si (e:=IntKind.i64.wrap (d - 1)) rfl,sl [0] c42]) kr)⟩
     ·obtain ⟨a43,t43,q43,c43⟩:=(zae t1 4 zaO)
      obtain ⟨e44,t44,q44,c44⟩:=(hq t43 (IntKind.i64.wrap (9+(a43:Int))))
      exact ⟨e44,t44,zbb,wk At.Ac (p_3++[sb h29,sd [(3,[sl [0] c43]),(4,[si (e:=IntKind.i64.wrap (9+(a43:Int))) rfl]),(6,[sl [0] c44])]]) kr⟩
  ·obtain ⟨x45,ok45,t45,q45,c45⟩:=(zbX t1 p w zaO zaO)
   let p_5:List St:=[sl [0] c1,sb h2,sg hd,sb h3,sl [0] c45]
   rcases (yD ok45).symm with h46|h46
   ·obtain ⟨b47,t47,c47⟩:=(zah t45 8 zaO)
    rcases (yD b47).symm with h48|h48
    ·cases h49:w==1
     ·obtain ⟨v50,t50,q50,c50⟩:=(zaU t47 w)
      exact ⟨xLit v50,t50,zbb,wk At.Ac (p_5++[sb h46,sl [0] c47,sb h48,sb h49,sl [0] c50,sc (zaP v50)]) kr⟩
     ·obtain ⟨a51,t51,q51,c51⟩:=(zaQ t47)
      exact ⟨xNum a51,t51,zbb,wk At.Ac (p_5++[sb h46,sl [0] c47,sb h48,sb h49,sl [0] c51,sc (zaZ a51 zaO)]) kr⟩
    ·exact ⟨xLit (V.mk 0 0 Zs0),t47,zbb,wk At.Ac (p_5++[sb h46,sl [0] c47,sb h48,sc (zaP (V.mk 0 0 Zs0))]) kr⟩
   ·obtain ⟨b52,t52,c52⟩:=(zah t45 3 zaO)
    cases h53:!b52
    ·obtain ⟨b54,t54,c54⟩:=(zah t52 8 zaO)
     let p_6:List St:=p_5++[sg h46,sl [0] c52,sb h53,sl [0] c54]
     rcases (yD b54).symm with h55|h55
     ·cases h56:w==1
      ·obtain ⟨v57,t57,q57,c57⟩:=(zaU t54 w)
       exact ⟨xLit v57,t57,zbb,wk At.Ac (p_6++[sb h55,sb h56,sl [0] c57,sc (zaP v57)]) kr⟩
      ·obtain ⟨a58,t58,q58,c58⟩:=(zaQ t54)
       exact ⟨xNum a58,t58,zbb,wk At.Ac (p_6++[sb h55,sb h56,sl [0] c58,sc (zaZ a58 zaO)]) kr⟩
     ·exact ⟨xLit (V.mk 0 0 Zs0),t54,zbb,wk At.Ac (p_6++[sb h55,sc (zaP (V.mk 0 0 Zs0))]) kr⟩
    ·exact ⟨x45,t52,zbb,wk At.Ac (p_5++[sg h46,sl [0] c52,sb h53]) kr⟩
 ·obtain ⟨a59,t59,q59,c59⟩:=(zae t1 4 zaO)
  let p_7:List St:=[sl [0] c1,sg h2,sb hd2,sl [0] c59,sg hd]
  cases h60:decide (3<=(a59:Int))
  ·cases h61:w==1
   ·cases h62:w==2
    ·obtain ⟨v63,t63,q63,c63⟩:=(zaU t59 w)
     exact ⟨xLit v63,t63,zbb,wk At.Ac (p_7++[sb h60,sb h61,sb h62,sb h61,sb h62,sl [0] c63,sc (zaP v63)]) kr⟩
    ·cases h64:(a59:Int)==0
     ·obtain ⟨e65,t65,q65,c65⟩:=(hcd t59)
      exact ⟨e65,t65,zbb,wk At.Ac (p_7++[sb h60,sb h61,sg h62,sb h64,sb h61,sb h62,sl [0] c65]) kr⟩
     ·cases h66:decide (0 < (↑(List.map Sch.cells p.tbs).length:Int))
      ·obtain ⟨e67,t67,q67,c67⟩:=(hcd t59)
       exact ⟨e67,t67,zbb,wk At.Ac (p_7++[sb h60,sb h61,sg h62,sg h64,sb h66,sb h61,sb h62,sl [0] c67]) kr⟩
      ·obtain ⟨b68,t68,c68⟩:=(zah t59 2 zaO)
       let p_8:List St:=p_7++[sb h60,sb h61,sg h62,sg h64,sg h66,sl [0] c68]
       rcases (yD b68).symm with h69|h69
       ·obtain ⟨e70,t70,q70,c70⟩:=(hcd t68)
        exact ⟨e70,t70,zbb,wk At.Ac (p_8++[sb h69,sb h61,sb h62,sl [0] c70]) kr⟩
       ·obtain ⟨e71,t71,q71,c71⟩:=(hq t68 8)
        exact ⟨e71,t71,zbb,wk At.Ac (p_8++[sb h69,sl [0] c71]) kr⟩
   ·cases h72:(a59:Int)==0
    ·cases h73:w==2
     ·obtain ⟨b74,t74,c74⟩:=(zah t59 6 zaO)
      let p_9:List St:=p_7++[sb h60,sg h61,sb h72,sb h73,sb h61,sl [0] c74]
      rcases (yD b74).symm with h75|h75
      ·obtain ⟨a76,t76,q76,c76⟩:=(zae t74 6 zaO)
       obtain ⟨e77,t77,q77,c77⟩:=(hf1 t76 w)
       obtain ⟨e78,t78,q78,c78⟩:=(hf1 t77 w)
       exact ⟨xBin (opAt a76) e77 e78,t78,zbb,wk At.Ac (p_9++[sb h75,sd [(9,[si (e:=IntKind.i64.wrap (d - 1)) rfl]),(15,[si (e:=IntKind.i64.wrap (d - 1)) rfl]),(2,[sl [0] c76]),(3,[se (zgY a76 zaO)]),(10,[sl [0] c77]),(16,[sl [0] c78]),(17,[sc (zaz (opAt a76) e77 e78)])]]) kr⟩
      ·obtain ⟨e79,t79,q79,c79⟩:=(hf1 t74 w)
       exact ⟨X.mk 4 0 false (V.mk 0 0 Zs0) Zs0 Zs0 [e79] [],t79,zbb,(by (try simp only [zsl,xCol,xLit,xBin,xNeg]);exact wk At.Ac (p_9++[sb h75,si (e:=IntKind.i64.wrap (d - 1)) rfl,sl [0] c79]) kr)⟩
     ·obtain ⟨b80,t80,c80⟩:=(zah t59 6 zaO)
      let p_10:List St:=p_7++[sb h60,sg h61,sb h72,sg h73,sb h72,sb h61,sl [0] c80]
      rcases (yD b80).symm with h81|h81
      ·obtain ⟨a82,t82,q82,c82⟩:=(zae t80 6 zaO)
       obtain ⟨e83,t83,q83,c83⟩:=(hf1 t82 w)
       obtain ⟨e84,t84,q84,c84⟩:=(hf1 t83 w)
       exact ⟨xBin (opAt a82) e83 e84,t84,zbb,wk At.Ac (p_10++[sb h81,sd [(9,[si (e:=IntKind.i64.wrap (d - 1)) rfl]),(15,[si (e:=IntKind.i64.wrap (d - 1)) rfl]),(2,[sl [0] c82]),(3,[se (zgY a82 zaO)]),(10,[sl [0] c83]),(16,[sl [0] c84]),(17,[sc (zaz (opAt a82) e83 e84)])]]) kr⟩
      ·obtain ⟨e85,t85,q85,c85⟩:=(hf1 t80 w)
       exact ⟨X.mk 4 0 false (V.mk 0 0 Zs0) Zs0 Zs0 [e85] [],t85,zbb,(by (try simp only [zsl,xCol,xLit,xBin,xNeg]);exact wk At.Ac (p_10++[sb h81,si (e:=IntKind.i64.wrap (d - 1)) rfl,sl [0] c85]) kr)⟩
    ·cases h86:decide (0 < (↑(List.map Sch.cells p.tbs).length:Int))
     ·cases h87:w==2
      ·obtain ⟨b88,t88,c88⟩:=(zah t59 6 zaO)
       let p_11:List St:=p_7++[sb h60,sg h61,sg h72,sb h86,sb h87,sb h61,sl [0] c88]
       rcases (yD b88).symm with h89|h89
       ·obtain ⟨a90,t90,q90,c90⟩:=(zae t88 6 zaO)
        obtain ⟨e91,t91,q91,c91⟩:=(hf1 t90 w)
        obtain ⟨e92,t92,q92,c92⟩:=(hf1 t91 w)
        exact ⟨xBin (opAt a90) e91 e92,t92,zbb,wk At.Ac (p_11++[sb h89,sd [(9,[si (e:=IntKind.i64.wrap (d - 1)) rfl]),(15,[si (e:=IntKind.i64.wrap (d - 1)) rfl]),(2,[sl [0] c90]),(3,[se (zgY a90 zaO)]),(10,[sl [0] c91]),(16,[sl [0] c92]),(17,[sc (zaz (opAt a90) e91 e92)])]]) kr⟩
       ·obtain ⟨e93,t93,q93,c93⟩:=(hf1 t88 w)
        exact ⟨X.mk 4 0 false (V.mk 0 0 Zs0) Zs0 Zs0 [e93] [],t93,zbb,(by (try simp only [zsl,xCol,xLit,xBin,xNeg]);exact wk At.Ac (p_11++[sb h89,si (e:=IntKind.i64.wrap (d - 1)) rfl,sl [0] c93]) kr)⟩
      ·obtain ⟨b94,t94,c94⟩:=(zah t59 6 zaO)
       let p_12:List St:=p_7++[sb h60,sg h61,sg h72,sb h86,sg h87,sg h72,sb h86,sb h61,sl [0] c94]
       rcases (yD b94).symm with h95|h95
       ·obtain ⟨a96,t96,q96,c96⟩:=(zae t94 6 zaO)
        obtain ⟨e97,t97,q97,c97⟩:=(hf1 t96 w)
        obtain ⟨e98,t98,q98,c98⟩:=(hf1 t97 w)
        exact ⟨xBin (opAt a96) e97 e98,t98,zbb,wk At.Ac (p_12++[sb h95,sd [(9,[si (e:=IntKind.i64.wrap (d - 1)) rfl]),(15,[si (e:=IntKind.i64.wrap (d - 1)) rfl]),(2,[sl [0] c96]),(3,[se (zgY a96 zaO)]),(10,[sl [0] c97]),(16,[sl [0] c98]),(17,[sc (zaz (opAt a96) e97 e98)])]]) kr⟩
       ·obtain ⟨e99,t99,q99,c99⟩:=(hf1 t94 w)
        exact ⟨X.mk 4 0 false (V.mk 0 0 Zs0) Zs0 Zs0 [e99] [],t99,zbb,(by (try simp only [zsl,xCol,xLit,xBin,xNeg]);exact wk At.Ac (p_12++[sb h95,si (e:=IntKind.i64.wrap (d - 1)) rfl,sl [0] c99]) kr)⟩
     ·obtain ⟨a100,t100,q100,c100⟩:=(zae t59 4 zaO)
      obtain ⟨e101,t101,q101,c101⟩:=(hq t100 (IntKind.i64.wrap (9+(a100:Int))))
      exact ⟨e101,t101,zbb,wk At.Ac (p_7++[sb h60,sg h61,sg h72,sb h86,sd [(3,[sl [0] c100]),(4,[si (e:=IntKind.i64.wrap (9+(a100:Int))) rfl]),(6,[sl [0] c101])]]) kr⟩
  ·obtain ⟨x102,ok102,t102,q102,c102⟩:=(zbX t59 p w zaO zaO)
   rcases (yD ok102).symm with h103|h103
   ·obtain ⟨b104,t104,c104⟩:=(zah t102 8 zaO)
    let p_13:List St:=p_7++[sb h60,sl [0] c102,sb h103,sl [0] c104]
    rcases (yD b104).symm with h105|h105
    ·cases h106:w==1
     ·obtain ⟨v107,t107,q107,c107⟩:=(zaU t104 w)
      exact ⟨xLit v107,t107,zbb,wk At.Ac (p_13++[sb h105,sb h106,sl [0] c107,sc (zaP v107)]) kr⟩
     ·obtain ⟨a108,t108,q108,c108⟩:=(zaQ t104)
      exact ⟨xNum a108,t108,zbb,wk At.Ac (p_13++[sb h105,sb h106,sl [0] c108,sc (zaZ a108 zaO)]) kr⟩
    ·exact ⟨xLit (V.mk 0 0 Zs0),t104,zbb,wk At.Ac (p_13++[sb h105,sc (zaP (V.mk 0 0 Zs0))]) kr⟩
   ·obtain ⟨b109,t109,c109⟩:=(zah t102 3 zaO)
    let p_14:List St:=p_7++[sb h60,sl [0] c102,sg h103,sl [0] c109]
    cases h110:!b109
    ·obtain ⟨b111,t111,c111⟩:=(zah t109 8 zaO)
     rcases (yD b111).symm with h112|h112
     ·cases h113:w==1
      ·obtain ⟨v114,t114,q114,c114⟩:=(zaU t111 w)
       exact ⟨xLit v114,t114,zbb,wk At.Ac (p_14++[sb h110,sl [0] c111,sb h112,sb h113,sl [0] c114,sc (zaP v114)]) kr⟩
      ·obtain ⟨a115,t115,q115,c115⟩:=(zaQ t111)
       exact ⟨xNum a115,t115,zbb,wk At.Ac (p_14++[sb h110,sl [0] c111,sb h112,sb h113,sl [0] c115,sc (zaZ a115 zaO)]) kr⟩
     ·exact ⟨xLit (V.mk 0 0 Zs0),t111,zbb,wk At.Ac (p_14++[sb h110,sl [0] c111,sb h112,sc (zaP (V.mk 0 0 Zs0))]) kr⟩
    ·exact ⟨x102,t109,zbb,wk At.Ac (p_14++[sb h110]) kr⟩
abbrev dpt (n:Nat):Int:=(n:Int) - 1
theorem dpt1 (n:Nat) (hn:n<=500):IntKind.i64.wrap (dpt (n+2) - 1)=dpt (n+1):=by rw [IntKind.wrap_i64];simp only [dpt];omega
theorem dpt2 (n:Nat) (hn:n<=500):IntKind.i64.wrap (dpt (n+2) - 2)=dpt n:=by rw [IntKind.wrap_i64];simp only [dpt];omega
theorem zoQ:∀ (n:Nat),n<=500->RecE n (n+2) (dpt n)
 | 0,_,t,p,w,hp=>zvc t p w _ Zd Zd hp.few1 hp.cols
 | 1,_,t,p,w,hp=>by
  obtain ⟨e,t',h,hc⟩:=zvc t p w (dpt 1) Zd Zd hp.few1 hp.cols
  exact ⟨e,t',h.mono,hc⟩
 | n+2,hn,t,p,w,hp=>by
  have h1:=zoQ (n+1) Zo
  have h2:=zoQ n Zo
  have e1:=dpt1 n Zo
  have e2:=dpt2 n Zo
  have hf1:RecE (n+1) (n+3) (IntKind.i64.wrap (dpt (n+2) - 1)):=by rw [e1];exact h1
  have hf2:RecE (n+1) (n+3) (IntKind.i64.wrap (dpt (n+2) - 2)):=by
   rw [e2]
   intro t p w hp
   obtain ⟨e,t',h,hc⟩:=h2 t p w hp.less
   exact ⟨e,t',h.mono,hc⟩
  exact zAh t p w (dpt (n+2)) (n+2) (by simp only [dpt];simp;omega) (by simp only [dpt];simp;omega) hp.few1 hp.cols (fun t w=>hf1 t p w hp.less)
   (fun t k=>zAl t p k (n+1) (n+3) (dpt (n+2)) hp hf1 hf2) (fun t=>zun t p (n+1) (n+3) (dpt (n+2)) hp.less hf1)
theorem zaA (t:Tp) (p:Pl) (w:Int) (hp:p.OkN 2):∃ (e:X) (t':Tp),XOk 4 e/\zab E0 S.Ac [.p 0 0,p.av,iv w,iv 1] [.box t.cells] e.av [.box t'.cells]:=zoQ 2 Zo t p w hp
theorem zbI (t:Tp) (p:Pl) (w:Int) (hp:p.OkN 3):∃ (e:X) (t':Tp),XOk 5 e/\zab E0 S.Ac [.p 0 0,p.av,iv w,iv 2] [.box t.cells] e.av [.box t'.cells]:=zoQ 3 Zo t p w hp
theorem znK {p:Prop} (h:p:=by first|assumption|(simp;done)|(simp;omega)|omega|(simp at *;omega)):p:=h
theorem zsk {p:Prop} (h:p:=by first|assumption|omega|(simp;done)|(simp;omega)):p:=h
theorem zsm {p:Prop} (h:p:=by first|omega|(simp only [zac,Few] at *;omega)):p:=h
theorem zw5 {p:Prop} (h:p:=by have ih:=zfA l 1 1 hl l.length 0 Zs;exact ih):p:=h
def za0:Fr:=⟨⟨#[]⟩,false,[],[]⟩
theorem zqq {α:Type} {l:List α} {k:Nat} (d:α) (h:k < l.length):l[k]?=some (l.getD k d):=by
 rw [yAF,yE h];rfl
noncomputable def L_sres (frs:List Fr) (q n:Str) (k:Nat) :Cfg:=zai B.CA 0 [(0,fsl frs),(1,sv q),(2,sv n),(9,iv (pm1 k))] []
def sres (frs:List Fr) (q n:Str):Nat->Int × Int × Bool
 | 0 =>
  (0,0,false)
 | k+1 =>
  bif ByteArray.toList q==Zs0.toList then
   bif (frs.getD k za0).strict then
    sres frs q n (k)
   else
    bif decide (0<=idxF (fun c=>colC c n) (Sch.mk Zs0 (frs.getD k za0).cols).cols 0) then
     (pm1 (k+1),idxF (fun c=>colC c n) (Sch.mk Zs0 (frs.getD k za0).cols).cols 0,true)
    else
     sres frs q n (k)
  else
   bif !ByteArray.toList (frs.getD k za0).name==ByteArray.toList q then
    sres frs q n (k)
   else
    bif decide (0<=idxF (fun c=>colC c n) (Sch.mk Zs0 (frs.getD k za0).cols).cols 0) then
     (pm1 (k+1),idxF (fun c=>colC c n) (Sch.mk Zs0 (frs.getD k za0).cols).cols 0,true)
    else
     sres frs q n (k)
theorem zuT (frs:List Fr) (q n:Str) (hl:zac frs) (hc:∀ f∈frs,zac f.cols):∀ (k:Nat),k<=1000000000->k<=frs.length->Good E0 B.CA [] (L_sres frs q n k ) (Shut 0 fun r h=>r=(.tup [iv (sres frs q n k ).1,iv (sres frs q n k ).2.1,bv (sres frs q n k ).2.2])/\h=[]):=by
 intro k
 induction k with
 | zero =>
  intro  hk hk2
  simp only [sres]
  refine zaa ?_
  exact wkr [sb Zf] kr
 | succ k ih =>
  intro  hk hk2
  have h0:decide ((0:Int)<=((k:Nat):Int))=true:=by simp
  have hw:=zoy k Zo
  have hx:=zqq (l:=frs) (k:=k) za0 Zo;have hcx:=hc _ (yC hx)
  simp only [sres]
  refine zaa ?_
  cases h1:ByteArray.toList q==Zs0.toList
  ·cases h2:!ByteArray.toList (frs.getD k za0).name==ByteArray.toList q
   ·cases h3:decide (0<=idxF (fun c=>colC c n) (Sch.mk Zs0 (frs.getD k za0).cols).cols 0)
    ·exact wkl [sb Zt,se (zaf Fr.cells hx rfl),sb h1,sg (congrArg Bool.not h1),sb h2,sc (zdQ (Sch.mk Zs0 (frs.getD k za0).cols) n zsk),sb h3,si hw] [0,1,2,9] 0 kr (ih  Zo znK)
    ·exact wkr [sb Zt,se (zaf Fr.cells hx rfl),sb h1,sg (congrArg Bool.not h1),sb h2,sc (zdQ (Sch.mk Zs0 (frs.getD k za0).cols) n zsk),sb h3] kr
   ·exact wkl [sb Zt,se (zaf Fr.cells hx rfl),sb h1,sg (congrArg Bool.not h1),sb h2,si hw] [0,1,2,9] 0 kr (ih  Zo znK)
  ·cases h4:(frs.getD k za0).strict
   ·cases h5:decide (0<=idxF (fun c=>colC c n) (Sch.mk Zs0 (frs.getD k za0).cols).cols 0)
    ·exact wkl [sb Zt,se (zaf Fr.cells hx rfl),sg h1,sg h4,sb (congrArg Bool.not h1),sc (zdQ (Sch.mk Zs0 (frs.getD k za0).cols) n zsk),sb h5,si hw] [0,1,2,9] 0 kr (ih  Zo znK)
    ·exact wkr [sb Zt,se (zaf Fr.cells hx rfl),sg h1,sg h4,sb (congrArg Bool.not h1),sc (zdQ (Sch.mk Zs0 (frs.getD k za0).cols) n zsk),sb h5] kr
   ·exact wkl [sb Zt,se (zaf Fr.cells hx rfl),sg h1,sb h4,si hw] [0,1,2,9] 0 kr (ih  Zo znK)
theorem zz2 {α:Type} (f:α->List AV) (l:List α) (h:zac l):IntKind.i64.wrap ((((l.map f).length:Nat):Int) - 1)=pm1 l.length:=by
 rw [yG];exact zoy _ (by simp only [zac] at h;omega)
def zeo (frs:List Fr) (q n:Str):Int × Int × Bool :=
 sres frs q n (frs.length)
theorem zph (frs:List Fr) (q n:Str) (hl:zac frs) (hc:∀ f∈frs,zac f.cols) (hw0:IntKind.i64.wrap ((((frs.map Fr.cells).length:Nat):Int) - 1)=pm1 frs.length):zab E0 S.CA [fsl frs,sv q,sv n] [] (.tup [iv (zeo frs q n).1,iv (zeo frs q n).2.1,bv (zeo frs q n).2.2]) []:=by
 unfold zeo
 exact wkc At.CA [si hw0] [0,1,2,9] 0 kr (by have ih:=zuT frs q n hl hc frs.length (by simp only [zac] at hl;omega) (yJ _);exact ih)
noncomputable def zu9 (frs:List Fr) (q n:Str) (k:Nat):Cfg:=zai B.B6 0 [(0,fsl frs),(1,sv q),(2,sv n),(9,iv (pm1 k))] []
noncomputable def zz7 (frs:List Fr) (q n:Str) (k:Nat) (f:Fr) (els:Int × Int × Bool) (j:Nat) :Cfg:=zai B.B6 1 [(0,fsl frs),(1,sv q),(2,sv n),(9,iv (pm1 (k+1))),(41,.sl (f.cols.map Col.cells)),(42,iv ((f.cols.map Col.cells).length:Nat)),(43,iv (j:Nat))] []
def zda (frs:List Fr) (q n:Str) (k:Nat) (f:Fr) (els:Int × Int × Bool):List (Col)->Nat->Int × Int × Bool
 | [],j =>
  els
 | x::r,j =>
  bif ByteArray.toList x.name==ByteArray.toList n then
   (pm1 (k+1),(j:Int),true)
  else
   zda frs q n k f els r (j+1)
theorem zmQ (frs:List Fr) (q n:Str) (k:Nat) (f:Fr) (els:Int × Int × Bool) (hl:zac f.cols) (hwk:IntKind.i64.wrap (((k:Nat):Int) - 1)=pm1 k) (hels:Good E0 B.B6 [] (zu9 frs q n k) (Shut 0 fun r h=>r=.tup [iv els.1,iv els.2.1,bv els.2.2]/\h=[])):∀ (kk j:Nat),j+kk=(f.cols).length->Good E0 B.B6 [] (zz7 frs q n k f els j ) (Shut 0 fun r h=>r=(.tup [iv (zda frs q n k f els ((f.cols).drop j) j ).1,iv (zda frs q n k f els ((f.cols).drop j) j ).2.1,bv (zda frs q n k f els ((f.cols).drop j) j ).2.2])/\h=[]):=by
 intro kk
 induction kk with
 | zero =>
  intro j  hi
  have h0:decide (((j:Nat):Int) < (((f.cols.map Col.cells).length:Nat):Int))=false:=by simp;omega
  have e0:(f.cols).drop j=[]:=yAJ Zo
  rw [e0]
  simp only [zda]
  refine zaa ?_
  exact wkl [sb h0,si hwk] [0,1,2,9] 0 kr (hels)
 | succ kk ih =>
  intro j  hi
  obtain ⟨x,hx⟩:=zbc (l:=f.cols) (i:=j) Zo
  have h0:decide (((j:Nat):Int) < (((f.cols.map Col.cells).length:Nat):Int))=true:=by simp;omega
  have hw:=zba j zsm
  rw [zaB hx]
  simp only [zda]
  refine zaa ?_
  cases h1:ByteArray.toList x.name==ByteArray.toList n
  ·exact wkl [sb h0,se (zaf Col.cells hx rfl),sb h1,si hw] [0,1,2,9,41,42,43] 0 kr (ih (j+1) Zo )
  ·exact wkr [sb h0,se (zaf Col.cells hx rfl),sb h1] kr
def rres (frs:List Fr) (q n:Str):Nat->Int × Int × Bool
 | 0 =>
  (0,0,false)
 | k+1 =>
  bif ByteArray.toList q==Zs0.toList then
   bif (frs.getD k za0).strict then
    rres frs q n (k)
   else
    zda frs q n k (frs.getD k za0) (rres frs q n k) (frs.getD k za0).cols 0
  else
   bif !ByteArray.toList (frs.getD k za0).name==ByteArray.toList q then
    rres frs q n (k)
   else
    zda frs q n k (frs.getD k za0) (rres frs q n k) (frs.getD k za0).cols 0
theorem zuQ (frs:List Fr) (q n:Str) (hl:zac frs) (hc:∀ f∈frs,zac f.cols):∀ (k:Nat),k<=1000000000->k<=frs.length->Good E0 B.B6 [] (zu9 frs q n k ) (Shut 0 fun r h=>r=(.tup [iv (rres frs q n k ).1,iv (rres frs q n k ).2.1,bv (rres frs q n k ).2.2])/\h=[]):=by
 intro k
 induction k with
 | zero =>
  intro  hk hk2
  simp only [rres]
  refine zaa ?_
  exact wkr [sb Zf] kr
 | succ k ih =>
  intro  hk hk2
  have h0:decide ((0:Int)<=((k:Nat):Int))=true:=by simp
  have hw:=zoy k Zo
  have hx:=zqq (l:=frs) (k:=k) za0 Zo;have hcx:=hc _ (yC hx)
  simp only [rres]
  refine zaa ?_
  cases h1:ByteArray.toList q==Zs0.toList
  ·cases h2:!ByteArray.toList (frs.getD k za0).name==ByteArray.toList q
   ·exact wkl [sb Zt,se (zaf Fr.cells hx rfl),sb h1,sg (congrArg Bool.not h1),sb h2] [0,1,2,9,41,42,43] 0 kr (by have ih2:=zmQ frs q n k (frs.getD k za0) (rres frs q n k) hcx hw (ih Zo Zo) (frs.getD k za0).cols.length 0 Zs;exact ih2)
   ·exact wkl [sb Zt,se (zaf Fr.cells hx rfl),sb h1,sg (congrArg Bool.not h1),sb h2,si hw] [0,1,2,9] 0 kr (ih  Zo znK)
  ·cases h3:(frs.getD k za0).strict
   ·exact wkl [sb Zt,se (zaf Fr.cells hx rfl),sg h1,sg h3,sb (congrArg Bool.not h1)] [0,1,2,9,41,42,43] 0 kr (by have ih2:=zmQ frs q n k (frs.getD k za0) (rres frs q n k) hcx hw (ih Zo Zo) (frs.getD k za0).cols.length 0 Zs;exact ih2)
   ·exact wkl [sb Zt,se (zaf Fr.cells hx rfl),sg h1,sb h3,si hw] [0,1,2,9] 0 kr (ih  Zo znK)
def zbm (frs:List Fr) (q n:Str):Int × Int × Bool :=
 rres frs q n (frs.length)
theorem zeb (frs:List Fr) (q n:Str) (hl:zac frs) (hc:∀ f∈frs,zac f.cols) (hw0:IntKind.i64.wrap ((((frs.map Fr.cells).length:Nat):Int) - 1)=pm1 frs.length):zab E0 S.B6 [fsl frs,sv q,sv n] [] (.tup [iv (zbm frs q n).1,iv (zbm frs q n).2.1,bv (zbm frs q n).2.2]) []:=by
 unfold zbm
 exact wkc At.B6 [si hw0] [0,1,2,9] 0 kr (by have ih:=zuQ frs q n hl hc frs.length (by simp only [zac] at hl;omega) (yJ _);exact ih)
noncomputable def zz8 (tb:List Tb) (n:Str) (i:Nat) :Cfg:=zai B.CW 0 [(1,sv n),(4,.p 0 0),(9,tsl tb),(10,iv ((tb.map Tb.cells).length:Nat)),(11,iv (i:Nat))] [.box [sv ⟨#[]⟩,.nl]]
def zfI (tb:List Tb) (n:Str):List (Tb)->Nat->Sch × Bool
 | [],i =>
  (Sch.mk Zs0 [],false)
 | x::r,i =>
  bif ByteArray.toList x.sch.name==ByteArray.toList n then
   (x.sch,true)
  else
   zfI tb n r (i+1)
theorem ztm (tb:List Tb) (n:Str) (hl:zac tb) (hc:∀ x∈tb,zac x.sch.cols):∀ (kk i:Nat),i+kk=(tb).length->Good E0 B.CW [] (zz8 tb n i ) (Shut 0 fun r h=>r=(.tup [(zfI tb n ((tb).drop i) i ).1.av,bv (zfI tb n ((tb).drop i) i ).2])/\h=[]):=by
 intro kk
 induction kk with
 | zero =>
  intro i  hi
  have h0:decide (((i:Nat):Int) < (((tb.map Tb.cells).length:Nat):Int))=false:=by simp;omega
  have e0:(tb).drop i=[]:=yAJ Zo
  rw [e0]
  simp only [zfI]
  refine zaa ?_
  exact wkr [sb h0] kr
 | succ kk ih =>
  intro i  hi
  obtain ⟨x,hx⟩:=zbc (l:=tb) (i:=i) Zo
  have h0:decide (((i:Nat):Int) < (((tb.map Tb.cells).length:Nat):Int))=true:=by simp;omega
  have hw:=zba i zsm
  have hcx:=hc x (yC hx)
  rw [zaB hx]
  simp only [zfI]
  refine zaa ?_
  cases h1:ByteArray.toList x.sch.name==ByteArray.toList n
  ·exact wkl [sb h0,se (zaf Tb.cells hx rfl),sb h1,si hw] [1,4,9,10,11] 1 kr (ih (i+1) Zo )
  ·exact wkr [sqx ((True/\(List.map Col.cells x.sch.cols).length=(List.map Col.cells x.sch.cols).length/\True)/\True/\True),sb h0,se (zaf Tb.cells hx rfl),sb h1,sqx (AllLen (List.map Col.cells x.sch.cols) 4/\((List.map Col.cells x.sch.cols).length * 32).le 140737488355328)] kr
def zaw (tb:List Tb) (n:Str):Sch × Bool :=
 zfI tb n tb (0)
theorem zb8 (tb:List Tb) (n:Str) (hl:zac tb) (hc:∀ x∈tb,zac x.sch.cols):zab E0 S.CW [tsl tb,sv n] [] (.tup [(zaw tb n).1.av,bv (zaw tb n).2]) []:=by
 unfold zaw
 exact wkc At.CW [] [1,4,9,10,11] 1 kr (by have ih:=ztm tb n hl hc tb.length 0 Zs;exact ih)
def zbg (frs:List Fr) (s:Sch) (v:List V):(List Fr) :=
 frs++[Fr.mk s.name false s.cols v]
theorem zgt (frs:List Fr) (s:Sch) (v:List V) (hl:zac frs):zab E0 S.DG [fsl frs,s.av,vsl v] [] (fsl (zbg frs s v)) []:=by
 unfold zbg
 exact (by (try simp only [zsl,xCol,xLit,xBin,xNeg]);exact wk At.DG [sqx ((List.map Fr.cells frs++[[sv s.name,bv false,ZC s.cols,vsl v]]).length=(List.map Fr.cells frs++[[sv s.name,bv false,ZC s.cols,vsl v]]).length),sqx (AllLen (List.map Fr.cells frs) 4/\((List.map Fr.cells frs).length * 72).le 140737488355328),sqA (List.map Fr.cells frs) [[sv s.name,bv false,ZC s.cols,vsl v]] ((List.map Fr.cells frs).length) 4 72] kr)
def zhK (t w:Int):Bool :=
 bif t==0 then
  true
 else
  t==w
theorem zbZ (t w:Int) :zab E0 S.Dx [iv t,iv w] [] (bv (zhK t w)) []:=by
 unfold zhK
 cases h1:t==0
 ·exact wk At.Dx [sg h1] kr
 ·exact wk At.Dx [sb h1] kr
noncomputable def zz6 (l:List Int) (want give:Int) (i:Nat) :Cfg:=zai B.A7 1 [(6,iv want),(7,iv give),(54,isl l),(55,iv ((l.map fun n=>[iv n]).length:Nat)),(56,iv (i:Nat))] []
def zfH (l:List Int) (want give:Int):List (Int)->Nat->Int × Int
 | [],i =>
  (give,0)
 | x::r,i =>
  bif !zhK x want then
   (0,5)
  else
   zfH l want give r (i+1)
theorem zfA (l:List Int) (want give:Int) (hl:zac l):∀ (kk i:Nat),i+kk=(l).length->Good E0 B.A7 [] (zz6 l want give i ) (Shut 0 fun r h=>r=(.tup [iv (zfH l want give ((l).drop i) i ).1,iv (zfH l want give ((l).drop i) i ).2])/\h=[]):=by
 intro kk
 induction kk with
 | zero =>
  intro i  hi
  have h0:decide (((i:Nat):Int) < (((l.map fun n=>[iv n]).length:Nat):Int))=false:=by simp;omega
  have e0:(l).drop i=[]:=yAJ Zo
  rw [e0]
  simp only [zfH]
  refine zaa ?_
  exact wkr [sb h0] kr
 | succ kk ih =>
  intro i  hi
  obtain ⟨x,hx⟩:=zbc (l:=l) (i:=i) Zo
  have h0:decide (((i:Nat):Int) < (((l.map fun n=>[iv n]).length:Nat):Int))=true:=by simp;omega
  have hw:=zba i zsm
  rw [zaB hx]
  simp only [zfH]
  refine zaa ?_
  cases h1:!zhK x want
  ·exact wkl [sb h0,se (zaf (fun n=>[iv n]) hx rfl),sc (zbZ x want),sb h1,si hw] [6,7,54,55,56] 0 kr (ih (i+1) Zo )
  ·exact wkr [sb h0,se (zaf (fun n=>[iv n]) hx rfl),sc (zbZ x want),sb h1] kr
noncomputable def zy0 (l:List Int) (i:Nat) (want:Int):Cfg:=zai B.A7 0 [(1,isl l),(6,iv want),(7,iv 2),(12,isl l),(13,iv ((l.map fun n=>[iv n]).length:Nat)),(14,iv (i:Nat))] []
def zg8 (l:List Int):List (Int)->Nat->(Int)->Int × Int
 | [],i,want =>
  zfH l want 2 l 0
 | x::r,i,want =>
  bif x != 0 then
   zg8 l r (i+1) (x)
  else
   zg8 l r (i+1) (want)
theorem zl3 (l:List Int) (hl:zac l):∀ (kk i:Nat) (want:Int),i+kk=(l).length->Good E0 B.A7 [] (zy0 l i want) (Shut 0 fun r h=>r=(.tup [iv (zg8 l ((l).drop i) i want).1,iv (zg8 l ((l).drop i) i want).2])/\h=[]):=by
 intro kk
 induction kk with
 | zero =>
  intro i want hi
  have h0:decide (((i:Nat):Int) < (((l.map fun n=>[iv n]).length:Nat):Int))=false:=by simp;omega
  have e0:(l).drop i=[]:=yAJ Zo
  rw [e0]
  simp only [zg8]
  refine zaa ?_
  exact wkl [sb h0] [6,7,54,55,56] 0 kr (zfA l want 2 hl l.length 0 Zs)
 | succ kk ih =>
  intro i want hi
  obtain ⟨x,hx⟩:=zbc (l:=l) (i:=i) Zo
  have h0:decide (((i:Nat):Int) < (((l.map fun n=>[iv n]).length:Nat):Int))=true:=by simp;omega
  have hw:=zba i zsm
  rw [zaB hx]
  simp only [zg8]
  refine zaa ?_
  cases h1:x != 0
  ·exact wkl [sb h0,se (zaf (fun n=>[iv n]) hx rfl),sb h1,si hw] [1,6,7,12,13,14] 0 kr (ih (i+1) want Zo )
  ·exact wkl [sb h0,se (zaf (fun n=>[iv n]) hx rfl),sb h1,si hw] [1,6,7,12,13,14] 0 kr (ih (i+1) x Zo )
def zkD (e:X) (l:List Int):Int × Int :=
 bif e.kind==6 then
  (2,0)
 else
  bif e.kind==3 then
   zfH l 2 2 l 0
  else
   bif e.kind==5 then
    bif decide (e.op<=2) then
     zfH l 2 2 l 0
    else
     bif e.kind==4 then
      zfH l 1 1 l 0
     else
      bif decide (9<=e.op) then
       zfH l 1 1 l 0
      else
       zg8 l l 0 (-1)
   else
    bif e.kind==4 then
     zfH l 1 1 l 0
    else
     zg8 l l 0 (-1)
theorem zqw (e:X) (l:List Int) (hl:zac l):zab E0 S.A7 [e.av,isl l] [] (.tup [iv (zkD e l).1,iv (zkD e l).2]) []:=by
 unfold zkD
 cases h1:e.kind==6
 ·cases h2:e.kind==3
  ·cases h3:e.kind==5
   ·cases h4:e.kind==4
    ·exact wkc At.A7 [sb h1,sg h2,sb h3,sg h4,sb h3] [1,6,7,12,13,14] 0 kr (by have ih:=zl3 l hl l.length 0 (-1) Zs;exact ih)
    ·exact wkc At.A7 [sb h1,sg h2,sb h3,sb h4] [6,7,54,55,56] 0 kr zw5
   ·cases h5:decide (e.op<=2)
    ·cases h6:e.kind==4
     ·cases h7:decide (9<=e.op)
      ·exact wkc At.A7 [sb h1,sg h2,sg h3,sb h5,sg h6,sg h3,sb h7] [1,6,7,12,13,14] 0 kr (by have ih:=zl3 l hl l.length 0 (-1) Zs;exact ih)
      ·exact wkc At.A7 [sb h1,sg h2,sg h3,sb h5,sg h6,sg h3,sb h7] [6,7,54,55,56] 0 kr zw5
     ·exact wkc At.A7 [sb h1,sg h2,sg h3,sb h5,sb h6] [6,7,54,55,56] 0 kr zw5
    ·exact wkc At.A7 [sb h1,sg h2,sg h3,sb h5] [6,7,54,55,56] 0 kr (by have ih:=zfA l 2 2 hl l.length 0 Zs;exact ih)
  ·exact wkc At.A7 [sb h1,sb h2] [6,7,54,55,56] 0 kr (by have ih:=zfA l 2 2 hl l.length 0 Zs;exact ih)
 ·exact wk At.A7 [sb h1] kr
end Go.AM
