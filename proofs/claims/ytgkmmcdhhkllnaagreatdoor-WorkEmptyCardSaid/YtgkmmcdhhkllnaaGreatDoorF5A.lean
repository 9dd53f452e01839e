import Derived.Test.YtgkmmcdhhkllnaaGreatDoorAM4toAM6
import Derived.Test.YtgkmmcdhhkllnaaGreatDoorAL33
import Derived.Test.YtgkmmcdhhkllnaaGreatDoorProg
import Derived.KernelRfl
set_option linter.all false
set_option autoImplicit true
set_option relaxedAutoImplicit true
set_option maxRecDepth 100000
namespace Go.Proofs.YtgkmmcdhhkllnaaGreatDoor.AL
noncomputable section
open Go.Proofs
variable [Tabs]
noncomputable abbrev Pg:Program:=Tryz.prog
abbrev C:=ACall Pg
abbrev CV:=va Pg
def uU (fn:Func):Code:=fn.body.getD .skip
def ac3 (fn : Func) : Bool := fn.body.isSome && !(fn.name == "runtime.NumGoroutine")
theorem okF {f:FuncId}{fn:Func}{m:Nat}{l:List AV}{h:ae}{Q:QT}{pl:Nl}{p:Prop}(hf:Pg.funcs[f]?=some fn) (hm:fn.ntmps=m) (hb:ac3 fn=true) (hl:Nat.ble l.length m=true) (he:adc Pg pl fn (uU fn) l h Q=p) (k:p):ACall Pg f l h Q:=by
 simp only[ac3,Bool.and_eq_true,Bool.not_eq_true']at hb
 have h1:fn.body=some (uU fn):=by
  have h:=hb.1
  unfold uU
  cases hc:fn.body with
  | none=>rw[hc]at h;cases h
  | some c=>rfl
 exact Na hf h1 hb.2 (by rw[hm];exact Nat.le_of_ble_eq_true hl) (by rw[he];exact k)
abbrev pc:Nat:=28
abbrev jg:Nat:=89
abbrev m9:Nat:=124
abbrev bt:Nat:=116
abbrev gg:Nat:=115
abbrev vo:Nat:=170
abbrev eY:Nat:=118
abbrev wQ:Nat:=46
abbrev yM:Nat:=208
abbrev yl:Nat:=82
abbrev p8:Nat:=159
abbrev kJ:Nat:=48
abbrev cp:Nat:=86
abbrev iq:Nat:=160
abbrev gz:Nat:=210
abbrev lK:Nat:=120
abbrev iY:Nat:=119
abbrev iu:Nat:=90
abbrev cf:Nat:=85
abbrev co:Nat:=84
abbrev aR:Nat:=114
abbrev cq:Nat:=83
abbrev fT:Nat:=87
abbrev kI:Nat:=121
abbrev sQ:Nat:=161
abbrev mX:Nat:=155
abbrev qV:Nat:=205
abbrev lf:Nat:=67
abbrev tc:Nat:=201
abbrev cQ:Nat:=267
abbrev vH:Nat:=206
abbrev cN:Nat:=203
abbrev cZ:Nat:=271
abbrev lU:Nat:=268
abbrev d7:Nat:=272
abbrev jC:Nat:=253
abbrev cH:Nat:=269
abbrev fF:Nat:=239
abbrev bX:Nat:=274
abbrev gf:Nat:=264
abbrev eQ:Nat:=255
abbrev gh:Nat:=265
abbrev cx:Nat:=270
abbrev de:Nat:=254
abbrev cr:Nat:=262
abbrev cK:Nat:=238
abbrev cX:Nat:=263
abbrev tA:Nat:=275
abbrev tj:Nat:=290
abbrev oy:Nat:=240
abbrev ng:Nat:=273
abbrev yw:Nat:=259
abbrev oX:Nat:=216
abbrev yF:Nat:=217
abbrev xy:Nat:=283
abbrev vw:Nat:=215
abbrev jN:Nat:=245
abbrev vM:Nat:=243
abbrev u9:Nat:=244
abbrev sS:Nat:=88
abbrev rv:Nat:=147
abbrev tx:Nat:=198
abbrev qc:Nat:=126
abbrev sB:Nat:=164
abbrev qo:Nat:=158
abbrev rT:Nat:=123
abbrev rx:Nat:=122
abbrev om:Nat:=166
abbrev mG:Nat:=167
abbrev jX:Nat:=173
abbrev nR:Nat:=165
abbrev ip:Nat:=214
abbrev nP:Nat:=213
abbrev zR:Nat:=212
abbrev bC:Nat:=169
abbrev lz:Nat:=168
abbrev kK:Nat:=174
abbrev n9:Nat:=211
abbrev jU:Nat:=197
abbrev xZ:Nat:=218
abbrev ly:Nat:=104
abbrev dF:Nat:=131
abbrev xC:Nat:=29
abbrev oY:Nat:=77
abbrev jY:Nat:=106
abbrev g9:Nat:=134
abbrev qf:Nat:=50
abbrev gN:Nat:=43
abbrev ya:Nat:=15
abbrev gZ:Nat:=75
abbrev nC:Nat:=42
abbrev nc:Nat:=76
abbrev iy:Nat:=74
abbrev mt:Nat:=73
abbrev uV:Nat:=25
abbrev aW:Nat:=40
abbrev vC:Nat:=19
abbrev vN:Nat:=34
abbrev mH:Nat:=5
abbrev sL:Nat:=14
abbrev ej:Nat:=20
abbrev xT:Nat:=79
abbrev ol:Nat:=111
abbrev tu:Nat:=45
abbrev m3:Nat:=56
abbrev fR:Nat:=150
abbrev uL:Nat:=109
abbrev d9:Nat:=95
abbrev fa:Nat:=96
abbrev te:Nat:=149
abbrev lm:Nat:=97
abbrev n8:Nat:=146
abbrev jE:Nat:=153
abbrev eW:Nat:=202
abbrev ff:Nat:=148
abbrev ey:Nat:=200
abbrev gx:Nat:=112
abbrev bH:Nat:=152
abbrev gD:Nat:=154
abbrev nH:Nat:=237
abbrev jV:Nat:=151
abbrev ep:Nat:=54
abbrev d5:Nat:=94
abbrev dr:Nat:=52
abbrev c7:Nat:=93
abbrev sR:Nat:=242
abbrev oC:Nat:=72
abbrev uO:Nat:=99
abbrev ot:Nat:=71
abbrev qa:Nat:=102
abbrev du:Nat:=69
abbrev sV:Nat:=105
abbrev mR:Nat:=70
abbrev mD:Nat:=249
abbrev dt:Nat:=100
abbrev kV:Nat:=229
abbrev ce:Nat:=227
abbrev cS:Nat:=226
abbrev gJ:Nat:=187
abbrev fC:Nat:=228
abbrev df:Nat:=186
abbrev gI:Nat:=133
abbrev cG:Nat:=132
abbrev gG:Nat:=230
abbrev pX:Nat:=101
abbrev ko:Nat:=130
abbrev vj:Nat:=41
abbrev vP:Nat:=68
abbrev dJ:Nat:=113
abbrev c9:Nat:=47
abbrev dk:Nat:=53
abbrev dh:Nat:=80
abbrev dG:Nat:=55
abbrev dw:Nat:=49
abbrev gm:Nat:=81
abbrev d4:Nat:=39
abbrev bL:Nat:=157
abbrev cd:Nat:=209
abbrev be:Nat:=117
abbrev dn:Nat:=66
abbrev cL:Nat:=207
abbrev cR:Nat:=204
abbrev cw:Nat:=241
abbrev cP:Nat:=196
abbrev gp:Nat:=156
abbrev bK:Nat:=98
abbrev iA:Nat:=163
abbrev ik:Nat:=162
abbrev eu:Nat:=51
abbrev eI:Nat:=252
abbrev kH:Nat:=199
abbrev tU:Nat:=136
abbrev ez:Nat:=125
abbrev gc:Nat:=266
abbrev jQ:Nat:=137
abbrev jy:Nat:=108
abbrev gQ:Nat:=78
abbrev fO:Nat:=110
abbrev kG:Nat:=256
abbrev c5:Nat:=193
abbrev A6:Nat:=135
abbrev pz:Nat:=107
abbrev cE:Nat:=141
abbrev cm:Nat:=142
abbrev eB:Nat:=139
abbrev dH:Nat:=144
abbrev dU:Nat:=143
abbrev sW:Nat:=140
abbrev iZ:Nat:=145
abbrev lg:Nat:=289
abbrev k9:Nat:=138
abbrev ma:Nat:=188
abbrev x8:Nat:=16
abbrev tq:Nat:=35
abbrev iP:Nat:=21
abbrev lL:Nat:=17
abbrev mQ:Nat:=18
abbrev ij:Nat:=65
abbrev gM:Nat:=63
abbrev kj:Nat:=60
abbrev fY:Nat:=31
abbrev jh:Nat:=61
abbrev jS:Nat:=59
abbrev iW:Nat:=62
abbrev gR:Nat:=33
abbrev im:Nat:=64
abbrev qe:Nat:=37
abbrev fP:Nat:=58
abbrev eG:Nat:=30
abbrev gy:Nat:=32
abbrev cj:Nat:=36
abbrev q8:Nat:=57
def sA (s9 s7 s8:AV) (h:ae) (next0:NT):Prop:=
 ai .shl s7 (.lit (.int .u64 8)) fun t22=>
 ai .or t22 s9 fun t24=>
 ai .sub s8 (I 1) fun t13=>
 next0 [t24,t13] h
def rZ (s9 s7 s8 s1 s2:AV) (h:ae) (next0:NT):Prop:=
 ai .eql s8 s1 fun t18=>
 ifB t18 (
 ai .and s2 (I 255) fun t20=>
 sA t20 s7 s8 h next0) (
 sA s9 s7 s8 h next0)
def su (s0 s1 s2:AV) (Q:QT) (vs0:List AV) (h:ae) (next0:NT):Prop:=
 ai .geq (aq vs0 1) (I 0) fun t11=>
 ifB t11 (
 ai .eql s0 (I 1) fun t15=>
 ifB t15 (
 rZ (I 255) (aq vs0 0) (aq vs0 1) s1 s2 h next0) (
 rZ (I 0) (aq vs0 0) (aq vs0 1) s1 s2 h next0)) (
 C xy [(aq vs0 0),(I 32)] h fun t26 h3=>
 Q t26 h3)
def OB (a0 a1 a2:AV) (h:ae) (Q:QT):Prop:=
 cc [(I 0),(I 3)] h fun vs0 h next0=>su a0 a1 a2 Q vs0 h next0
theorem Pw (a0 a1 a2:AV) (h:ae) (Q:QT) (k:OB a0 a1 a2 h Q):C yw [a0,a1,a2] h Q:=
 okF (pl:=[(4,[7,8,9,10,11,12,13,14,15,16,17,18,19,20,21,22,23,24],[7,8])]) Tryz.func259 Tryz.ntmps259 (by kernel_rfl) rfl (by kernel_rfl) k
def NE (a0 a1:AV) (h:ae) (Q:QT):Prop:=
 ai .sub a1 (I 1) fun t7=>
 C sR [(.lit (.float .f64 4607182418800017408)),t7] h fun t8 h0=>
 rS .f64 a0 fun t10=>
 qUn .neg t8 fun t12=>
 ai .geq t10 t12 fun t13=>
 ifB t13 (rS .f64 a0 fun t16=>
 ai .lss t16 t8 fun t18=>
 Q t18 h0) (
 Q (B false) h0)
theorem Oj (a0 a1:AV) (h:ae) (Q:QT) (k:NE a0 a1 h Q):C oX [a0,a1] h Q:=
 okF (pl:=[]) Tryz.func216 Tryz.ntmps216 (by kernel_rfl) rfl (by kernel_rfl) k
def EF (s9 s8 s0:AV) (Q:QT) (vs1:List AV) (h:ae) (next1:NT):Prop:=
 ai .lss (aq vs1 4) s9 fun t11=>
 ifB t11 (
 an 2 s8 (aq vs1 4) fun t12=>
 ap 2 t12 h fun t13=>
 cu [(I 0),(I 0)] h fun t7 h2=>
 ak 2 t7 t13 h2 fun h3=>
 ap 2 t7 h3 fun t15=>
 C u9 [s0,(.fn (.func jN) [t15] [])] h3 fun t17 h4=>
 ai .geq t17 (I 0) fun t19=>
 ifB t19 (
 ab 0 t7 fun t20=>
 af t20 h4 fun t21=>
 ab 1 t7 fun t22=>
 af t22 h4 fun t23=>
 Q (.tup [t21,t23,t17,(B true)]) h4) (
 ai .add (aq vs1 4) (I 1) fun t25=>
 next1 [(aq vs1 0),(aq vs1 1),t17,(aq vs1 3),t25] h4)) (
 Q (.tup [(I 0),(I 0),(I 0),(B false)]) h)
def N7 (a0:AV) (h:ae) (Q:QT):Prop:=
 C vM [] h fun t8 h0=>
 aX t8 fun t9=>
 cc [(I 0),(I 0),(I 0),(B false),(I 0)] h0 fun vs1 h next1=>EF t9 t8 a0 Q vs1 h next1
theorem Ob (a0:AV) (h:ae) (Q:QT) (k:N7 a0 h Q):C yF [a0] h Q:=
 okF (pl:=[(3,[2,3,4,5,7,10,11,12,13,14,15,16,17,18,19,20,21,22,23,24,25],[2,3,4,5,10]),(1000006,[0,1,2,3,4,5,6,7,8],[])]) Tryz.func217 Tryz.ntmps217 (by kernel_rfl) rfl (by kernel_rfl) k
def On (a0 a1:AV) (h:ae) (Q:QT):Prop:=
 CQ a1 (I 1) fun t7=>
 GD t7 (I 64) fun t8=>
 ai .sub (I 64) t8 fun t9=>
 ai .shl a0 t9 fun t12=>
 ai .shr t12 t9 fun t14=>
 Q t14 h
theorem Ph (a0 a1:AV) (h:ae) (Q:QT) (k:On a0 a1 h Q):C xy [a0,a1] h Q:=
 okF (pl:=[]) Tryz.func283 Tryz.ntmps283 (by kernel_rfl) rfl (by kernel_rfl) k
def Kj (a0:AV) (h:ae) (Q:QT):Prop:=
 ai .shr a0 (.lit (.int .u64 16)) fun t6=>
 ai .and t6 (I 15) fun t7=>
 ai .shr a0 (.lit (.int .u64 11)) fun t9=>
 ai .and t9 (I 31) fun t10=>
 ai .and a0 (I 2047) fun t12=>
 Q (.tup [t7,t10,t12]) h
theorem LQ (a0:AV) (h:ae) (Q:QT) (k:Kj a0 h Q):C vw [a0] h Q:=
 okF (pl:=[]) Tryz.func215 Tryz.ntmps215 (by kernel_rfl) rfl (by kernel_rfl) k
def El (a0 a1:AV) (h:ae) (Q:QT):Prop:=
 fe a0 h fun t2 h0=>
 ab 0 t2 fun t5=>
 af t5 h0 fun t6=>
 ab 1 t2 fun t7=>
 af t7 h0 fun t8=>
 C yw [t6,t8,a1] h0 fun t10 h1=>
 Q t10 h1
theorem Ik (a0 a1:AV) (h:ae) (Q:QT) (k:El a0 a1 h Q):C jN [a0,a1] h Q:=
 okF (pl:=[]) Tryz.func245 Tryz.ntmps245 (by kernel_rfl) rfl (by kernel_rfl) k
def JH (h:ae) (Q:QT):Prop:=
 ay [(I 0),(I 0)] [(0,1,(I 0)),(1,1,(I 0))] fun t1=>
 ay [(I 0),(I 0)] [(0,1,(I 0)),(1,1,(I 1))] fun t2=>
 ay [(I 0),(I 0)] [(0,1,(I 0)),(1,1,(I 2))] fun t3=>
 ay [(I 0),(I 0)] [(0,1,(I 0)),(1,1,(I 3))] fun t4=>
 ay [(I 0),(I 0)] [(0,1,(I 1)),(1,1,(I 0))] fun t5=>
 ay [(I 0),(I 0)] [(0,1,(I 1)),(1,1,(I 1))] fun t6=>
 ay [(I 0),(I 0)] [(0,1,(I 1)),(1,1,(I 2))] fun t7=>
 ay [(I 0),(I 0)] [(0,1,(I 1)),(1,1,(I 3))] fun t8=>
 ao 8 2 [t1,t2,t3,t4,t5,t6,t7,t8] fun t9=>
 Q t9 h
theorem LG (h:ae) (Q:QT) (k:JH  h Q):C vM [] h Q:=
 okF (pl:=[]) Tryz.func243 Tryz.ntmps243 (by kernel_rfl) rfl (by kernel_rfl) k
def B9 (s0 s1:AV) (Q:QT) (vs0:List AV) (h:ae) (next0:NT):Prop:=
 ai .lss (aq vs0 1) (I 256) fun t7=>
 ifB t7 (
 CV s1 [(aq vs0 1)] h fun t11 h1=>
 ai .eql t11 s0 fun t13=>
 ifB t13 (
 Q (aq vs0 1) h1) (
 ai .add (aq vs0 1) (I 1) fun t15=>
 next0 [(aq vs0 0),t15] h1)) (
 Q (I (-1)) h)
def Km (a0 a1:AV) (h:ae) (Q:QT):Prop:=
 cc [(I 0),(I 0)] h fun vs0 h next0=>B9 a0 a1 Q vs0 h next0
theorem M2 (a0 a1:AV) (h:ae) (Q:QT) (k:Km a0 a1 h Q):C u9 [a0,a1] h Q:=
 okF (pl:=[(3,[4,5,6,7,8,9,10,11,12,13,14,15],[4,6])]) Tryz.func244 Tryz.ntmps244 (by kernel_rfl) rfl (by kernel_rfl) k
def Ir (a0:AV) (h:ae) (Q:QT):Prop:=
 fe a0 h fun t1 h0=>
 ap 2 t1 h0 fun t8=>
 C rx [t8] h0 fun t9 h1=>
 am 0 t9 fun t10=>
 am 1 t9 fun t11=>
 qUn .not t11 fun t13=>
 ifB t13 (
 Q (.tup [(.full 0 []),(B false)]) h1) (
 ai .shr t10 (.lit (.int .u64 24)) fun t15=>
 ck .u8 t15 fun t16=>
 ai .shr t10 (.lit (.int .u64 16)) fun t18=>
 ck .u8 t18 fun t19=>
 ai .shr t10 (.lit (.int .u64 8)) fun t21=>
 ck .u8 t21 fun t22=>
 ck .u8 t10 fun t24=>
 ao 4 1 [t16,t19,t22,t24] fun t25=>
 ab 0 t1 fun t27=>
 af t27 h1 fun t28=>
 C rT [t28] h1 fun t29 h2=>
 ai .sub (I 4) t29 fun t30=>
 lu 1 t25 (some t30) none fun t31=>
 C dw [t31] h2 fun t32 h3=>
 Q (.tup [t32,(B true)]) h3)
theorem I1 (a0:AV) (h:ae) (Q:QT) (k:Ir a0 h Q):C sS [a0] h Q:=
 okF (pl:=[]) Tryz.func88 Tryz.ntmps88 (by kernel_rfl) rfl (by kernel_rfl) k
def NH (a0:AV) (h:ae) (Q:QT):Prop:=
 fe a0 h fun t1 h0=>
 C jU [] h0 fun t5 h1=>
 C cP [t5,(.fn (.func tx) [] [t1])] h1 fun t7 h2=>
 CQ t7 (I 0) fun t9=>
 ai .geq t7 (I 0) fun t11=>
 Q (.tup [t9,t11]) h2
theorem QO (a0:AV) (h:ae) (Q:QT) (k:NH a0 h Q):C rv [a0] h Q:=
 okF (pl:=[]) Tryz.func147 Tryz.ntmps147 (by kernel_rfl) rfl (by kernel_rfl) k
def Gg (a0 a1:AV) (h:ae) (Q:QT):Prop:=
 fe a0 h fun t2 h0=>
 ab 0 t2 fun t4=>
 af t4 h0 fun t5=>
 af a1 h0 fun t6=>
 ai .eql t5 t6 fun t7=>
 Q t7 h0
theorem Jv (a0 a1:AV) (h:ae) (Q:QT) (k:Gg a0 a1 h Q):C tx [a0,a1] h Q:=
 okF (pl:=[]) Tryz.func198 Tryz.ntmps198 (by kernel_rfl) rfl (by kernel_rfl) k
def JL (a0:AV) (h:ae) (Q:QT):Prop:=
 C jX [a0,(.fn (.func kK) [] [])] h fun t4 h0=>
 Q t4 h0
theorem LJ (a0:AV) (h:ae) (Q:QT) (k:JL a0 h Q):C qc [a0] h Q:=
 okF (pl:=[]) Tryz.func126 Tryz.ntmps126 (by kernel_rfl) rfl (by kernel_rfl) k
def NN (a0:AV) (h:ae) (Q:QT):Prop:=
 C jX [a0,(.fn (.func n9) [] [])] h fun t4 h0=>
 Q t4 h0
theorem NB (a0:AV) (h:ae) (Q:QT) (k:NN a0 h Q):C sB [a0] h Q:=
 okF (pl:=[]) Tryz.func164 Tryz.ntmps164 (by kernel_rfl) rfl (by kernel_rfl) k
def JT (a0:AV) (h:ae) (Q:QT):Prop:=
 fe a0 h fun t1 h0=>
 ap 2 t1 h0 fun t6=>
 C rx [t6] h0 fun t7 h1=>
 am 0 t7 fun t8=>
 am 1 t7 fun t9=>
 Q t9 h1
theorem Mj (a0:AV) (h:ae) (Q:QT) (k:JT a0 h Q):C qo [a0] h Q:=
 okF (pl:=[]) Tryz.func158 Tryz.ntmps158 (by kernel_rfl) rfl (by kernel_rfl) k
def Pu (a0:AV) (h:ae) (Q:QT):Prop:=
 C sB [a0] h fun t5 h0=>
 ai .eql t5 (S ⟨#[]⟩) fun t6=>
 ifB t6 (
 Q (I 0) h0) (
 ai .lss a0 (I 43) fun t9=>
 ifB t9 (
 Q (I 2) h0) (
 Q (I 4) h0))
theorem Qo (a0:AV) (h:ae) (Q:QT) (k:Pu a0 h Q):C rT [a0] h Q:=
 okF (pl:=[]) Tryz.func123 Tryz.ntmps123 (by kernel_rfl) rfl (by kernel_rfl) k
def Em (s27 s26 s1:AV) (Q:QT) (vs4:List AV) (h:ae) (next4:NT):Prop:=
 ai .lss (aq vs4 3) s27 fun t29=>
 ifB t29 (
 an 1 s26 (aq vs4 3) fun t31=>
 af t31 h fun t32=>
 ab 1 s1 fun t35=>
 af t35 h fun t36=>
 an 1 t36 (aq vs4 3) fun t38=>
 af t38 h fun t39=>
 C bC [t32,t39] h fun t40 h5=>
 am 0 t40 fun t41=>
 am 1 t40 fun t42=>
 qUn .not t42 fun t44=>
 ifB t44 (
 Q (.tup [(.lit (.int .u32 0)),(B false)]) h5) (
 ai .or (aq vs4 2) t41 fun t47=>
 ai .add (aq vs4 3) (I 1) fun t48=>
 next4 [(aq vs4 0),(aq vs4 1),t47,t48] h5)) (
 Q (.tup [(aq vs4 2),(B true)]) h)
def O5 (a0:AV) (h:ae) (Q:QT):Prop:=
 fe a0 h fun t1 h0=>
 ab 0 t1 fun t10=>
 af t10 h0 fun t11=>
 C sB [t11] h0 fun t12 h1=>
 ai .eql t12 (S ⟨#[]⟩) fun t13=>
 ifB t13 (
 Q (.tup [(.lit (.int .u32 0)),(B false)]) h1) (
 ab 0 t1 fun t14=>
 af t14 h1 fun t15=>
 ab 0 t1 fun t17=>
 af t17 h1 fun t18=>
 C nR [t15,(.fn (.func om) [] [])] h1 fun t16 h2=>
 (af t17 h2 fun _t=>
 _t=t18)∧
 C mG [t18,(.fn (.func lz) [] [])] h2 fun t19 h3=>
 aX t19 fun t21=>
 ab 1 t1 fun t22=>
 af t22 h3 fun t23=>
 aX t23 fun t24=>
 ai .neq t21 t24 fun t25=>
 ifB t25 (
 Q (.tup [(.lit (.int .u32 0)),(B false)]) h3) (
 aX t19 fun t27=>
 cc [(.lit (.int .u32 0)),(B false),t16,(I 0)] h3 fun vs4 h next4=>Em t27 t19 t1 Q vs4 h next4))
theorem OL (a0:AV) (h:ae) (Q:QT) (k:O5 a0 h Q):C rx [a0] h Q:=
 okF (pl:=[(1000003,[0,1,3,4,2,5,6,7],[]),(8,[2,3,4,6,7,8,9,28,29,30,31,32,33,34,35,36,37,38,39,40,41,42,43,44,45,46,47,48],[2,3,4,28])]) Tryz.func122 Tryz.ntmps122 (by kernel_rfl) rfl (by kernel_rfl) k
def II (a0:AV) (h:ae) (Q:QT):Prop:=
 fe a0 h fun t1 h0=>
 ab 1 t1 fun t3=>
 af t3 h0 fun t4=>
 Q t4 h0
theorem Jn (a0:AV) (h:ae) (Q:QT) (k:II a0 h Q):C om [a0] h Q:=
 okF (pl:=[]) Tryz.func166 Tryz.ntmps166 (by kernel_rfl) rfl (by kernel_rfl) k
def mn (s4:AV) (h:ae) (Q:QT):Prop:=
 Q s4 h
def xK (a0 a1:AV) (h:ae) (Q:QT):Prop:=
 C jU [] h fun t6 h0=>
 ai .geq a0 (I 0) fun t8=>
 ifB t8 (aX t6 fun t12=>
 ai .lss a0 t12 fun t13=>
 ifB t13 (
 an 3 t6 a0 fun t18=>
 ap 3 t18 h0 fun t19=>
 CV a1 [t19] h0 fun t20 h1=>
 mn t20 h1 Q) (
 mn (.full 0 []) h0 Q)) (
 mn (.full 0 []) h0 Q)
theorem Bc (a0 a1:AV) (h:ae) (Q:QT) (k:xK a0 a1 h Q):C mG [a0,a1] h Q:=
 okF (pl:=[]) Tryz.func167 Tryz.ntmps167 (by kernel_rfl) rfl (by kernel_rfl) k
def nO (s4:AV) (h:ae) (Q:QT):Prop:=
 Q s4 h
def zG (a0 a1:AV) (h:ae) (Q:QT):Prop:=
 C jU [] h fun t6 h0=>
 ai .geq a0 (I 0) fun t8=>
 ifB t8 (aX t6 fun t12=>
 ai .lss a0 t12 fun t13=>
 ifB t13 (
 an 3 t6 a0 fun t18=>
 ap 3 t18 h0 fun t19=>
 CV a1 [t19] h0 fun t20 h1=>
 nO t20 h1 Q) (
 nO (S ⟨#[]⟩) h0 Q)) (
 nO (S ⟨#[]⟩) h0 Q)
theorem DW (a0 a1:AV) (h:ae) (Q:QT) (k:zG a0 a1 h Q):C jX [a0,a1] h Q:=
 okF (pl:=[]) Tryz.func173 Tryz.ntmps173 (by kernel_rfl) rfl (by kernel_rfl) k
def nZ (s4:AV) (h:ae) (Q:QT):Prop:=
 Q s4 h
def zx (a0 a1:AV) (h:ae) (Q:QT):Prop:=
 C jU [] h fun t6 h0=>
 ai .geq a0 (I 0) fun t8=>
 ifB t8 (aX t6 fun t12=>
 ai .lss a0 t12 fun t13=>
 ifB t13 (
 an 3 t6 a0 fun t18=>
 ap 3 t18 h0 fun t19=>
 CV a1 [t19] h0 fun t20 h1=>
 nZ t20 h1 Q) (
 nZ (.lit (.int .u32 0)) h0 Q)) (
 nZ (.lit (.int .u32 0)) h0 Q)
theorem Dy (a0 a1:AV) (h:ae) (Q:QT) (k:zx a0 a1 h Q):C nR [a0,a1] h Q:=
 okF (pl:=[]) Tryz.func165 Tryz.ntmps165 (by kernel_rfl) rfl (by kernel_rfl) k
def JQ (a0:AV) (h:ae) (Q:QT):Prop:=
 ai .eql a0 (S ⟨#[89]⟩) fun t4=>
 ifB t4 (
 Q (.lit (.int .u64 4)) h) (
 Q (.lit (.int .u64 0)) h)
theorem LY (a0:AV) (h:ae) (Q:QT) (k:JQ a0 h Q):C ip [a0] h Q:=
 okF (pl:=[]) Tryz.func214 Tryz.ntmps214 (by kernel_rfl) rfl (by kernel_rfl) k
def zw (a0 a1:AV) (h:ae) (Q:QT):Prop:=
 fe a0 h fun t2 h0=>
 ab 3 t2 fun t7=>
 af t7 h0 fun t8=>
 ai .lss a1 t8 fun t9=>
 ifB t9 (Q (.tup [(.lit (.int .u32 0)),(B false)]) h0) (
 ab 3 t2 fun t12=>
 af t12 h0 fun t13=>
 ai .sub a1 t13 fun t14=>
 ab 2 t2 fun t15=>
 af t15 h0 fun t16=>
 ab 1 t2 fun t17=>
 af t17 h0 fun t18=>
 ai .shl t16 t18 fun t19=>
 ai .geq t14 t19 fun t20=>
 ifB t20 (Q (.tup [(.lit (.int .u32 0)),(B false)]) h0) (
 ab 3 t2 fun t24=>
 af t24 h0 fun t25=>
 ai .sub a1 t25 fun t26=>
 ab 2 t2 fun t27=>
 af t27 h0 fun t28=>
 ai .rem t26 t28 fun t29=>
 ai .neq t29 (I 0) fun t30=>
 ifB t30 (
 Q (.tup [(.lit (.int .u32 0)),(B false)]) h0) (
 ab 3 t2 fun t33=>
 af t33 h0 fun t34=>
 ai .sub a1 t34 fun t35=>
 ab 2 t2 fun t36=>
 af t36 h0 fun t37=>
 ai .quo t35 t37 fun t38=>
 ck .u32 t38 fun t39=>
 ab 0 t2 fun t40=>
 af t40 h0 fun t41=>
 ai .shl t39 t41 fun t42=>
 Q (.tup [t42,(B true)]) h0)))
theorem Dd (a0 a1:AV) (h:ae) (Q:QT) (k:zw a0 a1 h Q):C nP [a0,a1] h Q:=
 okF (pl:=[(1000003,[0,1,2,3,4,5,6,7,8,9,10,11,12],[])]) Tryz.func213 Tryz.ntmps213 (by kernel_rfl) rfl (by kernel_rfl) k
def bO (a0:AV) (h:ae) (Q:QT):Prop:=
 cu [(.lit (.int .u64 0)),(.lit (.int .u64 0)),(I 0),(I 0)] h fun t2 h0=>
 ai .eql a0 (S ⟨#[85,53]⟩) fun t6=>
 ifB t6 (
 ay [(.lit (.int .u64 0)),(.lit (.int .u64 0)),(I 0),(I 0)] [(0,1,(.lit (.int .u64 4))),(1,1,(.lit (.int .u64 5))),(2,1,(I 1)),(3,1,(I 0))] fun t7=>
 ak 4 t2 t7 h0 fun h1=>
 ap 4 t2 h1 fun r2=>
 Q (.tup [r2,(B true)]) h1) (
 ai .eql a0 (S ⟨#[85,55]⟩) fun t9=>
 ifB t9 (
 ay [(.lit (.int .u64 0)),(.lit (.int .u64 0)),(I 0),(I 0)] [(0,1,(.lit (.int .u64 4))),(1,1,(.lit (.int .u64 7))),(2,1,(I 1)),(3,1,(I 0))] fun t10=>
 ak 4 t2 t10 h0 fun h3=>
 ap 4 t2 h3 fun r4=>
 Q (.tup [r4,(B true)]) h3) (
 ai .eql a0 (S ⟨#[79,53]⟩) fun t12=>
 ifB t12 (
 ay [(.lit (.int .u64 0)),(.lit (.int .u64 0)),(I 0),(I 0)] [(0,1,(.lit (.int .u64 4))),(1,1,(.lit (.int .u64 5))),(2,1,(I 1)),(3,1,(I 1))] fun t13=>
 ak 4 t2 t13 h0 fun h5=>
 ap 4 t2 h5 fun r6=>
 Q (.tup [r6,(B true)]) h5) (
 ai .eql a0 (S ⟨#[77,49]⟩) fun t15=>
 ifB t15 (
 ay [(.lit (.int .u64 0)),(.lit (.int .u64 0)),(I 0),(I 0)] [(0,1,(.lit (.int .u64 8))),(1,1,(.lit (.int .u64 4))),(2,1,(I 1)),(3,1,(I 0))] fun t16=>
 ak 4 t2 t16 h0 fun h7=>
 ap 4 t2 h7 fun r8=>
 Q (.tup [r8,(B true)]) h7) (
 ai .eql a0 (S ⟨#[77,50]⟩) fun t18=>
 ifB t18 (
 ay [(.lit (.int .u64 0)),(.lit (.int .u64 0)),(I 0),(I 0)] [(0,1,(.lit (.int .u64 8))),(1,1,(.lit (.int .u64 4))),(2,1,(I 2)),(3,1,(I 0))] fun t19=>
 ak 4 t2 t19 h0 fun h9=>
 ap 4 t2 h9 fun r10=>
 Q (.tup [r10,(B true)]) h9) (
 ai .eql a0 (S ⟨#[77,52]⟩) fun t21=>
 ifB t21 (
 ay [(.lit (.int .u64 0)),(.lit (.int .u64 0)),(I 0),(I 0)] [(0,1,(.lit (.int .u64 8))),(1,1,(.lit (.int .u64 4))),(2,1,(I 4)),(3,1,(I 0))] fun t22=>
 ak 4 t2 t22 h0 fun h11=>
 ap 4 t2 h11 fun r12=>
 Q (.tup [r12,(B true)]) h11) (
 ai .eql a0 (S ⟨#[79,49]⟩) fun t24=>
 ifB t24 (
 ay [(.lit (.int .u64 0)),(.lit (.int .u64 0)),(I 0),(I 0)] [(0,1,(.lit (.int .u64 10))),(1,1,(.lit (.int .u64 1))),(2,1,(I 1)),(3,1,(I 0))] fun t25=>
 ak 4 t2 t25 h0 fun h13=>
 ap 4 t2 h13 fun r14=>
 Q (.tup [r14,(B true)]) h13) (
 ai .eql a0 (S ⟨#[73,50]⟩) fun t27=>
 ifB t27 (
 ay [(.lit (.int .u64 0)),(.lit (.int .u64 0)),(I 0),(I 0)] [(0,1,(.lit (.int .u64 8))),(1,1,(.lit (.int .u64 2))),(2,1,(I 1)),(3,1,(I 0))] fun t28=>
 ak 4 t2 t28 h0 fun h15=>
 ap 4 t2 h15 fun r16=>
 Q (.tup [r16,(B true)]) h15) (
 ai .eql a0 (S ⟨#[68]⟩) fun t30=>
 ifB t30 (
 ay [(.lit (.int .u64 0)),(.lit (.int .u64 0)),(I 0),(I 0)] [(0,1,(.lit (.int .u64 21))),(1,1,(.lit (.int .u64 5))),(2,1,(I 1)),(3,1,(I 0))] fun t31=>
 ak 4 t2 t31 h0 fun h17=>
 ap 4 t2 h17 fun r18=>
 Q (.tup [r18,(B true)]) h17) (
 ai .eql a0 (S ⟨#[65]⟩) fun t33=>
 ifB t33 (
 ay [(.lit (.int .u64 0)),(.lit (.int .u64 0)),(I 0),(I 0)] [(0,1,(.lit (.int .u64 16))),(1,1,(.lit (.int .u64 5))),(2,1,(I 1)),(3,1,(I 0))] fun t34=>
 ak 4 t2 t34 h0 fun h19=>
 ap 4 t2 h19 fun r20=>
 Q (.tup [r20,(B true)]) h19) (
 ai .eql a0 (S ⟨#[66]⟩) fun t36=>
 ifB t36 (
 ay [(.lit (.int .u64 0)),(.lit (.int .u64 0)),(I 0),(I 0)] [(0,1,(.lit (.int .u64 11))),(1,1,(.lit (.int .u64 5))),(2,1,(I 1)),(3,1,(I 0))] fun t37=>
 ak 4 t2 t37 h0 fun h21=>
 ap 4 t2 h21 fun r22=>
 Q (.tup [r22,(B true)]) h21) (
 ai .eql a0 (S ⟨#[79,50]⟩) fun t39=>
 ifB t39 (
 ay [(.lit (.int .u64 0)),(.lit (.int .u64 0)),(I 0),(I 0)] [(0,1,(.lit (.int .u64 20))),(1,1,(.lit (.int .u64 2))),(2,1,(I 1)),(3,1,(I 0))] fun t40=>
 ak 4 t2 t40 h0 fun h23=>
 ap 4 t2 h23 fun r24=>
 Q (.tup [r24,(B true)]) h23) (
 ai .eql a0 (S ⟨#[73,52]⟩) fun t42=>
 ifB t42 (
 ay [(.lit (.int .u64 0)),(.lit (.int .u64 0)),(I 0),(I 0)] [(0,1,(.lit (.int .u64 16))),(1,1,(.lit (.int .u64 4))),(2,1,(I 1)),(3,1,(I 0))] fun t43=>
 ak 4 t2 t43 h0 fun h25=>
 ap 4 t2 h25 fun r26=>
 Q (.tup [r26,(B true)]) h25) (
 ay [(.lit (.int .u64 0)),(.lit (.int .u64 0)),(I 0),(I 0)] [] fun t44=>
 ak 4 t2 t44 h0 fun h27=>
 ap 4 t2 h27 fun r28=>
 Q (.tup [r28,(B false)]) h27)))))))))))))
theorem bh (a0:AV) (h:ae) (Q:QT) (k:bO a0 h Q):C zR [a0] h Q:=
 okF (pl:=[]) Tryz.func212 Tryz.ntmps212 (by kernel_rfl) rfl (by kernel_rfl) k
def Ep (s27 s26 s0 s1:AV) (h:ae) (Q:QT):Prop:=
 ifB s27 (
 ai .lss s1 (I 0) fun t31=>
 ifB t31 (Q (.tup [(.lit (.int .u32 0)),(B false)]) h) (
 ai .gtr s1 (I 7) fun t34=>
 ifT t34 (ai .lss s1 (I 24) fun t37=>
 ifB t37 (Q (.tup [(.lit (.int .u32 0)),(B false)]) h) (
 ai .gtr s1 (I 31) fun t42=>
 ifB t42 (
 Q (.tup [(.lit (.int .u32 0)),(B false)]) h) (
 ai .quo s1 (I 24) fun t46=>
 ai .mul t46 (I 16) fun t47=>
 ai .sub s1 t47 fun t48=>
 ck .u32 t48 fun t49=>
 C ip [s0] h fun t51 h4=>
 ai .shl t49 t51 fun t52=>
 Q (.tup [t52,(B true)]) h4))) (
 ai .gtr s1 (I 31) fun t42=>
 ifB t42 (
 Q (.tup [(.lit (.int .u32 0)),(B false)]) h) (
 ai .quo s1 (I 24) fun t46=>
 ai .mul t46 (I 16) fun t47=>
 ai .sub s1 t47 fun t48=>
 ck .u32 t48 fun t49=>
 C ip [s0] h fun t51 h5=>
 ai .shl t49 t51 fun t52=>
 Q (.tup [t52,(B true)]) h5)) (
 ifB (.tup []) (ifB (.tup []) (Q (.tup [(.lit (.int .u32 0)),(B false)]) h) (ifB (.tup []) (
 Q (.tup [(.lit (.int .u32 0)),(B false)]) h) (
 ai .quo s1 (I 24) fun t46=>
 ai .mul t46 (I 16) fun t47=>
 ai .sub s1 t47 fun t48=>
 ck .u32 t48 fun t49=>
 C ip [s0] h fun t51 h6=>
 ai .shl t49 t51 fun t52=>
 Q (.tup [t52,(B true)]) h6))) (ai .gtr s1 (I 31) fun t42=>
 ifB t42 (
 Q (.tup [(.lit (.int .u32 0)),(B false)]) h) (
 ai .quo s1 (I 24) fun t46=>
 ai .mul t46 (I 16) fun t47=>
 ai .sub s1 t47 fun t48=>
 ck .u32 t48 fun t49=>
 C ip [s0] h fun t51 h7=>
 ai .shl t49 t51 fun t52=>
 Q (.tup [t52,(B true)]) h7))))) (
 ai .eql s26 (S ⟨#[76,50,48]⟩) fun t54=>
 ifB t54 (
 C vw [s1] h fun t57 h8=>
 am 0 t57 fun t58=>
 am 1 t57 fun t59=>
 am 2 t57 fun t60=>
 ai .shl t58 (.lit (.int .u64 11)) fun t62=>
 ai .shl t59 (.lit (.int .u64 16)) fun t64=>
 ai .or t62 t64 fun t65=>
 ai .or t65 t60 fun t67=>
 ck .u32 t67 fun t68=>
 C oX [s1,(I 20)] h8 fun t70 h9=>
 Q (.tup [t68,t70]) h9) (
 ai .eql s26 (S ⟨#[67,56]⟩) fun t72=>
 ifB t72 (
 C yF [s1] h fun t75 h10=>
 am 0 t75 fun t76=>
 am 1 t75 fun t77=>
 am 2 t75 fun t78=>
 am 3 t75 fun t79=>
 ai .shl t76 (.lit (.int .u64 10)) fun t81=>
 ai .shl t77 (.lit (.int .u64 8)) fun t83=>
 ai .or t81 t83 fun t84=>
 ai .or t84 t78 fun t86=>
 ck .u32 t86 fun t87=>
 Q (.tup [t87,t79]) h10) (
 ai .eql s26 (S ⟨#[83,49,54]⟩) fun t90=>
 ifB t90 (
 ai .and s1 (I 65535) fun t92=>
 ck .u32 t92 fun t93=>
 C oX [s1,(I 16)] h fun t95 h11=>
 Q (.tup [t93,t95]) h11) (
 ai .rem s1 (I 2) fun t97=>
 ai .neq t97 (I 0) fun t98=>
 ifB t98 (Q (.tup [(.lit (.int .u32 0)),(B false)]) h) (
 C xZ [s0] h fun t102 h12=>
 C oX [s1,t102] h12 fun t103 h13=>
 qUn .not t103 fun t104=>
 ifB t104 (
 Q (.tup [(.lit (.int .u32 0)),(B false)]) h13) (
 ai .eql s0 (S ⟨#[84,56]⟩) fun t107=>
 ifB t107 (
 ai .quo s1 (I 2) fun t109=>
 ai .and t109 (I 255) fun t110=>
 ck .u32 t110 fun t111=>
 Q (.tup [t111,(B true)]) h13) (
 C xZ [s0] h13 fun t114 h14=>
 ai .shl (I 1) t114 fun t115=>
 ai .sub t115 (I 1) fun t116=>
 ai .and s1 t116 fun t117=>
 ck .u32 t117 fun t118=>
 Q (.tup [t118,(B true)]) h14)))))))
def dT (a0 a1:AV) (h:ae) (Q:QT):Prop:=
 C zR [a0] h fun t17 h0=>
 am 0 t17 fun t18=>
 am 1 t17 fun t19=>
 cu [(.lit (.int .u64 0)),(.lit (.int .u64 0)),(I 0),(I 0)] h0 fun t6 h1=>
 ak 4 t6 t18 h1 fun h2=>
 ifB t19 (
 ap 4 t6 h2 fun t21=>
 C nP [t21,a1] h2 fun t23 h3=>
 am 0 t23 fun t24=>
 am 1 t23 fun t25=>
 Q (.tup [t24,t25]) h3) (
 ai .eql a0 (S ⟨#[88]⟩) fun t28=>
 ifB t28 (
 Ep t28 a0 a0 a1 h2 Q) (
 ai .eql a0 (S ⟨#[89]⟩) fun t29=>
 Ep t29 a0 a0 a1 h2 Q))
theorem bT (a0 a1:AV) (h:ae) (Q:QT) (k:dT a0 a1 h Q):C bC [a0,a1] h Q:=
 okF (pl:=[]) Tryz.func169 Tryz.ntmps169 (by kernel_rfl) rfl (by kernel_rfl) k
def BX (a0:AV) (h:ae) (Q:QT):Prop:=
 fe a0 h fun t1 h0=>
 ab 2 t1 fun t3=>
 af t3 h0 fun t4=>
 C ez [t4] h0 fun t5 h1=>
 Q t5 h1
theorem Fl (a0:AV) (h:ae) (Q:QT) (k:BX a0 h Q):C lz [a0] h Q:=
 okF (pl:=[]) Tryz.func168 Tryz.ntmps168 (by kernel_rfl) rfl (by kernel_rfl) k
def uE (a0:AV) (h:ae) (Q:QT):Prop:=
 fe a0 h fun t1 h0=>
 ab 2 t1 fun t3=>
 af t3 h0 fun t4=>
 Q t4 h0
theorem zp (a0:AV) (h:ae) (Q:QT) (k:uE a0 h Q):C kK [a0] h Q:=
 okF (pl:=[]) Tryz.func174 Tryz.ntmps174 (by kernel_rfl) rfl (by kernel_rfl) k
def zO (a0:AV) (h:ae) (Q:QT):Prop:=
 fe a0 h fun t1 h0=>
 ab 0 t1 fun t3=>
 af t3 h0 fun t4=>
 Q t4 h0
theorem CM (a0:AV) (h:ae) (Q:QT) (k:zO a0 h Q):C n9 [a0] h Q:=
 okF (pl:=[]) Tryz.func211 Tryz.ntmps211 (by kernel_rfl) rfl (by kernel_rfl) k
def Kc (h:ae) (Q:QT):Prop:=
 ay [(S ⟨#[]⟩),(.lit (.int .u32 0)),(S ⟨#[]⟩)] [(0,1,(S ⟨#[115,101,95,105,108,108,101,103,97,108]⟩)),(1,1,(.lit (.int .u32 0))),(2,1,(S ⟨#[]⟩))] fun t1=>
 ay [(S ⟨#[]⟩),(.lit (.int .u32 0)),(S ⟨#[]⟩)] [(0,1,(S ⟨#[115,101,95,105,115,121,110,99]⟩)),(1,1,(.lit (.int .u32 1))),(2,1,(S ⟨#[]⟩))] fun t2=>
 ay [(S ⟨#[]⟩),(.lit (.int .u32 0)),(S ⟨#[]⟩)] [(0,1,(S ⟨#[115,101,95,115,99]⟩)),(1,1,(.lit (.int .u32 2))),(2,1,(S ⟨#[]⟩))] fun t3=>
 ay [(S ⟨#[]⟩),(.lit (.int .u32 0)),(S ⟨#[]⟩)] [(0,1,(S ⟨#[115,101,95,98,108,114]⟩)),(1,1,(.lit (.int .u32 4))),(2,1,(S ⟨#[]⟩))] fun t4=>
 ay [(S ⟨#[]⟩),(.lit (.int .u32 0)),(S ⟨#[]⟩)] [(0,1,(S ⟨#[115,101,95,98,99,116,114]⟩)),(1,1,(.lit (.int .u32 6))),(2,1,(S ⟨#[]⟩))] fun t5=>
 ay [(S ⟨#[]⟩),(.lit (.int .u32 0)),(S ⟨#[]⟩)] [(0,1,(S ⟨#[115,101,95,110,111,116]⟩)),(1,1,(.lit (.int .u32 32))),(2,1,(S ⟨#[88]⟩))] fun t6=>
 ay [(S ⟨#[]⟩),(.lit (.int .u32 0)),(S ⟨#[]⟩)] [(0,1,(S ⟨#[115,101,95,110,101,103]⟩)),(1,1,(.lit (.int .u32 48))),(2,1,(S ⟨#[88]⟩))] fun t7=>
 ay [(S ⟨#[]⟩),(.lit (.int .u32 0)),(S ⟨#[]⟩)] [(0,1,(S ⟨#[115,101,95,109,102,108,114]⟩)),(1,1,(.lit (.int .u32 128))),(2,1,(S ⟨#[88]⟩))] fun t8=>
 ay [(S ⟨#[]⟩),(.lit (.int .u32 0)),(S ⟨#[]⟩)] [(0,1,(S ⟨#[115,101,95,109,116,108,114]⟩)),(1,1,(.lit (.int .u32 144))),(2,1,(S ⟨#[88]⟩))] fun t9=>
 ay [(S ⟨#[]⟩),(.lit (.int .u32 0)),(S ⟨#[]⟩)] [(0,1,(S ⟨#[115,101,95,109,102,99,116,114]⟩)),(1,1,(.lit (.int .u32 160))),(2,1,(S ⟨#[88]⟩))] fun t10=>
 ay [(S ⟨#[]⟩),(.lit (.int .u32 0)),(S ⟨#[]⟩)] [(0,1,(S ⟨#[115,101,95,109,116,99,116,114]⟩)),(1,1,(.lit (.int .u32 176))),(2,1,(S ⟨#[88]⟩))] fun t11=>
 ay [(S ⟨#[]⟩),(.lit (.int .u32 0)),(S ⟨#[]⟩)] [(0,1,(S ⟨#[115,101,95,101,120,116,122,98]⟩)),(1,1,(.lit (.int .u32 192))),(2,1,(S ⟨#[88]⟩))] fun t12=>
 ay [(S ⟨#[]⟩),(.lit (.int .u32 0)),(S ⟨#[]⟩)] [(0,1,(S ⟨#[115,101,95,101,120,116,115,98]⟩)),(1,1,(.lit (.int .u32 208))),(2,1,(S ⟨#[88]⟩))] fun t13=>
 ay [(S ⟨#[]⟩),(.lit (.int .u32 0)),(S ⟨#[]⟩)] [(0,1,(S ⟨#[115,101,95,101,120,116,122,104]⟩)),(1,1,(.lit (.int .u32 224))),(2,1,(S ⟨#[88]⟩))] fun t14=>
 ay [(S ⟨#[]⟩),(.lit (.int .u32 0)),(S ⟨#[]⟩)] [(0,1,(S ⟨#[115,101,95,101,120,116,115,104]⟩)),(1,1,(.lit (.int .u32 240))),(2,1,(S ⟨#[88]⟩))] fun t15=>
 ay [(S ⟨#[]⟩),(.lit (.int .u32 0)),(S ⟨#[]⟩)] [(0,1,(S ⟨#[115,101,95,109,114]⟩)),(1,1,(.lit (.int .u32 256))),(2,1,(S ⟨#[88,32,89]⟩))] fun t16=>
 ay [(S ⟨#[]⟩),(.lit (.int .u32 0)),(S ⟨#[]⟩)] [(0,1,(S ⟨#[115,101,95,97,100,100]⟩)),(1,1,(.lit (.int .u32 1024))),(2,1,(S ⟨#[88,32,89]⟩))] fun t17=>
 ay [(S ⟨#[]⟩),(.lit (.int .u32 0)),(S ⟨#[]⟩)] [(0,1,(S ⟨#[115,101,95,109,117,108,108,119]⟩)),(1,1,(.lit (.int .u32 1280))),(2,1,(S ⟨#[88,32,89]⟩))] fun t18=>
 ay [(S ⟨#[]⟩),(.lit (.int .u32 0)),(S ⟨#[]⟩)] [(0,1,(S ⟨#[115,101,95,115,117,98]⟩)),(1,1,(.lit (.int .u32 1536))),(2,1,(S ⟨#[88,32,89]⟩))] fun t19=>
 ay [(S ⟨#[]⟩),(.lit (.int .u32 0)),(S ⟨#[]⟩)] [(0,1,(S ⟨#[115,101,95,99,109,112]⟩)),(1,1,(.lit (.int .u32 3072))),(2,1,(S ⟨#[88,32,89]⟩))] fun t20=>
 ay [(S ⟨#[]⟩),(.lit (.int .u32 0)),(S ⟨#[]⟩)] [(0,1,(S ⟨#[115,101,95,99,109,112,108]⟩)),(1,1,(.lit (.int .u32 3328))),(2,1,(S ⟨#[88,32,89]⟩))] fun t21=>
 ay [(S ⟨#[]⟩),(.lit (.int .u32 0)),(S ⟨#[]⟩)] [(0,1,(S ⟨#[115,101,95,97,100,100,105]⟩)),(1,1,(.lit (.int .u32 8192))),(2,1,(S ⟨#[88,32,79,53]⟩))] fun t22=>
 ay [(S ⟨#[]⟩),(.lit (.int .u32 0)),(S ⟨#[]⟩)] [(0,1,(S ⟨#[115,101,95,99,109,112,108,105]⟩)),(1,1,(.lit (.int .u32 8704))),(2,1,(S ⟨#[88,32,79,53]⟩))] fun t23=>
 ay [(S ⟨#[]⟩),(.lit (.int .u32 0)),(S ⟨#[]⟩)] [(0,1,(S ⟨#[115,101,95,115,117,98,105]⟩)),(1,1,(.lit (.int .u32 9216))),(2,1,(S ⟨#[88,32,79,53]⟩))] fun t24=>
 ay [(S ⟨#[]⟩),(.lit (.int .u32 0)),(S ⟨#[]⟩)] [(0,1,(S ⟨#[115,101,95,99,109,112,105]⟩)),(1,1,(.lit (.int .u32 10752))),(2,1,(S ⟨#[88,32,85,53]⟩))] fun t25=>
 ay [(S ⟨#[]⟩),(.lit (.int .u32 0)),(S ⟨#[]⟩)] [(0,1,(S ⟨#[115,101,95,111,114]⟩)),(1,1,(.lit (.int .u32 17408))),(2,1,(S ⟨#[88,32,89]⟩))] fun t26=>
 ay [(S ⟨#[]⟩),(.lit (.int .u32 0)),(S ⟨#[]⟩)] [(0,1,(S ⟨#[115,101,95,97,110,100,99]⟩)),(1,1,(.lit (.int .u32 17664))),(2,1,(S ⟨#[88,32,89]⟩))] fun t27=>
 ay [(S ⟨#[]⟩),(.lit (.int .u32 0)),(S ⟨#[]⟩)] [(0,1,(S ⟨#[115,101,95,97,110,100]⟩)),(1,1,(.lit (.int .u32 17920))),(2,1,(S ⟨#[88,32,89]⟩))] fun t28=>
 ay [(S ⟨#[]⟩),(.lit (.int .u32 0)),(S ⟨#[]⟩)] [(0,1,(S ⟨#[115,101,95,108,105]⟩)),(1,1,(.lit (.int .u32 18432))),(2,1,(S ⟨#[88,32,85,55]⟩))] fun t29=>
 ay [(S ⟨#[]⟩),(.lit (.int .u32 0)),(S ⟨#[]⟩)] [(0,1,(S ⟨#[115,101,95,98,99,108,114,105]⟩)),(1,1,(.lit (.int .u32 24576))),(2,1,(S ⟨#[88,32,85,53]⟩))] fun t30=>
 ay [(S ⟨#[]⟩),(.lit (.int .u32 0)),(S ⟨#[]⟩)] [(0,1,(S ⟨#[115,101,95,98,115,101,116,105]⟩)),(1,1,(.lit (.int .u32 25600))),(2,1,(S ⟨#[88,32,85,53]⟩))] fun t31=>
 ay [(S ⟨#[]⟩),(.lit (.int .u32 0)),(S ⟨#[]⟩)] [(0,1,(S ⟨#[115,101,95,98,116,115,116,105]⟩)),(1,1,(.lit (.int .u32 26112))),(2,1,(S ⟨#[88,32,85,53]⟩))] fun t32=>
 ay [(S ⟨#[]⟩),(.lit (.int .u32 0)),(S ⟨#[]⟩)] [(0,1,(S ⟨#[115,101,95,115,114,119,105]⟩)),(1,1,(.lit (.int .u32 26624))),(2,1,(S ⟨#[88,32,85,53]⟩))] fun t33=>
 ay [(S ⟨#[]⟩),(.lit (.int .u32 0)),(S ⟨#[]⟩)] [(0,1,(S ⟨#[115,101,95,115,108,119,105]⟩)),(1,1,(.lit (.int .u32 27648))),(2,1,(S ⟨#[88,32,85,53]⟩))] fun t34=>
 ay [(S ⟨#[]⟩),(.lit (.int .u32 0)),(S ⟨#[]⟩)] [(0,1,(S ⟨#[115,101,95,108,98,122]⟩)),(1,1,(.lit (.int .u32 32768))),(2,1,(S ⟨#[89,32,77,49,32,88]⟩))] fun t35=>
 ay [(S ⟨#[]⟩),(.lit (.int .u32 0)),(S ⟨#[]⟩)] [(0,1,(S ⟨#[115,101,95,115,116,98]⟩)),(1,1,(.lit (.int .u32 36864))),(2,1,(S ⟨#[89,32,77,49,32,88]⟩))] fun t36=>
 ay [(S ⟨#[]⟩),(.lit (.int .u32 0)),(S ⟨#[]⟩)] [(0,1,(S ⟨#[115,101,95,108,104,122]⟩)),(1,1,(.lit (.int .u32 40960))),(2,1,(S ⟨#[89,32,77,50,32,88]⟩))] fun t37=>
 ay [(S ⟨#[]⟩),(.lit (.int .u32 0)),(S ⟨#[]⟩)] [(0,1,(S ⟨#[115,101,95,115,116,104]⟩)),(1,1,(.lit (.int .u32 45056))),(2,1,(S ⟨#[89,32,77,50,32,88]⟩))] fun t38=>
 ay [(S ⟨#[]⟩),(.lit (.int .u32 0)),(S ⟨#[]⟩)] [(0,1,(S ⟨#[115,101,95,108,119,122]⟩)),(1,1,(.lit (.int .u32 49152))),(2,1,(S ⟨#[89,32,77,52,32,88]⟩))] fun t39=>
 ay [(S ⟨#[]⟩),(.lit (.int .u32 0)),(S ⟨#[]⟩)] [(0,1,(S ⟨#[115,101,95,115,116,119]⟩)),(1,1,(.lit (.int .u32 53248))),(2,1,(S ⟨#[89,32,77,52,32,88]⟩))] fun t40=>
 ay [(S ⟨#[]⟩),(.lit (.int .u32 0)),(S ⟨#[]⟩)] [(0,1,(S ⟨#[115,101,95,98,99]⟩)),(1,1,(.lit (.int .u32 57344))),(2,1,(S ⟨#[79,49,32,73,50,32,84,56]⟩))] fun t41=>
 ay [(S ⟨#[]⟩),(.lit (.int .u32 0)),(S ⟨#[]⟩)] [(0,1,(S ⟨#[115,101,95,98]⟩)),(1,1,(.lit (.int .u32 59392))),(2,1,(S ⟨#[84,56]⟩))] fun t42=>
 ay [(S ⟨#[]⟩),(.lit (.int .u32 0)),(S ⟨#[]⟩)] [(0,1,(S ⟨#[115,101,95,98,108]⟩)),(1,1,(.lit (.int .u32 59648))),(2,1,(S ⟨#[84,56]⟩))] fun t43=>
 ay [(S ⟨#[]⟩),(.lit (.int .u32 0)),(S ⟨#[]⟩)] [(0,1,(S ⟨#[101,95,97,100,100,49,54,105]⟩)),(1,1,(.lit (.int .u32 469762048))),(2,1,(S ⟨#[68,32,65,32,83,49,54]⟩))] fun t44=>
 ay [(S ⟨#[]⟩),(.lit (.int .u32 0)),(S ⟨#[]⟩)] [(0,1,(S ⟨#[101,95,97,100,100,105]⟩)),(1,1,(.lit (.int .u32 402685952))),(2,1,(S ⟨#[68,32,65,32,67,56]⟩))] fun t45=>
 ay [(S ⟨#[]⟩),(.lit (.int .u32 0)),(S ⟨#[]⟩)] [(0,1,(S ⟨#[101,95,97,110,100,105]⟩)),(1,1,(.lit (.int .u32 402702336))),(2,1,(S ⟨#[65,32,68,32,67,56]⟩))] fun t46=>
 ay [(S ⟨#[]⟩),(.lit (.int .u32 0)),(S ⟨#[]⟩)] [(0,1,(S ⟨#[101,95,111,114,105]⟩)),(1,1,(.lit (.int .u32 402706432))),(2,1,(S ⟨#[65,32,68,32,67,56]⟩))] fun t47=>
 ay [(S ⟨#[]⟩),(.lit (.int .u32 0)),(S ⟨#[]⟩)] [(0,1,(S ⟨#[101,95,120,111,114,105]⟩)),(1,1,(.lit (.int .u32 402710528))),(2,1,(S ⟨#[65,32,68,32,67,56]⟩))] fun t48=>
 ay [(S ⟨#[]⟩),(.lit (.int .u32 0)),(S ⟨#[]⟩)] [(0,1,(S ⟨#[101,95,108,105]⟩)),(1,1,(.lit (.int .u32 1879048192))),(2,1,(S ⟨#[68,32,76,50,48]⟩))] fun t49=>
 ay [(S ⟨#[]⟩),(.lit (.int .u32 0)),(S ⟨#[]⟩)] [(0,1,(S ⟨#[101,95,108,98,122]⟩)),(1,1,(.lit (.int .u32 805306368))),(2,1,(S ⟨#[68,32,83,49,54,32,65]⟩))] fun t50=>
 ay [(S ⟨#[]⟩),(.lit (.int .u32 0)),(S ⟨#[]⟩)] [(0,1,(S ⟨#[101,95,115,116,98]⟩)),(1,1,(.lit (.int .u32 872415232))),(2,1,(S ⟨#[68,32,83,49,54,32,65]⟩))] fun t51=>
 ay [(S ⟨#[]⟩),(.lit (.int .u32 0)),(S ⟨#[]⟩)] [(0,1,(S ⟨#[101,95,108,104,97]⟩)),(1,1,(.lit (.int .u32 939524096))),(2,1,(S ⟨#[68,32,83,49,54,32,65]⟩))] fun t52=>
 ay [(S ⟨#[]⟩),(.lit (.int .u32 0)),(S ⟨#[]⟩)] [(0,1,(S ⟨#[101,95,108,119,122]⟩)),(1,1,(.lit (.int .u32 1342177280))),(2,1,(S ⟨#[68,32,83,49,54,32,65]⟩))] fun t53=>
 ay [(S ⟨#[]⟩),(.lit (.int .u32 0)),(S ⟨#[]⟩)] [(0,1,(S ⟨#[101,95,115,116,119]⟩)),(1,1,(.lit (.int .u32 1409286144))),(2,1,(S ⟨#[68,32,83,49,54,32,65]⟩))] fun t54=>
 ay [(S ⟨#[]⟩),(.lit (.int .u32 0)),(S ⟨#[]⟩)] [(0,1,(S ⟨#[101,95,108,104,122]⟩)),(1,1,(.lit (.int .u32 1476395008))),(2,1,(S ⟨#[68,32,83,49,54,32,65]⟩))] fun t55=>
 ay [(S ⟨#[]⟩),(.lit (.int .u32 0)),(S ⟨#[]⟩)] [(0,1,(S ⟨#[101,95,115,116,104]⟩)),(1,1,(.lit (.int .u32 1543503872))),(2,1,(S ⟨#[68,32,83,49,54,32,65]⟩))] fun t56=>
 ay [(S ⟨#[]⟩),(.lit (.int .u32 0)),(S ⟨#[]⟩)] [(0,1,(S ⟨#[101,95,98]⟩)),(1,1,(.lit (.int .u32 2013265920))),(2,1,(S ⟨#[84,50,52]⟩))] fun t57=>
 ay [(S ⟨#[]⟩),(.lit (.int .u32 0)),(S ⟨#[]⟩)] [(0,1,(S ⟨#[101,95,98,108]⟩)),(1,1,(.lit (.int .u32 2013265921))),(2,1,(S ⟨#[84,50,52]⟩))] fun t58=>
 ay [(S ⟨#[]⟩),(.lit (.int .u32 0)),(S ⟨#[]⟩)] [(0,1,(S ⟨#[101,95,98,99]⟩)),(1,1,(.lit (.int .u32 2046820352))),(2,1,(S ⟨#[79,50,32,73,52,32,84,49,53]⟩))] fun t59=>
 ay [(S ⟨#[]⟩),(.lit (.int .u32 0)),(S ⟨#[]⟩)] [(0,1,(S ⟨#[101,95,98,99,108]⟩)),(1,1,(.lit (.int .u32 2046820353))),(2,1,(S ⟨#[79,50,32,73,52,32,84,49,53]⟩))] fun t60=>
 ay [(S ⟨#[]⟩),(.lit (.int .u32 0)),(S ⟨#[]⟩)] [(0,1,(S ⟨#[97,100,100]⟩)),(1,1,(.lit (.int .u32 2080375316))),(2,1,(S ⟨#[68,32,65,32,66]⟩))] fun t61=>
 ay [(S ⟨#[]⟩),(.lit (.int .u32 0)),(S ⟨#[]⟩)] [(0,1,(S ⟨#[115,117,98,102]⟩)),(1,1,(.lit (.int .u32 2080374864))),(2,1,(S ⟨#[68,32,65,32,66]⟩))] fun t62=>
 ay [(S ⟨#[]⟩),(.lit (.int .u32 0)),(S ⟨#[]⟩)] [(0,1,(S ⟨#[109,117,108,108,119]⟩)),(1,1,(.lit (.int .u32 2080375254))),(2,1,(S ⟨#[68,32,65,32,66]⟩))] fun t63=>
 ay [(S ⟨#[]⟩),(.lit (.int .u32 0)),(S ⟨#[]⟩)] [(0,1,(S ⟨#[97,110,100]⟩)),(1,1,(.lit (.int .u32 2080374840))),(2,1,(S ⟨#[65,32,68,32,66]⟩))] fun t64=>
 ay [(S ⟨#[]⟩),(.lit (.int .u32 0)),(S ⟨#[]⟩)] [(0,1,(S ⟨#[111,114]⟩)),(1,1,(.lit (.int .u32 2080375672))),(2,1,(S ⟨#[65,32,68,32,66]⟩))] fun t65=>
 ay [(S ⟨#[]⟩),(.lit (.int .u32 0)),(S ⟨#[]⟩)] [(0,1,(S ⟨#[120,111,114]⟩)),(1,1,(.lit (.int .u32 2080375416))),(2,1,(S ⟨#[65,32,68,32,66]⟩))] fun t66=>
 ao 66 3 [t1,t2,t3,t4,t5,t6,t7,t8,t9,t10,t11,t12,t13,t14,t15,t16,t17,t18,t19,t20,t21,t22,t23,t24,t25,t26,t27,t28,t29,t30,t31,t32,t33,t34,t35,t36,t37,t38,t39,t40,t41,t42,t43,t44,t45,t46,t47,t48,t49,t50,t51,t52,t53,t54,t55,t56,t57,t58,t59,t60,t61,t62,t63,t64,t65,t66] fun t67=>
 Q t67 h
theorem MY (h:ae) (Q:QT) (k:Kc  h Q):C jU [] h Q:=
 okF (pl:=[]) Tryz.func197 Tryz.ntmps197 (by kernel_rfl) rfl (by kernel_rfl) k
def uq (a0:AV) (h:ae) (Q:QT):Prop:=
 ai .eql a0 (S ⟨#[84,56]⟩) fun t5=>
 ifB t5 (
 Q (I 9) h) (
 ai .eql a0 (S ⟨#[84,50,52]⟩) fun t7=>
 ifB t7 (
 Q (I 25) h) (
 Q (I 16) h))
theorem oT (a0:AV) (h:ae) (Q:QT) (k:uq a0 h Q):C xZ [a0] h Q:=
 okF (pl:=[]) Tryz.func218 Tryz.ntmps218 (by kernel_rfl) rfl (by kernel_rfl) k
def en (a0:AV) (h:ae) (Q:QT):Prop:=
 jW .eql a0 fun t4=>
 ifB t4 (
 Q (.full 0 []) h) (
 ao 0 5 [] fun t5=>
 bg 5 64 t5 a0 h fun t7 h0=>
 Q t7 h0)
theorem fU (a0:AV) (h:ae) (Q:QT) (k:en a0 h Q):C dJ [a0] h Q:=
 okF (pl:=[]) Tryz.func113 Tryz.ntmps113 (by kernel_rfl) rfl (by kernel_rfl) k
def dR (a0:AV) (h:ae) (Q:QT):Prop:=
 jW .eql a0 fun t4=>
 ifB t4 (
 Q (.full 0 []) h) (
 ao 0 3 [] fun t5=>
 bg 3 32 t5 a0 h fun t7 h0=>
 Q t7 h0)
theorem fq (a0:AV) (h:ae) (Q:QT) (k:dR a0 h Q):C c9 [a0] h Q:=
 okF (pl:=[]) Tryz.func47 Tryz.ntmps47 (by kernel_rfl) rfl (by kernel_rfl) k
def dS (a0:AV) (h:ae) (Q:QT):Prop:=
 jW .eql a0 fun t4=>
 ifB t4 (
 Q (.full 0 []) h) (
 ao 0 2 [] fun t5=>
 bg 2 32 t5 a0 h fun t7 h0=>
 Q t7 h0)
theorem fg (a0:AV) (h:ae) (Q:QT) (k:dS a0 h Q):C dk [a0] h Q:=
 okF (pl:=[]) Tryz.func53 Tryz.ntmps53 (by kernel_rfl) rfl (by kernel_rfl) k
def dQ (a0:AV) (h:ae) (Q:QT):Prop:=
 jW .eql a0 fun t4=>
 ifB t4 (
 Q (.full 0 []) h) (
 ao 0 6 [] fun t5=>
 bg 6 80 t5 a0 h fun t7 h0=>
 Q t7 h0)
theorem fm (a0:AV) (h:ae) (Q:QT) (k:dQ a0 h Q):C dh [a0] h Q:=
 okF (pl:=[]) Tryz.func80 Tryz.ntmps80 (by kernel_rfl) rfl (by kernel_rfl) k
def eo (a0:AV) (h:ae) (Q:QT):Prop:=
 jW .eql a0 fun t4=>
 ifB t4 (
 Q (.full 0 []) h) (
 ao 0 2 [] fun t5=>
 bg 2 24 t5 a0 h fun t7 h0=>
 Q t7 h0)
theorem fV (a0:AV) (h:ae) (Q:QT) (k:eo a0 h Q):C dG [a0] h Q:=
 okF (pl:=[]) Tryz.func55 Tryz.ntmps55 (by kernel_rfl) rfl (by kernel_rfl) k
def gO (a0:AV) (h:ae) (Q:QT):Prop:=
 jW .eql a0 fun t4=>
 ifB t4 (
 Q (.full 0 []) h) (
 ao 0 1 [] fun t5=>
 bg 1 1 t5 a0 h fun t7 h0=>
 Q t7 h0)
theorem jJ (a0:AV) (h:ae) (Q:QT) (k:gO a0 h Q):C dw [a0] h Q:=
 okF (pl:=[]) Tryz.func49 Tryz.ntmps49 (by kernel_rfl) rfl (by kernel_rfl) k
def iV (a0:AV) (h:ae) (Q:QT):Prop:=
 jW .eql a0 fun t4=>
 ifB t4 (
 Q (.full 0 []) h) (
 ao 0 1 [] fun t5=>
 bg 1 8 t5 a0 h fun t7 h0=>
 Q t7 h0)
theorem ll (a0:AV) (h:ae) (Q:QT) (k:iV a0 h Q):C gm [a0] h Q:=
 okF (pl:=[]) Tryz.func81 Tryz.ntmps81 (by kernel_rfl) rfl (by kernel_rfl) k
def eT (a0:AV) (h:ae) (Q:QT):Prop:=
 jW .eql a0 fun t4=>
 ifB t4 (
 Q (.full 0 []) h) (
 ao 0 1 [] fun t5=>
 bg 1 16 t5 a0 h fun t7 h0=>
 Q t7 h0)
theorem gP (a0:AV) (h:ae) (Q:QT) (k:eT a0 h Q):C d4 [a0] h Q:=
 okF (pl:=[]) Tryz.func39 Tryz.ntmps39 (by kernel_rfl) rfl (by kernel_rfl) k
def ee (a0 a1:AV) (h:ae) (Q:QT):Prop:=
 C cL [a0,a1] h fun t7 h0=>
 ai .geq t7 (I 0) fun t8=>
 Q t8 h0
theorem iO (a0 a1:AV) (h:ae) (Q:QT) (k:ee a0 a1 h Q):C bL [a0,a1] h Q:=
 okF (pl:=[]) Tryz.func157 Tryz.ntmps157 (by kernel_rfl) rfl (by kernel_rfl) k
def dV (a0 a1:AV) (h:ae) (Q:QT):Prop:=
 C cw [a0,a1] h fun t7 h0=>
 ai .geq t7 (I 0) fun t8=>
 Q t8 h0
theorem ia (a0 a1:AV) (h:ae) (Q:QT) (k:dV a0 a1 h Q):C cd [a0,a1] h Q:=
 okF (pl:=[]) Tryz.func209 Tryz.ntmps209 (by kernel_rfl) rfl (by kernel_rfl) k
def lp (a0 a1:AV) (h:ae) (Q:QT):Prop:=
 C gp [a0,a1] h fun t7 h0=>
 ai .geq t7 (I 0) fun t8=>
 Q t8 h0
theorem pU (a0 a1:AV) (h:ae) (Q:QT) (k:lp a0 a1 h Q):C be [a0,a1] h Q:=
 okF (pl:=[]) Tryz.func117 Tryz.ntmps117 (by kernel_rfl) rfl (by kernel_rfl) k
def g7 (a0 a1:AV) (h:ae) (Q:QT):Prop:=
 C bK [a0,a1] h fun t7 h0=>
 ai .geq t7 (I 0) fun t8=>
 Q t8 h0
theorem l9 (a0 a1:AV) (h:ae) (Q:QT) (k:g7 a0 a1 h Q):C dn [a0,a1] h Q:=
 okF (pl:=[]) Tryz.func66 Tryz.ntmps66 (by kernel_rfl) rfl (by kernel_rfl) k
def em (s7 s0 s1:AV) (Q:QT) (vs0:List AV) (h:ae) (next0:NT):Prop:=
 ai .lss (aq vs0 1) s7 fun t9=>
 ifB t9 (
 an 4 s0 (aq vs0 1) fun t14=>
 ap 4 t14 h fun t15=>
 CV s1 [t15] h fun t16 h1=>
 ifB t16 (
 Q (aq vs0 1) h1) (
 ai .add (aq vs0 1) (I 1) fun t18=>
 next0 [(aq vs0 0),t18] h1)) (
 Q (I (-1)) h)
def fb (a0 a1:AV) (h:ae) (Q:QT):Prop:=
 aX a0 fun t7=>
 cc [(I 0),(I 0)] h fun vs0 h next0=>em t7 a0 a1 Q vs0 h next0
theorem jv (a0 a1:AV) (h:ae) (Q:QT) (k:fb a0 a1 h Q):C cL [a0,a1] h Q:=
 okF (pl:=[(3,[4,5,8,9,10,11,12,13,14,15,16,17,18],[4,8])]) Tryz.func207 Tryz.ntmps207 (by kernel_rfl) rfl (by kernel_rfl) k
def eL (s7 s0 s1:AV) (Q:QT) (vs0:List AV) (h:ae) (next0:NT):Prop:=
 ai .lss (aq vs0 1) s7 fun t9=>
 ifB t9 (
 an 2 s0 (aq vs0 1) fun t14=>
 ap 2 t14 h fun t15=>
 CV s1 [t15] h fun t16 h1=>
 ifB t16 (
 Q (aq vs0 1) h1) (
 ai .add (aq vs0 1) (I 1) fun t18=>
 next0 [(aq vs0 0),t18] h1)) (
 Q (I (-1)) h)
def fJ (a0 a1:AV) (h:ae) (Q:QT):Prop:=
 aX a0 fun t7=>
 cc [(I 0),(I 0)] h fun vs0 h next0=>eL t7 a0 a1 Q vs0 h next0
theorem kS (a0 a1:AV) (h:ae) (Q:QT) (k:fJ a0 a1 h Q):C cR [a0,a1] h Q:=
 okF (pl:=[(3,[4,5,8,9,10,11,12,13,14,15,16,17,18],[4,8])]) Tryz.func204 Tryz.ntmps204 (by kernel_rfl) rfl (by kernel_rfl) k
def dY (s7 s0 s1:AV) (Q:QT) (vs0:List AV) (h:ae) (next0:NT):Prop:=
 ai .lss (aq vs0 1) s7 fun t9=>
 ifB t9 (
 an 1 s0 (aq vs0 1) fun t14=>
 af t14 h fun t15=>
 CV s1 [t15] h fun t16 h1=>
 ifB t16 (
 Q (aq vs0 1) h1) (
 ai .add (aq vs0 1) (I 1) fun t18=>
 next0 [(aq vs0 0),t18] h1)) (
 Q (I (-1)) h)
def eA (a0 a1:AV) (h:ae) (Q:QT):Prop:=
 aX a0 fun t7=>
 cc [(I 0),(I 0)] h fun vs0 h next0=>dY t7 a0 a1 Q vs0 h next0
theorem iU (a0 a1:AV) (h:ae) (Q:QT) (k:eA a0 a1 h Q):C cw [a0,a1] h Q:=
 okF (pl:=[(3,[4,5,8,9,10,11,12,13,14,15,16,17,18],[4,8])]) Tryz.func241 Tryz.ntmps241 (by kernel_rfl) rfl (by kernel_rfl) k
def eK (s7 s0 s1:AV) (Q:QT) (vs0:List AV) (h:ae) (next0:NT):Prop:=
 ai .lss (aq vs0 1) s7 fun t9=>
 ifB t9 (
 an 3 s0 (aq vs0 1) fun t14=>
 ap 3 t14 h fun t15=>
 CV s1 [t15] h fun t16 h1=>
 ifB t16 (
 Q (aq vs0 1) h1) (
 ai .add (aq vs0 1) (I 1) fun t18=>
 next0 [(aq vs0 0),t18] h1)) (
 Q (I (-1)) h)
def fH (a0 a1:AV) (h:ae) (Q:QT):Prop:=
 aX a0 fun t7=>
 cc [(I 0),(I 0)] h fun vs0 h next0=>eK t7 a0 a1 Q vs0 h next0
theorem kQ (a0 a1:AV) (h:ae) (Q:QT) (k:fH a0 a1 h Q):C cP [a0,a1] h Q:=
 okF (pl:=[(3,[4,5,8,9,10,11,12,13,14,15,16,17,18],[4,8])]) Tryz.func196 Tryz.ntmps196 (by kernel_rfl) rfl (by kernel_rfl) k
def k8 (s7 s0 s1:AV) (Q:QT) (vs0:List AV) (h:ae) (next0:NT):Prop:=
 ai .lss (aq vs0 1) s7 fun t9=>
 ifB t9 (
 an 1 s0 (aq vs0 1) fun t14=>
 af t14 h fun t15=>
 ai .eql s1 t15 fun t16=>
 ifB t16 (
 Q (aq vs0 1) h) (
 ai .add (aq vs0 1) (I 1) fun t18=>
 next0 [(aq vs0 0),t18] h)) (
 Q (I (-1)) h)
def ny (a0 a1:AV) (h:ae) (Q:QT):Prop:=
 aX a0 fun t7=>
 cc [(I 0),(I 0)] h fun vs0 h next0=>k8 t7 a0 a1 Q vs0 h next0
theorem tC (a0 a1:AV) (h:ae) (Q:QT) (k:ny a0 a1 h Q):C gp [a0,a1] h Q:=
 okF (pl:=[(3,[4,5,8,9,10,11,12,13,14,15,16,17,18],[4,8])]) Tryz.func156 Tryz.ntmps156 (by kernel_rfl) rfl (by kernel_rfl) k
def hZ (s7 s0 s1:AV) (Q:QT) (vs0:List AV) (h:ae) (next0:NT):Prop:=
 ai .lss (aq vs0 1) s7 fun t9=>
 ifB t9 (
 an 1 s0 (aq vs0 1) fun t14=>
 af t14 h fun t15=>
 ai .eql s1 t15 fun t16=>
 ifB t16 (
 Q (aq vs0 1) h) (
 ai .add (aq vs0 1) (I 1) fun t18=>
 next0 [(aq vs0 0),t18] h)) (
 Q (I (-1)) h)
def i9 (a0 a1:AV) (h:ae) (Q:QT):Prop:=
 aX a0 fun t7=>
 cc [(I 0),(I 0)] h fun vs0 h next0=>hZ t7 a0 a1 Q vs0 h next0
theorem od (a0 a1:AV) (h:ae) (Q:QT) (k:i9 a0 a1 h Q):C bK [a0,a1] h Q:=
 okF (pl:=[(3,[4,5,8,9,10,11,12,13,14,15,16,17,18],[4,8])]) Tryz.func98 Tryz.ntmps98 (by kernel_rfl) rfl (by kernel_rfl) k
def mN (s0:AV) (Q:QT) (vs0:List AV) (h:ae) (next0:NT):Prop:=
 aX s0 fun t14=>
 ai .lss (aq vs0 1) t14 fun t15=>
 ifB t15 (
 an 1 s0 (aq vs0 1) fun t21=>
 af t21 h fun t22=>
 CQ (aq vs0 0) t22 fun t23=>
 ai .add (aq vs0 1) (I 1) fun t17=>
 next0 [t23,t17] h) (
 Q (aq vs0 0) h)
def m4 (s0:AV) (h:ae) (Q:QT):Prop:=
 an 1 s0 (I 0) fun t10=>
 af t10 h fun t11=>
 cc [t11,(I 1)] h fun vs0 h next0=>mN s0 Q vs0 h next0
def pP (a0:AV) (h:ae) (Q:QT):Prop:=
 aX a0 fun t6=>
 ai .lss t6 (I 1) fun t7=>
 ifB t7 (
 xj 9 (S ⟨#[115,108,105,99,101,115,46,77,97,120,58,32,101,109,112,116,121,32,108,105,115,116]⟩) fun t8=>
 False) (
 m4 a0 h Q)
theorem uF (a0:AV) (h:ae) (Q:QT) (k:pP a0 h Q):C iA [a0] h Q:=
 okF (pl:=[(6,[3,4,12,13,14,15,16,17,18,19,20,21,22,23],[3,4])]) Tryz.func163 Tryz.ntmps163 (by kernel_rfl) rfl (by kernel_rfl) k
def ni (s0:AV) (Q:QT) (vs0:List AV) (h:ae) (next0:NT):Prop:=
 aX s0 fun t14=>
 ai .lss (aq vs0 1) t14 fun t15=>
 ifB t15 (
 an 1 s0 (aq vs0 1) fun t21=>
 af t21 h fun t22=>
 GD (aq vs0 0) t22 fun t23=>
 ai .add (aq vs0 1) (I 1) fun t17=>
 next0 [t23,t17] h) (
 Q (aq vs0 0) h)
def md (s0:AV) (h:ae) (Q:QT):Prop:=
 an 1 s0 (I 0) fun t10=>
 af t10 h fun t11=>
 cc [t11,(I 1)] h fun vs0 h next0=>ni s0 Q vs0 h next0
def pM (a0:AV) (h:ae) (Q:QT):Prop:=
 aX a0 fun t6=>
 ai .lss t6 (I 1) fun t7=>
 ifB t7 (
 xj 9 (S ⟨#[115,108,105,99,101,115,46,77,105,110,58,32,101,109,112,116,121,32,108,105,115,116]⟩) fun t8=>
 False) (
 md a0 h Q)
theorem uH (a0:AV) (h:ae) (Q:QT) (k:pM a0 h Q):C ik [a0] h Q:=
 okF (pl:=[(6,[3,4,12,13,14,15,16,17,18,19,20,21,22,23],[3,4])]) Tryz.func162 Tryz.ntmps162 (by kernel_rfl) rfl (by kernel_rfl) k
def tM (a0 a1:AV) (h:ae) (Q:QT):Prop:=
 C jQ [a0,a1] h fun t7 h0=>
 ai .geq t7 (I 0) fun t8=>
 Q t8 h0
theorem y2 (a0 a1:AV) (h:ae) (Q:QT) (k:tM a0 a1 h Q):C kH [a0,a1] h Q:=
 okF (pl:=[]) Tryz.func199 Tryz.ntmps199 (by kernel_rfl) rfl (by kernel_rfl) k
def DQ (s1:AV) (Q:QT) (vs1:List AV) (h:ae) (next1:NT):Prop:=
 C jQ [(aq vs1 0),s1] h fun t22 h2=>
 ai .eql t22 (I (-1)) fun t24=>
 ifB t24 (
 Q (aq vs1 2) h2) (
 ai .add (aq vs1 2) (I 1) fun t27=>
 bJ s1 fun t31=>
 ai .add t22 t31 fun t32=>
 bl (aq vs1 0) (some t32) none fun t33=>
 next1 [t33,(aq vs1 1),t27] h2)
def Ae (a0 a1:AV) (h:ae) (Q:QT):Prop:=
 bJ a1 fun t8=>
 ai .eql t8 (I 0) fun t9=>
 ifB t9 (
 C ma [a0] h fun t11 h0=>
 ai .add t11 (I 1) fun t12=>
 Q t12 h0) (
 bJ a1 fun t14=>
 ai .eql t14 (I 1) fun t15=>
 ifB t15 (
 bj a1 (I 0) fun t18=>
 YU .count [a0,t18] fun t19=>
 Q t19 h) (
 cc [a0,(I 0),(I 0)] h fun vs1 h next1=>DQ a1 Q vs1 h next1))
theorem D4 (a0 a1:AV) (h:ae) (Q:QT) (k:Ae a0 a1 h Q):C tU [a0,a1] h Q:=
 okF (pl:=[(7,[0,4,5,6,20,21,22,23,24,25,26,27,28,29,30,31,32,33],[0,4,5])]) Tryz.func136 Tryz.ntmps136 (by kernel_rfl) rfl (by kernel_rfl) k
def rE (a0 a1:AV) (h:ae) (Q:QT):Prop:=
 C lg [a0,a1] h fun t7 h0=>
 Q t7 h0
theorem xL (a0 a1:AV) (h:ae) (Q:QT) (k:rE a0 a1 h Q):C gc [a0,a1] h Q:=
 okF (pl:=[]) Tryz.func266 Tryz.ntmps266 (by kernel_rfl) rfl (by kernel_rfl) k
def rF (a0 a1:AV) (h:ae) (Q:QT):Prop:=
 C k9 [a0,a1] h fun t7 h0=>
 Q t7 h0
theorem wR (a0 a1:AV) (h:ae) (Q:QT) (k:rF a0 a1 h Q):C jy [a0,a1] h Q:=
 okF (pl:=[]) Tryz.func108 Tryz.ntmps108 (by kernel_rfl) rfl (by kernel_rfl) k
def zX (a0 a1:AV) (h:ae) (Q:QT):Prop:=
 C pz [a0,a1,(I 0),(I (-1))] h fun t7 h0=>
 Q t7 h0
theorem Dm (a0 a1:AV) (h:ae) (Q:QT) (k:zX a0 a1 h Q):C gQ [a0,a1] h Q:=
 okF (pl:=[]) Tryz.func78 Tryz.ntmps78 (by kernel_rfl) rfl (by kernel_rfl) k
def B2 (a0 a1:AV) (h:ae) (Q:QT):Prop:=
 ai .eql a0 (S ⟨#[]⟩) fun t8=>
 ifB t8 (Q a0 h) (
 ai .eql a1 (S ⟨#[]⟩) fun t11=>
 ifB t11 (
 Q a0 h) (
 bJ a1 fun t15=>
 ai .eql t15 (I 1) fun t16=>
 ifB t16 (bj a1 (I 0) fun t19=>
 ai .lss t19 (.lit (.int .u8 128)) fun t20=>
 ifB t20 (
 bj a1 (I 0) fun t24=>
 bj a1 (I 0) fun t27=>
 C sW [a0,t24] h fun t25 h0=>
 C eB [t25,t27] h0 fun t28 h1=>
 Q t28 h1) (
 C cE [a1] h fun t31 h2=>
 am 0 t31 fun t32=>
 am 1 t31 fun t33=>
 cu (List.replicate 256 (B false)) h2 fun t5 h3=>
 ak 256 t5 t32 h3 fun h4=>
 ifB t33 (
 C dU [a0,t5] h4 fun t36 h5=>
 C cm [t36,t5] h5 fun t37 h6=>
 Q t37 h6) (
 C iZ [a0,a1] h4 fun t40 h7=>
 C dH [t40,a1] h7 fun t42 h8=>
 Q t42 h8))) (
 C cE [a1] h fun t31 h9=>
 am 0 t31 fun t32=>
 am 1 t31 fun t33=>
 cu (List.replicate 256 (B false)) h9 fun t5 h10=>
 ak 256 t5 t32 h10 fun h11=>
 ifB t33 (
 C dU [a0,t5] h11 fun t36 h12=>
 C cm [t36,t5] h12 fun t37 h13=>
 Q t37 h13) (
 C iZ [a0,a1] h11 fun t40 h14=>
 C dH [t40,a1] h14 fun t42 h15=>
 Q t42 h15))))
theorem Fi (a0 a1:AV) (h:ae) (Q:QT) (k:B2 a0 a1 h Q):C fO [a0,a1] h Q:=
 okF (pl:=[(1000004,[0,1,2,4,5,3,6,7],[])]) Tryz.func110 Tryz.ntmps110 (by kernel_rfl) rfl (by kernel_rfl) k
def uv (a0 a1:AV) (h:ae) (Q:QT):Prop:=
 ai .eql a0 (S ⟨#[]⟩) fun t8=>
 ifB t8 (Q a0 h) (
 ai .eql a1 (S ⟨#[]⟩) fun t11=>
 ifB t11 (
 Q a0 h) (
 bJ a1 fun t15=>
 ai .eql t15 (I 1) fun t16=>
 ifB t16 (bj a1 (I 0) fun t19=>
 ai .lss t19 (.lit (.int .u8 128)) fun t20=>
 ifB t20 (
 bj a1 (I 0) fun t24=>
 C eB [a0,t24] h fun t25 h0=>
 Q t25 h0) (
 C cE [a1] h fun t28 h1=>
 am 0 t28 fun t29=>
 am 1 t28 fun t30=>
 cu (List.replicate 256 (B false)) h1 fun t5 h2=>
 ak 256 t5 t29 h2 fun h3=>
 ifB t30 (
 C cm [a0,t5] h3 fun t33 h4=>
 Q t33 h4) (
 C dH [a0,a1] h3 fun t36 h5=>
 Q t36 h5))) (
 C cE [a1] h fun t28 h6=>
 am 0 t28 fun t29=>
 am 1 t28 fun t30=>
 cu (List.replicate 256 (B false)) h6 fun t5 h7=>
 ak 256 t5 t29 h7 fun h8=>
 ifB t30 (
 C cm [a0,t5] h8 fun t33 h9=>
 Q t33 h9) (
 C dH [a0,a1] h8 fun t36 h10=>
 Q t36 h10))))
theorem yY (a0 a1:AV) (h:ae) (Q:QT) (k:uv a0 a1 h Q):C kG [a0,a1] h Q:=
 okF (pl:=[]) Tryz.func256 Tryz.ntmps256 (by kernel_rfl) rfl (by kernel_rfl) k
def kE (a0 a1:AV) (h:ae) (Q:QT):Prop:=
 aE a0 fun t7=>
 cg 256 1 t7 a1 fun t8=>
 af t8 h fun t9=>
 Q t9 h
theorem ph (a0 a1:AV) (h:ae) (Q:QT) (k:kE a0 a1 h Q):C c5 [a0,a1] h Q:=
 okF (pl:=[]) Tryz.func193 Tryz.ntmps193 (by kernel_rfl) rfl (by kernel_rfl) k
def pJ (s0 s10 s9:AV) (h:ae) (Q:QT):Prop:=
 an 1 s9 s10 fun t61=>
 ak 1 t61 s0 h fun h5=>
 ai .add s10 (I 1) fun t64=>
 lu 1 s9 none (some t64) fun t65=>
 Q t65 h5
def gB (s0 s10 s9:AV) (h:ae) (Q:QT):Prop:=
 pJ s0 s10 s9 h Q
def pQ (s3 s9 s1 s2:AV) (Q:QT) (vs3:List AV) (h:ae) (next3:NT):Prop:=
 ai .lss (aq vs3 1) s3 fun t36=>
 ifB t36 (
 C jQ [(aq vs3 0),s1] h fun t39 h4=>
 ai .lss t39 (I 0) fun t41=>
 ifB t41 (
 gB (aq vs3 0) (aq vs3 1) s9 h4 Q) (
 ai .add t39 s2 fun t47=>
 bl (aq vs3 0) none (some t47) fun t48=>
 an 1 s9 (aq vs3 1) fun t49=>
 ak 1 t49 t48 h4 fun h8=>
 bJ s1 fun t53=>
 ai .add t39 t53 fun t54=>
 bl (aq vs3 0) (some t54) none fun t55=>
 ai .add (aq vs3 1) (I 1) fun t57=>
 next3 [t55,t57] h8)) (
 gB (aq vs3 0) (aq vs3 1) s9 h Q)
def oE (s3 s0 s1 s2:AV) (h:ae) (Q:QT):Prop:=
 bJ s0 fun t27=>
 ai .add t27 (I 1) fun t28=>
 GD s3 t28 fun t29=>
 lD 16 (S ⟨#[]⟩) t29 t29 h fun t31 h2=>
 ai .sub t29 (I 1) fun t33=>
 cc [s0,(I 0)] h2 fun vs3 h next3=>pQ t33 t31 s1 s2 Q vs3 h next3
def tV (a0 a1 a2 a3:AV) (h:ae) (Q:QT):Prop:=
 ai .eql a3 (I 0) fun t13=>
 ifB t13 (
 Q (.full 0 []) h) (
 ai .eql a1 (S ⟨#[]⟩) fun t15=>
 ifB t15 (
 C A6 [a0,a3] h fun t18 h0=>
 Q t18 h0) (
 ai .lss a3 (I 0) fun t20=>
 ifB t20 (
 C tU [a0,a1] h fun t23 h1=>
 ai .add t23 (I 1) fun t24=>
 oE t24 a0 a1 a2 h1 Q) (
 oE a3 a0 a1 a2 h Q)))
theorem yZ (a0 a1 a2 a3:AV) (h:ae) (Q:QT) (k:tV a0 a1 a2 a3 h Q):C pz [a0,a1,a2,a3] h Q:=
 okF (pl:=[(12,[0,10,11,34,35,36,37,38,39,40,41,42,43,44,45,46,47,48,49,50,51,52,53,54,55,56,57],[0,10])]) Tryz.func107 Tryz.ntmps107 (by kernel_rfl) rfl (by kernel_rfl) k
def lQ (s2 s0:AV) (Q:QT) (vs1:List AV) (h:ae) (next1:NT):Prop:=
 bJ s0 fun t8=>
 ai .lss (aq vs1 1) t8 fun t9=>
 ifB t9 (
 bj s0 (aq vs1 1) fun t14=>
 ai .geq t14 (.lit (.int .u8 128)) fun t16=>
 ifB t16 (
 ap 256 s2 h fun t17=>
 ak 256 s2 t17 h fun h2=>
 ap 256 s2 h2 fun r3=>
 Q (.tup [r3,(B false)]) h2) (
 cg 256 1 s2 t14 fun t19=>
 ak 1 t19 (B true) h fun h4=>
 ai .add (aq vs1 1) (I 1) fun t11=>
 next1 [(aq vs1 0),t11] h4)) (
 ap 256 s2 h fun t20=>
 ak 256 s2 t20 h fun h5=>
 ap 256 s2 h5 fun r6=>
 Q (.tup [r6,(B true)]) h5)
def o8 (a0:AV) (h:ae) (Q:QT):Prop:=
 cu (List.replicate 256 (B false)) h fun t2 h0=>
 cc [(B false),(I 0)] h0 fun vs1 h next1=>lQ t2 a0 Q vs1 h next1
theorem tT (a0:AV) (h:ae) (Q:QT) (k:o8 a0 h Q):C cE [a0] h Q:=
 okF (pl:=[(3,[3,4,5,6,7,8,9,10,11,12,13,14,15,16,17,18,19],[3,4])]) Tryz.func141 Tryz.ntmps141 (by kernel_rfl) rfl (by kernel_rfl) k
def kW (s0:AV) (h:ae) (Q:QT):Prop:=
 Q s0 h
def gw (s0:AV) (h:ae) (Q:QT):Prop:=
 kW s0 h Q
def lr (s1:AV) (Q:QT) (vs0:List AV) (h:ae) (next0:NT):Prop:=
 bJ (aq vs0 0) fun t6=>
 ai .gtr t6 (I 0) fun t7=>
 ifB t7 (
 bj (aq vs0 0) (I 0) fun t10=>
 C c5 [s1,t10] h fun t11 h1=>
 qUn .not t11 fun t12=>
 ifB t12 (
 gw (aq vs0 0) h1 Q) (
 bl (aq vs0 0) (some (I 1)) none fun t14=>
 next0 [t14] h1)) (
 gw (aq vs0 0) h Q)
def np (a0 a1:AV) (h:ae) (Q:QT):Prop:=
 cc [a0] h fun vs0 h next0=>lr a1 Q vs0 h next0
theorem sN (a0 a1:AV) (h:ae) (Q:QT) (k:np a0 a1 h Q):C cm [a0,a1] h Q:=
 okF (pl:=[(2,[0,5,6,7,8,9,10,11,12,13,14],[0])]) Tryz.func142 Tryz.ntmps142 (by kernel_rfl) rfl (by kernel_rfl) k
def lY (s1:AV) (Q:QT) (vs0:List AV) (h:ae) (next0:NT):Prop:=
 bJ (aq vs0 0) fun t6=>
 ai .gtr t6 (I 0) fun t7=>
 ifB t7 (bj (aq vs0 0) (I 0) fun t10=>
 ai .eql t10 s1 fun t12=>
 ifB t12 (
 bl (aq vs0 0) (some (I 1)) none fun t15=>
 next0 [t15] h) (
 Q (aq vs0 0) h)) (
 Q (aq vs0 0) h)
def oZ (a0 a1:AV) (h:ae) (Q:QT):Prop:=
 cc [a0] h fun vs0 h next0=>lY a1 Q vs0 h next0
theorem um (a0 a1:AV) (h:ae) (Q:QT) (k:oZ a0 a1 h Q):C eB [a0,a1] h Q:=
 okF (pl:=[(2,[0,5,6,7,8,9,10,11,12,13,14,15],[0])]) Tryz.func139 Tryz.ntmps139 (by kernel_rfl) rfl (by kernel_rfl) k
def kC (s0:AV) (h:ae) (Q:QT):Prop:=
 Q s0 h
def fM (s0:AV) (h:ae) (Q:QT):Prop:=
 kC s0 h Q
def kA (s1:AV) (Q:QT) (vs0:List AV) (h:ae) (next0:NT):Prop:=
 bJ (aq vs0 0) fun t6=>
 ai .gtr t6 (I 0) fun t7=>
 ifB t7 (
 bJ (aq vs0 0) fun t11=>
 ai .sub t11 (I 1) fun t12=>
 bj (aq vs0 0) t12 fun t13=>
 C c5 [s1,t13] h fun t14 h1=>
 qUn .not t14 fun t15=>
 ifB t15 (
 fM (aq vs0 0) h1 Q) (
 bJ (aq vs0 0) fun t18=>
 ai .sub t18 (I 1) fun t19=>
 bl (aq vs0 0) none (some t19) fun t20=>
 next0 [t20] h1)) (
 fM (aq vs0 0) h Q)
def mi (a0 a1:AV) (h:ae) (Q:QT):Prop:=
 cc [a0] h fun vs0 h next0=>kA a1 Q vs0 h next0
theorem rm (a0 a1:AV) (h:ae) (Q:QT) (k:mi a0 a1 h Q):C dU [a0,a1] h Q:=
 okF (pl:=[(2,[0,5,6,7,8,9,10,11,12,13,14,15,16,17,18,19,20],[0])]) Tryz.func143 Tryz.ntmps143 (by kernel_rfl) rfl (by kernel_rfl) k
def nz (a0 a1:AV) (h:ae) (Q:QT):Prop:=
 bJ a0 fun t6=>
 bJ a1 fun t8=>
 ai .geq t6 t8 fun t9=>
 ifB t9 (bJ a1 fun t13=>
 bl a0 none (some t13) fun t14=>
 ai .eql t14 a1 fun t16=>
 Q t16 h) (
 Q (B false) h)
theorem sM (a0 a1:AV) (h:ae) (Q:QT) (k:nz a0 a1 h Q):C lg [a0,a1] h Q:=
 okF (pl:=[]) Tryz.func289 Tryz.ntmps289 (by kernel_rfl) rfl (by kernel_rfl) k
def nA (a0 a1:AV) (h:ae) (Q:QT):Prop:=
 YU .index [a0,a1] fun t7=>
 Q t7 h
theorem th (a0 a1:AV) (h:ae) (Q:QT) (k:nA a0 a1 h Q):C k9 [a0,a1] h Q:=
 okF (pl:=[]) Tryz.func138 Tryz.ntmps138 (by kernel_rfl) rfl (by kernel_rfl) k
