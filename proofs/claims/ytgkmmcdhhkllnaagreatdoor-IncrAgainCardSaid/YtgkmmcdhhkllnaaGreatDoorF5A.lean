import Derived.Test.YtgkmmcdhhkllnaaGreatDoorAM4toAM6
import Derived.Test.YtgkmmcdhhkllnaaGreatDoorAL33
import Derived.Test.YtgkmmcdhhkllnaaGreatDoorProg
import Derived.KernelRfl
set_option linter.all false
set_option autoImplicit true
set_option relaxedAutoImplicit true
set_option maxRecDepth 100000
namespace Go.Proofs.YtgkmmcdhhkllnaaGreatDoor.AL
noncomputable section
open Go.Proofs
variable [Tabs]
noncomputable abbrev Pg:Program:=Tryz.prog
abbrev C:=ACall Pg
abbrev CV:=uU Pg
def yc (fn:Func):Code:=fn.body.getD .skip
theorem okF {f : FuncId} {fn : Func} {m : Nat} {l : List AV} {h : ae} {Q : QT} {pl : MQ} {p : Prop} (hf : Pg.funcs[f]? = some fn) (hm : fn.ntmps = m) (hb : fn.body = some (yc fn)) (hn : (fn.name == "runtime.NumGoroutine") = false) (hl : Nat.ble l.length m = true) (he : ace Pg pl fn (yc fn) l h Q = p) (k : p) : ACall Pg f l h Q :=
 Mj hf hb hn (by rw[hm];exact Nat.le_of_ble_eq_true hl) (by rw[he];exact k)
abbrev oZ:Nat:=28
abbrev iO:Nat:=89
abbrev lW:Nat:=124
abbrev br:Nat:=116
abbrev fO:Nat:=115
abbrev uz:Nat:=170
abbrev eQ:Nat:=118
abbrev wD:Nat:=46
abbrev yB:Nat:=208
abbrev x4:Nat:=82
abbrev pL:Nat:=159
abbrev kA:Nat:=48
abbrev co:Nat:=86
abbrev ic:Nat:=160
abbrev gd:Nat:=210
abbrev ll:Nat:=120
abbrev iY:Nat:=119
abbrev ip:Nat:=90
abbrev ce:Nat:=85
abbrev cm:Nat:=84
abbrev aR:Nat:=114
abbrev ck:Nat:=83
abbrev fL:Nat:=87
abbrev kC:Nat:=121
abbrev sC:Nat:=161
abbrev mV:Nat:=155
abbrev qD:Nat:=205
abbrev kV:Nat:=67
abbrev su:Nat:=201
abbrev cN:Nat:=267
abbrev u6:Nat:=206
abbrev cK:Nat:=203
abbrev cW:Nat:=271
abbrev lB:Nat:=268
abbrev d4:Nat:=272
abbrev jg:Nat:=253
abbrev cJ:Nat:=269
abbrev fm:Nat:=239
abbrev bW:Nat:=274
abbrev fT:Nat:=264
abbrev eH:Nat:=255
abbrev fE:Nat:=265
abbrev cu:Nat:=270
abbrev da:Nat:=254
abbrev cp:Nat:=262
abbrev cD:Nat:=238
abbrev cV:Nat:=263
abbrev sH:Nat:=275
abbrev sG:Nat:=290
abbrev oc:Nat:=240
abbrev l9:Nat:=273
abbrev xb:Nat:=259
abbrev oC:Nat:=216
abbrev xr:Nat:=217
abbrev xB:Nat:=283
abbrev uJ:Nat:=215
abbrev jw:Nat:=245
abbrev vn:Nat:=243
abbrev vr:Nat:=244
abbrev cq:Nat:=11
abbrev d5:Nat:=13
abbrev cL:Nat:=12
abbrev iJ:Nat:=27
abbrev wE:Nat:=9
abbrev sO:Nat:=88
abbrev rz:Nat:=147
abbrev sY:Nat:=198
abbrev pN:Nat:=126
abbrev rG:Nat:=164
abbrev p9:Nat:=158
abbrev rE:Nat:=123
abbrev rK:Nat:=122
abbrev oe:Nat:=166
abbrev mS:Nat:=167
abbrev jT:Nat:=173
abbrev nH:Nat:=165
abbrev hO:Nat:=214
abbrev nA:Nat:=213
abbrev zp:Nat:=212
abbrev bx:Nat:=169
abbrev lf:Nat:=168
abbrev kx:Nat:=174
abbrev ni:Nat:=211
abbrev jV:Nat:=197
abbrev xE:Nat:=218
abbrev k5:Nat:=104
abbrev dr:Nat:=131
abbrev wl:Nat:=29
abbrev oG:Nat:=77
abbrev jQ:Nat:=106
abbrev gK:Nat:=134
abbrev uL:Nat:=26
abbrev pY:Nat:=50
abbrev ea:Nat:=43
abbrev oI:Nat:=15
abbrev gP:Nat:=75
abbrev nB:Nat:=42
abbrev mJ:Nat:=76
abbrev ie:Nat:=74
abbrev mw:Nat:=73
abbrev mT:Nat:=25
abbrev aW:Nat:=40
abbrev lS:Nat:=7
abbrev lw:Nat:=8
abbrev mi:Nat:=3
abbrev nZ:Nat:=6
abbrev lZ:Nat:=10
abbrev ww:Nat:=79
abbrev n9:Nat:=111
abbrev iH:Nat:=45
abbrev p8:Nat:=56
abbrev fK:Nat:=150
abbrev u5:Nat:=109
abbrev d3:Nat:=95
abbrev eR:Nat:=96
abbrev tf:Nat:=149
abbrev kM:Nat:=97
abbrev nG:Nat:=146
abbrev jE:Nat:=153
abbrev eM:Nat:=202
abbrev eU:Nat:=148
abbrev ee:Nat:=200
abbrev gg:Nat:=112
abbrev bB:Nat:=152
abbrev gm:Nat:=154
abbrev nI:Nat:=237
abbrev jG:Nat:=151
abbrev jL:Nat:=54
abbrev dZ:Nat:=94
abbrev gW:Nat:=52
abbrev cZ:Nat:=93
abbrev sJ:Nat:=242
abbrev nV:Nat:=72
abbrev u7:Nat:=99
abbrev n5:Nat:=71
abbrev pJ:Nat:=102
abbrev dy:Nat:=69
abbrev sM:Nat:=105
abbrev mK:Nat:=70
abbrev lU:Nat:=249
abbrev dx:Nat:=100
abbrev kK:Nat:=229
abbrev cf:Nat:=227
abbrev cS:Nat:=226
abbrev gz:Nat:=187
abbrev fl:Nat:=228
abbrev c6:Nat:=186
abbrev gp:Nat:=133
abbrev cB:Nat:=132
abbrev gA:Nat:=230
abbrev pZ:Nat:=101
abbrev jM:Nat:=130
abbrev vw:Nat:=41
abbrev vt:Nat:=68
abbrev dC:Nat:=113
abbrev de:Nat:=47
abbrev ln:Nat:=53
abbrev c7:Nat:=80
abbrev mL:Nat:=55
abbrev dz:Nat:=49
abbrev gh:Nat:=81
abbrev dW:Nat:=39
abbrev bF:Nat:=157
abbrev cc:Nat:=209
abbrev bf:Nat:=117
abbrev dk:Nat:=66
abbrev cE:Nat:=207
abbrev cO:Nat:=204
abbrev cw:Nat:=241
abbrev cP:Nat:=196
abbrev fX:Nat:=156
abbrev bD:Nat:=98
abbrev ib:Nat:=163
abbrev ik:Nat:=162
abbrev lI:Nat:=51
abbrev eu:Nat:=252
abbrev kF:Nat:=199
abbrev tu:Nat:=136
abbrev eo:Nat:=125
abbrev fP:Nat:=266
abbrev jY:Nat:=137
abbrev jz:Nat:=108
abbrev gC:Nat:=78
abbrev fA:Nat:=110
abbrev kp:Nat:=256
abbrev cY:Nat:=193
abbrev Am:Nat:=135
abbrev pA:Nat:=107
abbrev cA:Nat:=141
abbrev cj:Nat:=142
abbrev ep:Nat:=139
abbrev dD:Nat:=144
abbrev dP:Nat:=143
abbrev sP:Nat:=140
abbrev iP:Nat:=145
abbrev kZ:Nat:=289
abbrev kH:Nat:=138
abbrev lQ:Nat:=188
def rR (s9 s7 s8:AV) (h:ae) (next0:NT):Prop:=
 ai .shl s7 (.lit (.int .u64 8)) fun t22=>
 ai .or t22 s9 fun t24=>
 ai .sub s8 (I 1) fun t13=>
 next0 [t24,t13] h
def ro (s9 s7 s8 s1 s2:AV) (h:ae) (next0:NT):Prop:=
 ai .eql s8 s1 fun t18=>
 ifB t18 (
 ai .and s2 (I 255) fun t20=>
 rR t20 s7 s8 h next0) (
 rR s9 s7 s8 h next0)
def rV (s0 s1 s2:AV) (Q:QT) (vs0:List AV) (h:ae) (next0:NT):Prop:=
 ai .geq (ap vs0 1) (I 0) fun t11=>
 ifB t11 (
 ai .eql s0 (I 1) fun t15=>
 ifB t15 (
 ro (I 255) (ap vs0 0) (ap vs0 1) s1 s2 h next0) (
 ro (I 0) (ap vs0 0) (ap vs0 1) s1 s2 h next0)) (
 C xB [(ap vs0 0),(I 32)] h fun t26 h3=>
 Q t26 h3)
def Ox (a0 a1 a2:AV) (h:ae) (Q:QT):Prop:=
 cb [(I 0),(I 3)] h fun vs0 h next0=>rV a0 a1 a2 Q vs0 h next0
theorem NL (a0 a1 a2:AV) (h:ae) (Q:QT) (k:Ox a0 a1 a2 h Q):C xb [a0,a1,a2] h Q:=
 okF (pl:=[(4,[7,8,9,10,11,12,13,14,15,16,17,18,19,20,21,22,23,24],[7,8])]) Tryz.func259 Tryz.ntmps259 (by kernel_rfl) (by kernel_rfl) rfl (by kernel_rfl) k
def OY (a0 a1:AV) (h:ae) (Q:QT):Prop:=
 ai .sub a1 (I 1) fun t7=>
 C sJ [(.lit (.float .f64 4607182418800017408)),t7] h fun t8 h0=>
 rD .f64 a0 fun t10=>
 qUn .neg t8 fun t12=>
 ai .geq t10 t12 fun t13=>
 ifB t13 (rD .f64 a0 fun t16=>
 ai .lss t16 t8 fun t18=>
 Q t18 h0) (
 Q (B false) h0)
theorem MT (a0 a1:AV) (h:ae) (Q:QT) (k:OY a0 a1 h Q):C oC [a0,a1] h Q:=
 okF (pl:=[]) Tryz.func216 Tryz.ntmps216 (by kernel_rfl) (by kernel_rfl) rfl (by kernel_rfl) k
def Ej (s9 s8 s0:AV) (Q:QT) (vs1:List AV) (h:ae) (next1:NT):Prop:=
 ai .lss (ap vs1 4) s9 fun t11=>
 ifB t11 (
 am 2 s8 (ap vs1 4) fun t12=>
 aw 2 t12 h fun t13=>
 df [(I 0),(I 0)] h fun t7 h2=>
 ak 2 t7 t13 h2 fun h3=>
 aw 2 t7 h3 fun t15=>
 C vr [s0,(.fn (.func jw) [t15] [])] h3 fun t17 h4=>
 ai .geq t17 (I 0) fun t19=>
 ifB t19 (
 ab 0 t7 fun t20=>
 ag t20 h4 fun t21=>
 ab 1 t7 fun t22=>
 ag t22 h4 fun t23=>
 Q (.tup [t21,t23,t17,(B true)]) h4) (
 ai .add (ap vs1 4) (I 1) fun t25=>
 next1 [(ap vs1 0),(ap vs1 1),t17,(ap vs1 3),t25] h4)) (
 Q (.tup [(I 0),(I 0),(I 0),(B false)]) h)
def OP (a0:AV) (h:ae) (Q:QT):Prop:=
 C vn [] h fun t8 h0=>
 aY t8 fun t9=>
 cb [(I 0),(I 0),(I 0),(B false),(I 0)] h0 fun vs1 h next1=>Ej t9 t8 a0 Q vs1 h next1
theorem Oj (a0:AV) (h:ae) (Q:QT) (k:OP a0 h Q):C xr [a0] h Q:=
 okF (pl:=[(3,[2,3,4,5,7,10,11,12,13,14,15,16,17,18,19,20,21,22,23,24,25],[2,3,4,5,10]),(1000006,[0,1,2,3,4,5,6,7,8],[])]) Tryz.func217 Tryz.ntmps217 (by kernel_rfl) (by kernel_rfl) rfl (by kernel_rfl) k
def Pr (a0 a1:AV) (h:ae) (Q:QT):Prop:=
 Co a1 (I 1) fun t7=>
 F0 t7 (I 64) fun t8=>
 ai .sub (I 64) t8 fun t9=>
 ai .shl a0 t9 fun t12=>
 ai .shr t12 t9 fun t14=>
 Q t14 h
theorem OV (a0 a1:AV) (h:ae) (Q:QT) (k:Pr a0 a1 h Q):C xB [a0,a1] h Q:=
 okF (pl:=[]) Tryz.func283 Tryz.ntmps283 (by kernel_rfl) (by kernel_rfl) rfl (by kernel_rfl) k
def JC (a0:AV) (h:ae) (Q:QT):Prop:=
 ai .shr a0 (.lit (.int .u64 16)) fun t6=>
 ai .and t6 (I 15) fun t7=>
 ai .shr a0 (.lit (.int .u64 11)) fun t9=>
 ai .and t9 (I 31) fun t10=>
 ai .and a0 (I 2047) fun t12=>
 Q (.tup [t7,t10,t12]) h
theorem MG (a0:AV) (h:ae) (Q:QT) (k:JC a0 h Q):C uJ [a0] h Q:=
 okF (pl:=[]) Tryz.func215 Tryz.ntmps215 (by kernel_rfl) (by kernel_rfl) rfl (by kernel_rfl) k
def Ec (a0 a1:AV) (h:ae) (Q:QT):Prop:=
 gk a0 h fun t2 h0=>
 ab 0 t2 fun t5=>
 ag t5 h0 fun t6=>
 ab 1 t2 fun t7=>
 ag t7 h0 fun t8=>
 C xb [t6,t8,a1] h0 fun t10 h1=>
 Q t10 h1
theorem G4 (a0 a1:AV) (h:ae) (Q:QT) (k:Ec a0 a1 h Q):C jw [a0,a1] h Q:=
 okF (pl:=[]) Tryz.func245 Tryz.ntmps245 (by kernel_rfl) (by kernel_rfl) rfl (by kernel_rfl) k
def Kt (h:ae) (Q:QT):Prop:=
 ax [(I 0),(I 0)] [(0,1,(I 0)),(1,1,(I 0))] fun t1=>
 ax [(I 0),(I 0)] [(0,1,(I 0)),(1,1,(I 1))] fun t2=>
 ax [(I 0),(I 0)] [(0,1,(I 0)),(1,1,(I 2))] fun t3=>
 ax [(I 0),(I 0)] [(0,1,(I 0)),(1,1,(I 3))] fun t4=>
 ax [(I 0),(I 0)] [(0,1,(I 1)),(1,1,(I 0))] fun t5=>
 ax [(I 0),(I 0)] [(0,1,(I 1)),(1,1,(I 1))] fun t6=>
 ax [(I 0),(I 0)] [(0,1,(I 1)),(1,1,(I 2))] fun t7=>
 ax [(I 0),(I 0)] [(0,1,(I 1)),(1,1,(I 3))] fun t8=>
 ao 8 2 [t1,t2,t3,t4,t5,t6,t7,t8] fun t9=>
 Q t9 h
theorem K0 (h:ae) (Q:QT) (k:Kt  h Q):C vn [] h Q:=
 okF (pl:=[]) Tryz.func243 Tryz.ntmps243 (by kernel_rfl) (by kernel_rfl) rfl (by kernel_rfl) k
def Ci (s0 s1:AV) (Q:QT) (vs0:List AV) (h:ae) (next0:NT):Prop:=
 ai .lss (ap vs0 1) (I 256) fun t7=>
 ifB t7 (
 CV s1 [(ap vs0 1)] h fun t11 h1=>
 ai .eql t11 s0 fun t13=>
 ifB t13 (
 Q (ap vs0 1) h1) (
 ai .add (ap vs0 1) (I 1) fun t15=>
 next0 [(ap vs0 0),t15] h1)) (
 Q (I (-1)) h)
def Kk (a0 a1:AV) (h:ae) (Q:QT):Prop:=
 cb [(I 0),(I 0)] h fun vs0 h next0=>Ci a0 a1 Q vs0 h next0
theorem KQ (a0 a1:AV) (h:ae) (Q:QT) (k:Kk a0 a1 h Q):C vr [a0,a1] h Q:=
 okF (pl:=[(3,[4,5,6,7,8,9,10,11,12,13,14,15],[4,6])]) Tryz.func244 Tryz.ntmps244 (by kernel_rfl) (by kernel_rfl) rfl (by kernel_rfl) k
def Hm (a0:AV) (h:ae) (Q:QT):Prop:=
 gk a0 h fun t1 h0=>
 aw 2 t1 h0 fun t8=>
 C rK [t8] h0 fun t9 h1=>
 an 0 t9 fun t10=>
 an 1 t9 fun t11=>
 qUn .not t11 fun t13=>
 ifB t13 (
 Q (.tup [(.full 0 []),(B false)]) h1) (
 ai .shr t10 (.lit (.int .u64 24)) fun t15=>
 ci .u8 t15 fun t16=>
 ai .shr t10 (.lit (.int .u64 16)) fun t18=>
 ci .u8 t18 fun t19=>
 ai .shr t10 (.lit (.int .u64 8)) fun t21=>
 ci .u8 t21 fun t22=>
 ci .u8 t10 fun t24=>
 ao 4 1 [t16,t19,t22,t24] fun t25=>
 ab 0 t1 fun t27=>
 ag t27 h1 fun t28=>
 C rE [t28] h1 fun t29 h2=>
 ai .sub (I 4) t29 fun t30=>
 ir 1 t25 (some t30) none fun t31=>
 C dz [t31] h2 fun t32 h3=>
 Q (.tup [t32,(B true)]) h3)
theorem Ir (a0:AV) (h:ae) (Q:QT) (k:Hm a0 h Q):C sO [a0] h Q:=
 okF (pl:=[]) Tryz.func88 Tryz.ntmps88 (by kernel_rfl) (by kernel_rfl) rfl (by kernel_rfl) k
def Nd (a0:AV) (h:ae) (Q:QT):Prop:=
 gk a0 h fun t1 h0=>
 C jV [] h0 fun t5 h1=>
 C cP [t5,(.fn (.func sY) [] [t1])] h1 fun t7 h2=>
 Co t7 (I 0) fun t9=>
 ai .geq t7 (I 0) fun t11=>
 Q (.tup [t9,t11]) h2
theorem N6 (a0:AV) (h:ae) (Q:QT) (k:Nd a0 h Q):C rz [a0] h Q:=
 okF (pl:=[]) Tryz.func147 Tryz.ntmps147 (by kernel_rfl) (by kernel_rfl) rfl (by kernel_rfl) k
def H4 (a0 a1:AV) (h:ae) (Q:QT):Prop:=
 gk a0 h fun t2 h0=>
 ab 0 t2 fun t4=>
 ag t4 h0 fun t5=>
 ag a1 h0 fun t6=>
 ai .eql t5 t6 fun t7=>
 Q t7 h0
theorem Iz (a0 a1:AV) (h:ae) (Q:QT) (k:H4 a0 a1 h Q):C sY [a0,a1] h Q:=
 okF (pl:=[]) Tryz.func198 Tryz.ntmps198 (by kernel_rfl) (by kernel_rfl) rfl (by kernel_rfl) k
def Kc (a0:AV) (h:ae) (Q:QT):Prop:=
 C jT [a0,(.fn (.func kx) [] [])] h fun t4 h0=>
 Q t4 h0
theorem LO (a0:AV) (h:ae) (Q:QT) (k:Kc a0 h Q):C pN [a0] h Q:=
 okF (pl:=[]) Tryz.func126 Tryz.ntmps126 (by kernel_rfl) (by kernel_rfl) rfl (by kernel_rfl) k
def OZ (a0:AV) (h:ae) (Q:QT):Prop:=
 C jT [a0,(.fn (.func ni) [] [])] h fun t4 h0=>
 Q t4 h0
theorem ND (a0:AV) (h:ae) (Q:QT) (k:OZ a0 h Q):C rG [a0] h Q:=
 okF (pl:=[]) Tryz.func164 Tryz.ntmps164 (by kernel_rfl) (by kernel_rfl) rfl (by kernel_rfl) k
def Jd (a0:AV) (h:ae) (Q:QT):Prop:=
 gk a0 h fun t1 h0=>
 aw 2 t1 h0 fun t6=>
 C rK [t6] h0 fun t7 h1=>
 an 0 t7 fun t8=>
 an 1 t7 fun t9=>
 Q t9 h1
theorem KI (a0:AV) (h:ae) (Q:QT) (k:Jd a0 h Q):C p9 [a0] h Q:=
 okF (pl:=[]) Tryz.func158 Tryz.ntmps158 (by kernel_rfl) (by kernel_rfl) rfl (by kernel_rfl) k
def O0 (a0:AV) (h:ae) (Q:QT):Prop:=
 C rG [a0] h fun t5 h0=>
 ai .eql t5 (S ⟨#[]⟩) fun t6=>
 ifB t6 (
 Q (I 0) h0) (
 ai .lss a0 (I 43) fun t9=>
 ifB t9 (
 Q (I 2) h0) (
 Q (I 4) h0))
theorem Ph (a0:AV) (h:ae) (Q:QT) (k:O0 a0 h Q):C rE [a0] h Q:=
 okF (pl:=[]) Tryz.func123 Tryz.ntmps123 (by kernel_rfl) (by kernel_rfl) rfl (by kernel_rfl) k
def DZ (s27 s26 s1:AV) (Q:QT) (vs4:List AV) (h:ae) (next4:NT):Prop:=
 ai .lss (ap vs4 3) s27 fun t29=>
 ifB t29 (
 am 1 s26 (ap vs4 3) fun t31=>
 ag t31 h fun t32=>
 ab 1 s1 fun t35=>
 ag t35 h fun t36=>
 am 1 t36 (ap vs4 3) fun t38=>
 ag t38 h fun t39=>
 C bx [t32,t39] h fun t40 h5=>
 an 0 t40 fun t41=>
 an 1 t40 fun t42=>
 qUn .not t42 fun t44=>
 ifB t44 (
 Q (.tup [(.lit (.int .u32 0)),(B false)]) h5) (
 ai .or (ap vs4 2) t41 fun t47=>
 ai .add (ap vs4 3) (I 1) fun t48=>
 next4 [(ap vs4 0),(ap vs4 1),t47,t48] h5)) (
 Q (.tup [(ap vs4 2),(B true)]) h)
def Oy (a0:AV) (h:ae) (Q:QT):Prop:=
 gk a0 h fun t1 h0=>
 ab 0 t1 fun t10=>
 ag t10 h0 fun t11=>
 C rG [t11] h0 fun t12 h1=>
 ai .eql t12 (S ⟨#[]⟩) fun t13=>
 ifB t13 (
 Q (.tup [(.lit (.int .u32 0)),(B false)]) h1) (
 ab 0 t1 fun t14=>
 ag t14 h1 fun t15=>
 ab 0 t1 fun t17=>
 ag t17 h1 fun t18=>
 C nH [t15,(.fn (.func oe) [] [])] h1 fun t16 h2=>
 (ag t17 h2 fun _t=>
 _t=t18)∧
 C mS [t18,(.fn (.func lf) [] [])] h2 fun t19 h3=>
 aY t19 fun t21=>
 ab 1 t1 fun t22=>
 ag t22 h3 fun t23=>
 aY t23 fun t24=>
 ai .neq t21 t24 fun t25=>
 ifB t25 (
 Q (.tup [(.lit (.int .u32 0)),(B false)]) h3) (
 aY t19 fun t27=>
 cb [(.lit (.int .u32 0)),(B false),t16,(I 0)] h3 fun vs4 h next4=>DZ t27 t19 t1 Q vs4 h next4))
theorem Nu (a0:AV) (h:ae) (Q:QT) (k:Oy a0 h Q):C rK [a0] h Q:=
 okF (pl:=[(1000003,[0,1,3,4,2,5,6,7],[]),(8,[2,3,4,6,7,8,9,28,29,30,31,32,33,34,35,36,37,38,39,40,41,42,43,44,45,46,47,48],[2,3,4,28])]) Tryz.func122 Tryz.ntmps122 (by kernel_rfl) (by kernel_rfl) rfl (by kernel_rfl) k
def FP (a0:AV) (h:ae) (Q:QT):Prop:=
 gk a0 h fun t1 h0=>
 ab 1 t1 fun t3=>
 ag t3 h0 fun t4=>
 Q t4 h0
theorem IT (a0:AV) (h:ae) (Q:QT) (k:FP a0 h Q):C oe [a0] h Q:=
 okF (pl:=[]) Tryz.func166 Tryz.ntmps166 (by kernel_rfl) (by kernel_rfl) rfl (by kernel_rfl) k
def my (s4:AV) (h:ae) (Q:QT):Prop:=
 Q s4 h
def wU (a0 a1:AV) (h:ae) (Q:QT):Prop:=
 C jV [] h fun t6 h0=>
 ai .geq a0 (I 0) fun t8=>
 ifB t8 (aY t6 fun t12=>
 ai .lss a0 t12 fun t13=>
 ifB t13 (
 am 3 t6 a0 fun t18=>
 aw 3 t18 h0 fun t19=>
 CV a1 [t19] h0 fun t20 h1=>
 my t20 h1 Q) (
 my (.full 0 []) h0 Q)) (
 my (.full 0 []) h0 Q)
theorem BC (a0 a1:AV) (h:ae) (Q:QT) (k:wU a0 a1 h Q):C mS [a0,a1] h Q:=
 okF (pl:=[]) Tryz.func167 Tryz.ntmps167 (by kernel_rfl) (by kernel_rfl) rfl (by kernel_rfl) k
def nN (s4:AV) (h:ae) (Q:QT):Prop:=
 Q s4 h
def yW (a0 a1:AV) (h:ae) (Q:QT):Prop:=
 C jV [] h fun t6 h0=>
 ai .geq a0 (I 0) fun t8=>
 ifB t8 (aY t6 fun t12=>
 ai .lss a0 t12 fun t13=>
 ifB t13 (
 am 3 t6 a0 fun t18=>
 aw 3 t18 h0 fun t19=>
 CV a1 [t19] h0 fun t20 h1=>
 nN t20 h1 Q) (
 nN (S ⟨#[]⟩) h0 Q)) (
 nN (S ⟨#[]⟩) h0 Q)
theorem CK (a0 a1:AV) (h:ae) (Q:QT) (k:yW a0 a1 h Q):C jT [a0,a1] h Q:=
 okF (pl:=[]) Tryz.func173 Tryz.ntmps173 (by kernel_rfl) (by kernel_rfl) rfl (by kernel_rfl) k
def nw (s4:AV) (h:ae) (Q:QT):Prop:=
 Q s4 h
def y8 (a0 a1:AV) (h:ae) (Q:QT):Prop:=
 C jV [] h fun t6 h0=>
 ai .geq a0 (I 0) fun t8=>
 ifB t8 (aY t6 fun t12=>
 ai .lss a0 t12 fun t13=>
 ifB t13 (
 am 3 t6 a0 fun t18=>
 aw 3 t18 h0 fun t19=>
 CV a1 [t19] h0 fun t20 h1=>
 nw t20 h1 Q) (
 nw (.lit (.int .u32 0)) h0 Q)) (
 nw (.lit (.int .u32 0)) h0 Q)
theorem Ds (a0 a1:AV) (h:ae) (Q:QT) (k:y8 a0 a1 h Q):C nH [a0,a1] h Q:=
 okF (pl:=[]) Tryz.func165 Tryz.ntmps165 (by kernel_rfl) (by kernel_rfl) rfl (by kernel_rfl) k
def JD (a0:AV) (h:ae) (Q:QT):Prop:=
 ai .eql a0 (S ⟨#[89]⟩) fun t4=>
 ifB t4 (
 Q (.lit (.int .u64 4)) h) (
 Q (.lit (.int .u64 0)) h)
theorem L0 (a0:AV) (h:ae) (Q:QT) (k:JD a0 h Q):C hO [a0] h Q:=
 okF (pl:=[]) Tryz.func214 Tryz.ntmps214 (by kernel_rfl) (by kernel_rfl) rfl (by kernel_rfl) k
def zw (a0 a1:AV) (h:ae) (Q:QT):Prop:=
 gk a0 h fun t2 h0=>
 ab 3 t2 fun t7=>
 ag t7 h0 fun t8=>
 ai .lss a1 t8 fun t9=>
 ifB t9 (Q (.tup [(.lit (.int .u32 0)),(B false)]) h0) (
 ab 3 t2 fun t12=>
 ag t12 h0 fun t13=>
 ai .sub a1 t13 fun t14=>
 ab 2 t2 fun t15=>
 ag t15 h0 fun t16=>
 ab 1 t2 fun t17=>
 ag t17 h0 fun t18=>
 ai .shl t16 t18 fun t19=>
 ai .geq t14 t19 fun t20=>
 ifB t20 (Q (.tup [(.lit (.int .u32 0)),(B false)]) h0) (
 ab 3 t2 fun t24=>
 ag t24 h0 fun t25=>
 ai .sub a1 t25 fun t26=>
 ab 2 t2 fun t27=>
 ag t27 h0 fun t28=>
 ai .rem t26 t28 fun t29=>
 ai .neq t29 (I 0) fun t30=>
 ifB t30 (
 Q (.tup [(.lit (.int .u32 0)),(B false)]) h0) (
 ab 3 t2 fun t33=>
 ag t33 h0 fun t34=>
 ai .sub a1 t34 fun t35=>
 ab 2 t2 fun t36=>
 ag t36 h0 fun t37=>
 ai .quo t35 t37 fun t38=>
 ci .u32 t38 fun t39=>
 ab 0 t2 fun t40=>
 ag t40 h0 fun t41=>
 ai .shl t39 t41 fun t42=>
 Q (.tup [t42,(B true)]) h0)))
theorem Dc (a0 a1:AV) (h:ae) (Q:QT) (k:zw a0 a1 h Q):C nA [a0,a1] h Q:=
 okF (pl:=[(1000003,[0,1,2,3,4,5,6,7,8,9,10,11,12],[])]) Tryz.func213 Tryz.ntmps213 (by kernel_rfl) (by kernel_rfl) rfl (by kernel_rfl) k
def bK (a0:AV) (h:ae) (Q:QT):Prop:=
 df [(.lit (.int .u64 0)),(.lit (.int .u64 0)),(I 0),(I 0)] h fun t2 h0=>
 ai .eql a0 (S ⟨#[85,53]⟩) fun t6=>
 ifB t6 (
 ax [(.lit (.int .u64 0)),(.lit (.int .u64 0)),(I 0),(I 0)] [(0,1,(.lit (.int .u64 4))),(1,1,(.lit (.int .u64 5))),(2,1,(I 1)),(3,1,(I 0))] fun t7=>
 ak 4 t2 t7 h0 fun h1=>
 aw 4 t2 h1 fun r2=>
 Q (.tup [r2,(B true)]) h1) (
 ai .eql a0 (S ⟨#[85,55]⟩) fun t9=>
 ifB t9 (
 ax [(.lit (.int .u64 0)),(.lit (.int .u64 0)),(I 0),(I 0)] [(0,1,(.lit (.int .u64 4))),(1,1,(.lit (.int .u64 7))),(2,1,(I 1)),(3,1,(I 0))] fun t10=>
 ak 4 t2 t10 h0 fun h3=>
 aw 4 t2 h3 fun r4=>
 Q (.tup [r4,(B true)]) h3) (
 ai .eql a0 (S ⟨#[79,53]⟩) fun t12=>
 ifB t12 (
 ax [(.lit (.int .u64 0)),(.lit (.int .u64 0)),(I 0),(I 0)] [(0,1,(.lit (.int .u64 4))),(1,1,(.lit (.int .u64 5))),(2,1,(I 1)),(3,1,(I 1))] fun t13=>
 ak 4 t2 t13 h0 fun h5=>
 aw 4 t2 h5 fun r6=>
 Q (.tup [r6,(B true)]) h5) (
 ai .eql a0 (S ⟨#[77,49]⟩) fun t15=>
 ifB t15 (
 ax [(.lit (.int .u64 0)),(.lit (.int .u64 0)),(I 0),(I 0)] [(0,1,(.lit (.int .u64 8))),(1,1,(.lit (.int .u64 4))),(2,1,(I 1)),(3,1,(I 0))] fun t16=>
 ak 4 t2 t16 h0 fun h7=>
 aw 4 t2 h7 fun r8=>
 Q (.tup [r8,(B true)]) h7) (
 ai .eql a0 (S ⟨#[77,50]⟩) fun t18=>
 ifB t18 (
 ax [(.lit (.int .u64 0)),(.lit (.int .u64 0)),(I 0),(I 0)] [(0,1,(.lit (.int .u64 8))),(1,1,(.lit (.int .u64 4))),(2,1,(I 2)),(3,1,(I 0))] fun t19=>
 ak 4 t2 t19 h0 fun h9=>
 aw 4 t2 h9 fun r10=>
 Q (.tup [r10,(B true)]) h9) (
 ai .eql a0 (S ⟨#[77,52]⟩) fun t21=>
 ifB t21 (
 ax [(.lit (.int .u64 0)),(.lit (.int .u64 0)),(I 0),(I 0)] [(0,1,(.lit (.int .u64 8))),(1,1,(.lit (.int .u64 4))),(2,1,(I 4)),(3,1,(I 0))] fun t22=>
 ak 4 t2 t22 h0 fun h11=>
 aw 4 t2 h11 fun r12=>
 Q (.tup [r12,(B true)]) h11) (
 ai .eql a0 (S ⟨#[79,49]⟩) fun t24=>
 ifB t24 (
 ax [(.lit (.int .u64 0)),(.lit (.int .u64 0)),(I 0),(I 0)] [(0,1,(.lit (.int .u64 10))),(1,1,(.lit (.int .u64 1))),(2,1,(I 1)),(3,1,(I 0))] fun t25=>
 ak 4 t2 t25 h0 fun h13=>
 aw 4 t2 h13 fun r14=>
 Q (.tup [r14,(B true)]) h13) (
 ai .eql a0 (S ⟨#[73,50]⟩) fun t27=>
 ifB t27 (
 ax [(.lit (.int .u64 0)),(.lit (.int .u64 0)),(I 0),(I 0)] [(0,1,(.lit (.int .u64 8))),(1,1,(.lit (.int .u64 2))),(2,1,(I 1)),(3,1,(I 0))] fun t28=>
 ak 4 t2 t28 h0 fun h15=>
 aw 4 t2 h15 fun r16=>
 Q (.tup [r16,(B true)]) h15) (
 ai .eql a0 (S ⟨#[68]⟩) fun t30=>
 ifB t30 (
 ax [(.lit (.int .u64 0)),(.lit (.int .u64 0)),(I 0),(I 0)] [(0,1,(.lit (.int .u64 21))),(1,1,(.lit (.int .u64 5))),(2,1,(I 1)),(3,1,(I 0))] fun t31=>
 ak 4 t2 t31 h0 fun h17=>
 aw 4 t2 h17 fun r18=>
 Q (.tup [r18,(B true)]) h17) (
 ai .eql a0 (S ⟨#[65]⟩) fun t33=>
 ifB t33 (
 ax [(.lit (.int .u64 0)),(.lit (.int .u64 0)),(I 0),(I 0)] [(0,1,(.lit (.int .u64 16))),(1,1,(.lit (.int .u64 5))),(2,1,(I 1)),(3,1,(I 0))] fun t34=>
 ak 4 t2 t34 h0 fun h19=>
 aw 4 t2 h19 fun r20=>
 Q (.tup [r20,(B true)]) h19) (
 ai .eql a0 (S ⟨#[66]⟩) fun t36=>
 ifB t36 (
 ax [(.lit (.int .u64 0)),(.lit (.int .u64 0)),(I 0),(I 0)] [(0,1,(.lit (.int .u64 11))),(1,1,(.lit (.int .u64 5))),(2,1,(I 1)),(3,1,(I 0))] fun t37=>
 ak 4 t2 t37 h0 fun h21=>
 aw 4 t2 h21 fun r22=>
 Q (.tup [r22,(B true)]) h21) (
 ai .eql a0 (S ⟨#[79,50]⟩) fun t39=>
 ifB t39 (
 ax [(.lit (.int .u64 0)),(.lit (.int .u64 0)),(I 0),(I 0)] [(0,1,(.lit (.int .u64 20))),(1,1,(.lit (.int .u64 2))),(2,1,(I 1)),(3,1,(I 0))] fun t40=>
 ak 4 t2 t40 h0 fun h23=>
 aw 4 t2 h23 fun r24=>
 Q (.tup [r24,(B true)]) h23) (
 ai .eql a0 (S ⟨#[73,52]⟩) fun t42=>
 ifB t42 (
 ax [(.lit (.int .u64 0)),(.lit (.int .u64 0)),(I 0),(I 0)] [(0,1,(.lit (.int .u64 16))),(1,1,(.lit (.int .u64 4))),(2,1,(I 1)),(3,1,(I 0))] fun t43=>
 ak 4 t2 t43 h0 fun h25=>
 aw 4 t2 h25 fun r26=>
 Q (.tup [r26,(B true)]) h25) (
 ax [(.lit (.int .u64 0)),(.lit (.int .u64 0)),(I 0),(I 0)] [] fun t44=>
 ak 4 t2 t44 h0 fun h27=>
 aw 4 t2 h27 fun r28=>
 Q (.tup [r28,(B false)]) h27)))))))))))))
theorem bh (a0:AV) (h:ae) (Q:QT) (k:bK a0 h Q):C zp [a0] h Q:=
 okF (pl:=[]) Tryz.func212 Tryz.ntmps212 (by kernel_rfl) (by kernel_rfl) rfl (by kernel_rfl) k
def DP (s27 s26 s0 s1:AV) (h:ae) (Q:QT):Prop:=
 ifB s27 (
 ai .lss s1 (I 0) fun t31=>
 ifB t31 (Q (.tup [(.lit (.int .u32 0)),(B false)]) h) (
 ai .gtr s1 (I 7) fun t34=>
 ifT t34 (ai .lss s1 (I 24) fun t37=>
 ifB t37 (Q (.tup [(.lit (.int .u32 0)),(B false)]) h) (
 ai .gtr s1 (I 31) fun t42=>
 ifB t42 (
 Q (.tup [(.lit (.int .u32 0)),(B false)]) h) (
 ai .quo s1 (I 24) fun t46=>
 ai .mul t46 (I 16) fun t47=>
 ai .sub s1 t47 fun t48=>
 ci .u32 t48 fun t49=>
 C hO [s0] h fun t51 h4=>
 ai .shl t49 t51 fun t52=>
 Q (.tup [t52,(B true)]) h4))) (
 ai .gtr s1 (I 31) fun t42=>
 ifB t42 (
 Q (.tup [(.lit (.int .u32 0)),(B false)]) h) (
 ai .quo s1 (I 24) fun t46=>
 ai .mul t46 (I 16) fun t47=>
 ai .sub s1 t47 fun t48=>
 ci .u32 t48 fun t49=>
 C hO [s0] h fun t51 h5=>
 ai .shl t49 t51 fun t52=>
 Q (.tup [t52,(B true)]) h5)) (
 ifB (.tup []) (ifB (.tup []) (Q (.tup [(.lit (.int .u32 0)),(B false)]) h) (ifB (.tup []) (
 Q (.tup [(.lit (.int .u32 0)),(B false)]) h) (
 ai .quo s1 (I 24) fun t46=>
 ai .mul t46 (I 16) fun t47=>
 ai .sub s1 t47 fun t48=>
 ci .u32 t48 fun t49=>
 C hO [s0] h fun t51 h6=>
 ai .shl t49 t51 fun t52=>
 Q (.tup [t52,(B true)]) h6))) (ai .gtr s1 (I 31) fun t42=>
 ifB t42 (
 Q (.tup [(.lit (.int .u32 0)),(B false)]) h) (
 ai .quo s1 (I 24) fun t46=>
 ai .mul t46 (I 16) fun t47=>
 ai .sub s1 t47 fun t48=>
 ci .u32 t48 fun t49=>
 C hO [s0] h fun t51 h7=>
 ai .shl t49 t51 fun t52=>
 Q (.tup [t52,(B true)]) h7))))) (
 ai .eql s26 (S ⟨#[76,50,48]⟩) fun t54=>
 ifB t54 (
 C uJ [s1] h fun t57 h8=>
 an 0 t57 fun t58=>
 an 1 t57 fun t59=>
 an 2 t57 fun t60=>
 ai .shl t58 (.lit (.int .u64 11)) fun t62=>
 ai .shl t59 (.lit (.int .u64 16)) fun t64=>
 ai .or t62 t64 fun t65=>
 ai .or t65 t60 fun t67=>
 ci .u32 t67 fun t68=>
 C oC [s1,(I 20)] h8 fun t70 h9=>
 Q (.tup [t68,t70]) h9) (
 ai .eql s26 (S ⟨#[67,56]⟩) fun t72=>
 ifB t72 (
 C xr [s1] h fun t75 h10=>
 an 0 t75 fun t76=>
 an 1 t75 fun t77=>
 an 2 t75 fun t78=>
 an 3 t75 fun t79=>
 ai .shl t76 (.lit (.int .u64 10)) fun t81=>
 ai .shl t77 (.lit (.int .u64 8)) fun t83=>
 ai .or t81 t83 fun t84=>
 ai .or t84 t78 fun t86=>
 ci .u32 t86 fun t87=>
 Q (.tup [t87,t79]) h10) (
 ai .eql s26 (S ⟨#[83,49,54]⟩) fun t90=>
 ifB t90 (
 ai .and s1 (I 65535) fun t92=>
 ci .u32 t92 fun t93=>
 C oC [s1,(I 16)] h fun t95 h11=>
 Q (.tup [t93,t95]) h11) (
 ai .rem s1 (I 2) fun t97=>
 ai .neq t97 (I 0) fun t98=>
 ifB t98 (Q (.tup [(.lit (.int .u32 0)),(B false)]) h) (
 C xE [s0] h fun t102 h12=>
 C oC [s1,t102] h12 fun t103 h13=>
 qUn .not t103 fun t104=>
 ifB t104 (
 Q (.tup [(.lit (.int .u32 0)),(B false)]) h13) (
 ai .eql s0 (S ⟨#[84,56]⟩) fun t107=>
 ifB t107 (
 ai .quo s1 (I 2) fun t109=>
 ai .and t109 (I 255) fun t110=>
 ci .u32 t110 fun t111=>
 Q (.tup [t111,(B true)]) h13) (
 C xE [s0] h13 fun t114 h14=>
 ai .shl (I 1) t114 fun t115=>
 ai .sub t115 (I 1) fun t116=>
 ai .and s1 t116 fun t117=>
 ci .u32 t117 fun t118=>
 Q (.tup [t118,(B true)]) h14)))))))
def dM (a0 a1:AV) (h:ae) (Q:QT):Prop:=
 C zp [a0] h fun t17 h0=>
 an 0 t17 fun t18=>
 an 1 t17 fun t19=>
 df [(.lit (.int .u64 0)),(.lit (.int .u64 0)),(I 0),(I 0)] h0 fun t6 h1=>
 ak 4 t6 t18 h1 fun h2=>
 ifB t19 (
 aw 4 t6 h2 fun t21=>
 C nA [t21,a1] h2 fun t23 h3=>
 an 0 t23 fun t24=>
 an 1 t23 fun t25=>
 Q (.tup [t24,t25]) h3) (
 ai .eql a0 (S ⟨#[88]⟩) fun t28=>
 ifB t28 (
 DP t28 a0 a0 a1 h2 Q) (
 ai .eql a0 (S ⟨#[89]⟩) fun t29=>
 DP t29 a0 a0 a1 h2 Q))
theorem bS (a0 a1:AV) (h:ae) (Q:QT) (k:dM a0 a1 h Q):C bx [a0,a1] h Q:=
 okF (pl:=[]) Tryz.func169 Tryz.ntmps169 (by kernel_rfl) (by kernel_rfl) rfl (by kernel_rfl) k
def Ba (a0:AV) (h:ae) (Q:QT):Prop:=
 gk a0 h fun t1 h0=>
 ab 2 t1 fun t3=>
 ag t3 h0 fun t4=>
 C eo [t4] h0 fun t5 h1=>
 Q t5 h1
theorem EI (a0:AV) (h:ae) (Q:QT) (k:Ba a0 h Q):C lf [a0] h Q:=
 okF (pl:=[]) Tryz.func168 Tryz.ntmps168 (by kernel_rfl) (by kernel_rfl) rfl (by kernel_rfl) k
def tA (a0:AV) (h:ae) (Q:QT):Prop:=
 gk a0 h fun t1 h0=>
 ab 2 t1 fun t3=>
 ag t3 h0 fun t4=>
 Q t4 h0
theorem yQ (a0:AV) (h:ae) (Q:QT) (k:tA a0 h Q):C kx [a0] h Q:=
 okF (pl:=[]) Tryz.func174 Tryz.ntmps174 (by kernel_rfl) (by kernel_rfl) rfl (by kernel_rfl) k
def zO (a0:AV) (h:ae) (Q:QT):Prop:=
 gk a0 h fun t1 h0=>
 ab 0 t1 fun t3=>
 ag t3 h0 fun t4=>
 Q t4 h0
theorem Cs (a0:AV) (h:ae) (Q:QT) (k:zO a0 h Q):C ni [a0] h Q:=
 okF (pl:=[]) Tryz.func211 Tryz.ntmps211 (by kernel_rfl) (by kernel_rfl) rfl (by kernel_rfl) k
def Jc (h:ae) (Q:QT):Prop:=
 ax [(S ⟨#[]⟩),(.lit (.int .u32 0)),(S ⟨#[]⟩)] [(0,1,(S ⟨#[115,101,95,105,108,108,101,103,97,108]⟩)),(1,1,(.lit (.int .u32 0))),(2,1,(S ⟨#[]⟩))] fun t1=>
 ax [(S ⟨#[]⟩),(.lit (.int .u32 0)),(S ⟨#[]⟩)] [(0,1,(S ⟨#[115,101,95,105,115,121,110,99]⟩)),(1,1,(.lit (.int .u32 1))),(2,1,(S ⟨#[]⟩))] fun t2=>
 ax [(S ⟨#[]⟩),(.lit (.int .u32 0)),(S ⟨#[]⟩)] [(0,1,(S ⟨#[115,101,95,115,99]⟩)),(1,1,(.lit (.int .u32 2))),(2,1,(S ⟨#[]⟩))] fun t3=>
 ax [(S ⟨#[]⟩),(.lit (.int .u32 0)),(S ⟨#[]⟩)] [(0,1,(S ⟨#[115,101,95,98,108,114]⟩)),(1,1,(.lit (.int .u32 4))),(2,1,(S ⟨#[]⟩))] fun t4=>
 ax [(S ⟨#[]⟩),(.lit (.int .u32 0)),(S ⟨#[]⟩)] [(0,1,(S ⟨#[115,101,95,98,99,116,114]⟩)),(1,1,(.lit (.int .u32 6))),(2,1,(S ⟨#[]⟩))] fun t5=>
 ax [(S ⟨#[]⟩),(.lit (.int .u32 0)),(S ⟨#[]⟩)] [(0,1,(S ⟨#[115,101,95,110,111,116]⟩)),(1,1,(.lit (.int .u32 32))),(2,1,(S ⟨#[88]⟩))] fun t6=>
 ax [(S ⟨#[]⟩),(.lit (.int .u32 0)),(S ⟨#[]⟩)] [(0,1,(S ⟨#[115,101,95,110,101,103]⟩)),(1,1,(.lit (.int .u32 48))),(2,1,(S ⟨#[88]⟩))] fun t7=>
 ax [(S ⟨#[]⟩),(.lit (.int .u32 0)),(S ⟨#[]⟩)] [(0,1,(S ⟨#[115,101,95,109,102,108,114]⟩)),(1,1,(.lit (.int .u32 128))),(2,1,(S ⟨#[88]⟩))] fun t8=>
 ax [(S ⟨#[]⟩),(.lit (.int .u32 0)),(S ⟨#[]⟩)] [(0,1,(S ⟨#[115,101,95,109,116,108,114]⟩)),(1,1,(.lit (.int .u32 144))),(2,1,(S ⟨#[88]⟩))] fun t9=>
 ax [(S ⟨#[]⟩),(.lit (.int .u32 0)),(S ⟨#[]⟩)] [(0,1,(S ⟨#[115,101,95,109,102,99,116,114]⟩)),(1,1,(.lit (.int .u32 160))),(2,1,(S ⟨#[88]⟩))] fun t10=>
 ax [(S ⟨#[]⟩),(.lit (.int .u32 0)),(S ⟨#[]⟩)] [(0,1,(S ⟨#[115,101,95,109,116,99,116,114]⟩)),(1,1,(.lit (.int .u32 176))),(2,1,(S ⟨#[88]⟩))] fun t11=>
 ax [(S ⟨#[]⟩),(.lit (.int .u32 0)),(S ⟨#[]⟩)] [(0,1,(S ⟨#[115,101,95,101,120,116,122,98]⟩)),(1,1,(.lit (.int .u32 192))),(2,1,(S ⟨#[88]⟩))] fun t12=>
 ax [(S ⟨#[]⟩),(.lit (.int .u32 0)),(S ⟨#[]⟩)] [(0,1,(S ⟨#[115,101,95,101,120,116,115,98]⟩)),(1,1,(.lit (.int .u32 208))),(2,1,(S ⟨#[88]⟩))] fun t13=>
 ax [(S ⟨#[]⟩),(.lit (.int .u32 0)),(S ⟨#[]⟩)] [(0,1,(S ⟨#[115,101,95,101,120,116,122,104]⟩)),(1,1,(.lit (.int .u32 224))),(2,1,(S ⟨#[88]⟩))] fun t14=>
 ax [(S ⟨#[]⟩),(.lit (.int .u32 0)),(S ⟨#[]⟩)] [(0,1,(S ⟨#[115,101,95,101,120,116,115,104]⟩)),(1,1,(.lit (.int .u32 240))),(2,1,(S ⟨#[88]⟩))] fun t15=>
 ax [(S ⟨#[]⟩),(.lit (.int .u32 0)),(S ⟨#[]⟩)] [(0,1,(S ⟨#[115,101,95,109,114]⟩)),(1,1,(.lit (.int .u32 256))),(2,1,(S ⟨#[88,32,89]⟩))] fun t16=>
 ax [(S ⟨#[]⟩),(.lit (.int .u32 0)),(S ⟨#[]⟩)] [(0,1,(S ⟨#[115,101,95,97,100,100]⟩)),(1,1,(.lit (.int .u32 1024))),(2,1,(S ⟨#[88,32,89]⟩))] fun t17=>
 ax [(S ⟨#[]⟩),(.lit (.int .u32 0)),(S ⟨#[]⟩)] [(0,1,(S ⟨#[115,101,95,109,117,108,108,119]⟩)),(1,1,(.lit (.int .u32 1280))),(2,1,(S ⟨#[88,32,89]⟩))] fun t18=>
 ax [(S ⟨#[]⟩),(.lit (.int .u32 0)),(S ⟨#[]⟩)] [(0,1,(S ⟨#[115,101,95,115,117,98]⟩)),(1,1,(.lit (.int .u32 1536))),(2,1,(S ⟨#[88,32,89]⟩))] fun t19=>
 ax [(S ⟨#[]⟩),(.lit (.int .u32 0)),(S ⟨#[]⟩)] [(0,1,(S ⟨#[115,101,95,99,109,112]⟩)),(1,1,(.lit (.int .u32 3072))),(2,1,(S ⟨#[88,32,89]⟩))] fun t20=>
 ax [(S ⟨#[]⟩),(.lit (.int .u32 0)),(S ⟨#[]⟩)] [(0,1,(S ⟨#[115,101,95,99,109,112,108]⟩)),(1,1,(.lit (.int .u32 3328))),(2,1,(S ⟨#[88,32,89]⟩))] fun t21=>
 ax [(S ⟨#[]⟩),(.lit (.int .u32 0)),(S ⟨#[]⟩)] [(0,1,(S ⟨#[115,101,95,97,100,100,105]⟩)),(1,1,(.lit (.int .u32 8192))),(2,1,(S ⟨#[88,32,79,53]⟩))] fun t22=>
 ax [(S ⟨#[]⟩),(.lit (.int .u32 0)),(S ⟨#[]⟩)] [(0,1,(S ⟨#[115,101,95,99,109,112,108,105]⟩)),(1,1,(.lit (.int .u32 8704))),(2,1,(S ⟨#[88,32,79,53]⟩))] fun t23=>
 ax [(S ⟨#[]⟩),(.lit (.int .u32 0)),(S ⟨#[]⟩)] [(0,1,(S ⟨#[115,101,95,115,117,98,105]⟩)),(1,1,(.lit (.int .u32 9216))),(2,1,(S ⟨#[88,32,79,53]⟩))] fun t24=>
 ax [(S ⟨#[]⟩),(.lit (.int .u32 0)),(S ⟨#[]⟩)] [(0,1,(S ⟨#[115,101,95,99,109,112,105]⟩)),(1,1,(.lit (.int .u32 10752))),(2,1,(S ⟨#[88,32,85,53]⟩))] fun t25=>
 ax [(S ⟨#[]⟩),(.lit (.int .u32 0)),(S ⟨#[]⟩)] [(0,1,(S ⟨#[115,101,95,111,114]⟩)),(1,1,(.lit (.int .u32 17408))),(2,1,(S ⟨#[88,32,89]⟩))] fun t26=>
 ax [(S ⟨#[]⟩),(.lit (.int .u32 0)),(S ⟨#[]⟩)] [(0,1,(S ⟨#[115,101,95,97,110,100,99]⟩)),(1,1,(.lit (.int .u32 17664))),(2,1,(S ⟨#[88,32,89]⟩))] fun t27=>
 ax [(S ⟨#[]⟩),(.lit (.int .u32 0)),(S ⟨#[]⟩)] [(0,1,(S ⟨#[115,101,95,97,110,100]⟩)),(1,1,(.lit (.int .u32 17920))),(2,1,(S ⟨#[88,32,89]⟩))] fun t28=>
 ax [(S ⟨#[]⟩),(.lit (.int .u32 0)),(S ⟨#[]⟩)] [(0,1,(S ⟨#[115,101,95,108,105]⟩)),(1,1,(.lit (.int .u32 18432))),(2,1,(S ⟨#[88,32,85,55]⟩))] fun t29=>
 ax [(S ⟨#[]⟩),(.lit (.int .u32 0)),(S ⟨#[]⟩)] [(0,1,(S ⟨#[115,101,95,98,99,108,114,105]⟩)),(1,1,(.lit (.int .u32 24576))),(2,1,(S ⟨#[88,32,85,53]⟩))] fun t30=>
 ax [(S ⟨#[]⟩),(.lit (.int .u32 0)),(S ⟨#[]⟩)] [(0,1,(S ⟨#[115,101,95,98,115,101,116,105]⟩)),(1,1,(.lit (.int .u32 25600))),(2,1,(S ⟨#[88,32,85,53]⟩))] fun t31=>
 ax [(S ⟨#[]⟩),(.lit (.int .u32 0)),(S ⟨#[]⟩)] [(0,1,(S ⟨#[115,101,95,98,116,115,116,105]⟩)),(1,1,(.lit (.int .u32 26112))),(2,1,(S ⟨#[88,32,85,53]⟩))] fun t32=>
 ax [(S ⟨#[]⟩),(.lit (.int .u32 0)),(S ⟨#[]⟩)] [(0,1,(S ⟨#[115,101,95,115,114,119,105]⟩)),(1,1,(.lit (.int .u32 26624))),(2,1,(S ⟨#[88,32,85,53]⟩))] fun t33=>
 ax [(S ⟨#[]⟩),(.lit (.int .u32 0)),(S ⟨#[]⟩)] [(0,1,(S ⟨#[115,101,95,115,108,119,105]⟩)),(1,1,(.lit (.int .u32 27648))),(2,1,(S ⟨#[88,32,85,53]⟩))] fun t34=>
 ax [(S ⟨#[]⟩),(.lit (.int .u32 0)),(S ⟨#[]⟩)] [(0,1,(S ⟨#[115,101,95,108,98,122]⟩)),(1,1,(.lit (.int .u32 32768))),(2,1,(S ⟨#[89,32,77,49,32,88]⟩))] fun t35=>
 ax [(S ⟨#[]⟩),(.lit (.int .u32 0)),(S ⟨#[]⟩)] [(0,1,(S ⟨#[115,101,95,115,116,98]⟩)),(1,1,(.lit (.int .u32 36864))),(2,1,(S ⟨#[89,32,77,49,32,88]⟩))] fun t36=>
 ax [(S ⟨#[]⟩),(.lit (.int .u32 0)),(S ⟨#[]⟩)] [(0,1,(S ⟨#[115,101,95,108,104,122]⟩)),(1,1,(.lit (.int .u32 40960))),(2,1,(S ⟨#[89,32,77,50,32,88]⟩))] fun t37=>
 ax [(S ⟨#[]⟩),(.lit (.int .u32 0)),(S ⟨#[]⟩)] [(0,1,(S ⟨#[115,101,95,115,116,104]⟩)),(1,1,(.lit (.int .u32 45056))),(2,1,(S ⟨#[89,32,77,50,32,88]⟩))] fun t38=>
 ax [(S ⟨#[]⟩),(.lit (.int .u32 0)),(S ⟨#[]⟩)] [(0,1,(S ⟨#[115,101,95,108,119,122]⟩)),(1,1,(.lit (.int .u32 49152))),(2,1,(S ⟨#[89,32,77,52,32,88]⟩))] fun t39=>
 ax [(S ⟨#[]⟩),(.lit (.int .u32 0)),(S ⟨#[]⟩)] [(0,1,(S ⟨#[115,101,95,115,116,119]⟩)),(1,1,(.lit (.int .u32 53248))),(2,1,(S ⟨#[89,32,77,52,32,88]⟩))] fun t40=>
 ax [(S ⟨#[]⟩),(.lit (.int .u32 0)),(S ⟨#[]⟩)] [(0,1,(S ⟨#[115,101,95,98,99]⟩)),(1,1,(.lit (.int .u32 57344))),(2,1,(S ⟨#[79,49,32,73,50,32,84,56]⟩))] fun t41=>
 ax [(S ⟨#[]⟩),(.lit (.int .u32 0)),(S ⟨#[]⟩)] [(0,1,(S ⟨#[115,101,95,98]⟩)),(1,1,(.lit (.int .u32 59392))),(2,1,(S ⟨#[84,56]⟩))] fun t42=>
 ax [(S ⟨#[]⟩),(.lit (.int .u32 0)),(S ⟨#[]⟩)] [(0,1,(S ⟨#[115,101,95,98,108]⟩)),(1,1,(.lit (.int .u32 59648))),(2,1,(S ⟨#[84,56]⟩))] fun t43=>
 ax [(S ⟨#[]⟩),(.lit (.int .u32 0)),(S ⟨#[]⟩)] [(0,1,(S ⟨#[101,95,97,100,100,49,54,105]⟩)),(1,1,(.lit (.int .u32 469762048))),(2,1,(S ⟨#[68,32,65,32,83,49,54]⟩))] fun t44=>
 ax [(S ⟨#[]⟩),(.lit (.int .u32 0)),(S ⟨#[]⟩)] [(0,1,(S ⟨#[101,95,97,100,100,105]⟩)),(1,1,(.lit (.int .u32 402685952))),(2,1,(S ⟨#[68,32,65,32,67,56]⟩))] fun t45=>
 ax [(S ⟨#[]⟩),(.lit (.int .u32 0)),(S ⟨#[]⟩)] [(0,1,(S ⟨#[101,95,97,110,100,105]⟩)),(1,1,(.lit (.int .u32 402702336))),(2,1,(S ⟨#[65,32,68,32,67,56]⟩))] fun t46=>
 ax [(S ⟨#[]⟩),(.lit (.int .u32 0)),(S ⟨#[]⟩)] [(0,1,(S ⟨#[101,95,111,114,105]⟩)),(1,1,(.lit (.int .u32 402706432))),(2,1,(S ⟨#[65,32,68,32,67,56]⟩))] fun t47=>
 ax [(S ⟨#[]⟩),(.lit (.int .u32 0)),(S ⟨#[]⟩)] [(0,1,(S ⟨#[101,95,120,111,114,105]⟩)),(1,1,(.lit (.int .u32 402710528))),(2,1,(S ⟨#[65,32,68,32,67,56]⟩))] fun t48=>
 ax [(S ⟨#[]⟩),(.lit (.int .u32 0)),(S ⟨#[]⟩)] [(0,1,(S ⟨#[101,95,108,105]⟩)),(1,1,(.lit (.int .u32 1879048192))),(2,1,(S ⟨#[68,32,76,50,48]⟩))] fun t49=>
 ax [(S ⟨#[]⟩),(.lit (.int .u32 0)),(S ⟨#[]⟩)] [(0,1,(S ⟨#[101,95,108,98,122]⟩)),(1,1,(.lit (.int .u32 805306368))),(2,1,(S ⟨#[68,32,83,49,54,32,65]⟩))] fun t50=>
 ax [(S ⟨#[]⟩),(.lit (.int .u32 0)),(S ⟨#[]⟩)] [(0,1,(S ⟨#[101,95,115,116,98]⟩)),(1,1,(.lit (.int .u32 872415232))),(2,1,(S ⟨#[68,32,83,49,54,32,65]⟩))] fun t51=>
 ax [(S ⟨#[]⟩),(.lit (.int .u32 0)),(S ⟨#[]⟩)] [(0,1,(S ⟨#[101,95,108,104,97]⟩)),(1,1,(.lit (.int .u32 939524096))),(2,1,(S ⟨#[68,32,83,49,54,32,65]⟩))] fun t52=>
 ax [(S ⟨#[]⟩),(.lit (.int .u32 0)),(S ⟨#[]⟩)] [(0,1,(S ⟨#[101,95,108,119,122]⟩)),(1,1,(.lit (.int .u32 1342177280))),(2,1,(S ⟨#[68,32,83,49,54,32,65]⟩))] fun t53=>
 ax [(S ⟨#[]⟩),(.lit (.int .u32 0)),(S ⟨#[]⟩)] [(0,1,(S ⟨#[101,95,115,116,119]⟩)),(1,1,(.lit (.int .u32 1409286144))),(2,1,(S ⟨#[68,32,83,49,54,32,65]⟩))] fun t54=>
 ax [(S ⟨#[]⟩),(.lit (.int .u32 0)),(S ⟨#[]⟩)] [(0,1,(S ⟨#[101,95,108,104,122]⟩)),(1,1,(.lit (.int .u32 1476395008))),(2,1,(S ⟨#[68,32,83,49,54,32,65]⟩))] fun t55=>
 ax [(S ⟨#[]⟩),(.lit (.int .u32 0)),(S ⟨#[]⟩)] [(0,1,(S ⟨#[101,95,115,116,104]⟩)),(1,1,(.lit (.int .u32 1543503872))),(2,1,(S ⟨#[68,32,83,49,54,32,65]⟩))] fun t56=>
 ax [(S ⟨#[]⟩),(.lit (.int .u32 0)),(S ⟨#[]⟩)] [(0,1,(S ⟨#[101,95,98]⟩)),(1,1,(.lit (.int .u32 2013265920))),(2,1,(S ⟨#[84,50,52]⟩))] fun t57=>
 ax [(S ⟨#[]⟩),(.lit (.int .u32 0)),(S ⟨#[]⟩)] [(0,1,(S ⟨#[101,95,98,108]⟩)),(1,1,(.lit (.int .u32 2013265921))),(2,1,(S ⟨#[84,50,52]⟩))] fun t58=>
 ax [(S ⟨#[]⟩),(.lit (.int .u32 0)),(S ⟨#[]⟩)] [(0,1,(S ⟨#[101,95,98,99]⟩)),(1,1,(.lit (.int .u32 2046820352))),(2,1,(S ⟨#[79,50,32,73,52,32,84,49,53]⟩))] fun t59=>
 ax [(S ⟨#[]⟩),(.lit (.int .u32 0)),(S ⟨#[]⟩)] [(0,1,(S ⟨#[101,95,98,99,108]⟩)),(1,1,(.lit (.int .u32 2046820353))),(2,1,(S ⟨#[79,50,32,73,52,32,84,49,53]⟩))] fun t60=>
 ax [(S ⟨#[]⟩),(.lit (.int .u32 0)),(S ⟨#[]⟩)] [(0,1,(S ⟨#[97,100,100]⟩)),(1,1,(.lit (.int .u32 2080375316))),(2,1,(S ⟨#[68,32,65,32,66]⟩))] fun t61=>
 ax [(S ⟨#[]⟩),(.lit (.int .u32 0)),(S ⟨#[]⟩)] [(0,1,(S ⟨#[115,117,98,102]⟩)),(1,1,(.lit (.int .u32 2080374864))),(2,1,(S ⟨#[68,32,65,32,66]⟩))] fun t62=>
 ax [(S ⟨#[]⟩),(.lit (.int .u32 0)),(S ⟨#[]⟩)] [(0,1,(S ⟨#[109,117,108,108,119]⟩)),(1,1,(.lit (.int .u32 2080375254))),(2,1,(S ⟨#[68,32,65,32,66]⟩))] fun t63=>
 ax [(S ⟨#[]⟩),(.lit (.int .u32 0)),(S ⟨#[]⟩)] [(0,1,(S ⟨#[97,110,100]⟩)),(1,1,(.lit (.int .u32 2080374840))),(2,1,(S ⟨#[65,32,68,32,66]⟩))] fun t64=>
 ax [(S ⟨#[]⟩),(.lit (.int .u32 0)),(S ⟨#[]⟩)] [(0,1,(S ⟨#[111,114]⟩)),(1,1,(.lit (.int .u32 2080375672))),(2,1,(S ⟨#[65,32,68,32,66]⟩))] fun t65=>
 ax [(S ⟨#[]⟩),(.lit (.int .u32 0)),(S ⟨#[]⟩)] [(0,1,(S ⟨#[120,111,114]⟩)),(1,1,(.lit (.int .u32 2080375416))),(2,1,(S ⟨#[65,32,68,32,66]⟩))] fun t66=>
 ao 66 3 [t1,t2,t3,t4,t5,t6,t7,t8,t9,t10,t11,t12,t13,t14,t15,t16,t17,t18,t19,t20,t21,t22,t23,t24,t25,t26,t27,t28,t29,t30,t31,t32,t33,t34,t35,t36,t37,t38,t39,t40,t41,t42,t43,t44,t45,t46,t47,t48,t49,t50,t51,t52,t53,t54,t55,t56,t57,t58,t59,t60,t61,t62,t63,t64,t65,t66] fun t67=>
 Q t67 h
theorem Mr (h:ae) (Q:QT) (k:Jc  h Q):C jV [] h Q:=
 okF (pl:=[]) Tryz.func197 Tryz.ntmps197 (by kernel_rfl) (by kernel_rfl) rfl (by kernel_rfl) k
def tR (a0:AV) (h:ae) (Q:QT):Prop:=
 ai .eql a0 (S ⟨#[84,56]⟩) fun t5=>
 ifB t5 (
 Q (I 9) h) (
 ai .eql a0 (S ⟨#[84,50,52]⟩) fun t7=>
 ifB t7 (
 Q (I 25) h) (
 Q (I 16) h))
theorem oz (a0:AV) (h:ae) (Q:QT) (k:tR a0 h Q):C xE [a0] h Q:=
 okF (pl:=[]) Tryz.func218 Tryz.ntmps218 (by kernel_rfl) (by kernel_rfl) rfl (by kernel_rfl) k
def d8 (a0:AV) (h:ae) (Q:QT):Prop:=
 jP .eql a0 fun t4=>
 ifB t4 (
 Q (.full 0 []) h) (
 ao 0 5 [] fun t5=>
 bc 5 64 t5 a0 h fun t7 h0=>
 Q t7 h0)
theorem fV (a0:AV) (h:ae) (Q:QT) (k:d8 a0 h Q):C dC [a0] h Q:=
 okF (pl:=[]) Tryz.func113 Tryz.ntmps113 (by kernel_rfl) (by kernel_rfl) rfl (by kernel_rfl) k
def dL (a0:AV) (h:ae) (Q:QT):Prop:=
 jP .eql a0 fun t4=>
 ifB t4 (
 Q (.full 0 []) h) (
 ao 0 3 [] fun t5=>
 bc 3 32 t5 a0 h fun t7 h0=>
 Q t7 h0)
theorem ff (a0:AV) (h:ae) (Q:QT) (k:dL a0 h Q):C de [a0] h Q:=
 okF (pl:=[]) Tryz.func47 Tryz.ntmps47 (by kernel_rfl) (by kernel_rfl) rfl (by kernel_rfl) k
def gj (a0:AV) (h:ae) (Q:QT):Prop:=
 jP .eql a0 fun t4=>
 ifB t4 (
 Q (.full 0 []) h) (
 ao 0 2 [] fun t5=>
 bc 2 32 t5 a0 h fun t7 h0=>
 Q t7 h0)
theorem lr (a0:AV) (h:ae) (Q:QT) (k:gj a0 h Q):C ln [a0] h Q:=
 okF (pl:=[]) Tryz.func53 Tryz.ntmps53 (by kernel_rfl) (by kernel_rfl) rfl (by kernel_rfl) k
def dJ (a0:AV) (h:ae) (Q:QT):Prop:=
 jP .eql a0 fun t4=>
 ifB t4 (
 Q (.full 0 []) h) (
 ao 0 6 [] fun t5=>
 bc 6 80 t5 a0 h fun t7 h0=>
 Q t7 h0)
theorem fa (a0:AV) (h:ae) (Q:QT) (k:dJ a0 h Q):C c7 [a0] h Q:=
 okF (pl:=[]) Tryz.func80 Tryz.ntmps80 (by kernel_rfl) (by kernel_rfl) rfl (by kernel_rfl) k
def gY (a0:AV) (h:ae) (Q:QT):Prop:=
 jP .eql a0 fun t4=>
 ifB t4 (
 Q (.full 0 []) h) (
 ao 0 2 [] fun t5=>
 bc 2 24 t5 a0 h fun t7 h0=>
 Q t7 h0)
theorem lX (a0:AV) (h:ae) (Q:QT) (k:gY a0 h Q):C mL [a0] h Q:=
 okF (pl:=[]) Tryz.func55 Tryz.ntmps55 (by kernel_rfl) (by kernel_rfl) rfl (by kernel_rfl) k
def gO (a0:AV) (h:ae) (Q:QT):Prop:=
 jP .eql a0 fun t4=>
 ifB t4 (
 Q (.full 0 []) h) (
 ao 0 1 [] fun t5=>
 bc 1 1 t5 a0 h fun t7 h0=>
 Q t7 h0)
theorem jx (a0:AV) (h:ae) (Q:QT) (k:gO a0 h Q):C dz [a0] h Q:=
 okF (pl:=[]) Tryz.func49 Tryz.ntmps49 (by kernel_rfl) (by kernel_rfl) rfl (by kernel_rfl) k
def iK (a0:AV) (h:ae) (Q:QT):Prop:=
 jP .eql a0 fun t4=>
 ifB t4 (
 Q (.full 0 []) h) (
 ao 0 1 [] fun t5=>
 bc 1 8 t5 a0 h fun t7 h0=>
 Q t7 h0)
theorem kQ (a0:AV) (h:ae) (Q:QT) (k:iK a0 h Q):C gh [a0] h Q:=
 okF (pl:=[]) Tryz.func81 Tryz.ntmps81 (by kernel_rfl) (by kernel_rfl) rfl (by kernel_rfl) k
def eL (a0:AV) (h:ae) (Q:QT):Prop:=
 jP .eql a0 fun t4=>
 ifB t4 (
 Q (.full 0 []) h) (
 ao 0 1 [] fun t5=>
 bc 1 16 t5 a0 h fun t7 h0=>
 Q t7 h0)
theorem gF (a0:AV) (h:ae) (Q:QT) (k:eL a0 h Q):C dW [a0] h Q:=
 okF (pl:=[]) Tryz.func39 Tryz.ntmps39 (by kernel_rfl) (by kernel_rfl) rfl (by kernel_rfl) k
def d9 (a0 a1:AV) (h:ae) (Q:QT):Prop:=
 C cE [a0,a1] h fun t7 h0=>
 ai .geq t7 (I 0) fun t8=>
 Q t8 h0
theorem iB (a0 a1:AV) (h:ae) (Q:QT) (k:d9 a0 a1 h Q):C bF [a0,a1] h Q:=
 okF (pl:=[]) Tryz.func157 Tryz.ntmps157 (by kernel_rfl) (by kernel_rfl) rfl (by kernel_rfl) k
def dR (a0 a1:AV) (h:ae) (Q:QT):Prop:=
 C cw [a0,a1] h fun t7 h0=>
 ai .geq t7 (I 0) fun t8=>
 Q t8 h0
theorem gV (a0 a1:AV) (h:ae) (Q:QT) (k:dR a0 a1 h Q):C cc [a0,a1] h Q:=
 okF (pl:=[]) Tryz.func209 Tryz.ntmps209 (by kernel_rfl) (by kernel_rfl) rfl (by kernel_rfl) k
def kN (a0 a1:AV) (h:ae) (Q:QT):Prop:=
 C fX [a0,a1] h fun t7 h0=>
 ai .geq t7 (I 0) fun t8=>
 Q t8 h0
theorem pQ (a0 a1:AV) (h:ae) (Q:QT) (k:kN a0 a1 h Q):C bf [a0,a1] h Q:=
 okF (pl:=[]) Tryz.func117 Tryz.ntmps117 (by kernel_rfl) (by kernel_rfl) rfl (by kernel_rfl) k
def gH (a0 a1:AV) (h:ae) (Q:QT):Prop:=
 C bD [a0,a1] h fun t7 h0=>
 ai .geq t7 (I 0) fun t8=>
 Q t8 h0
theorem lP (a0 a1:AV) (h:ae) (Q:QT) (k:gH a0 a1 h Q):C dk [a0,a1] h Q:=
 okF (pl:=[]) Tryz.func66 Tryz.ntmps66 (by kernel_rfl) (by kernel_rfl) rfl (by kernel_rfl) k
def d6 (s7 s0 s1:AV) (Q:QT) (vs0:List AV) (h:ae) (next0:NT):Prop:=
 ai .lss (ap vs0 1) s7 fun t9=>
 ifB t9 (
 am 4 s0 (ap vs0 1) fun t14=>
 aw 4 t14 h fun t15=>
 CV s1 [t15] h fun t16 h1=>
 ifB t16 (
 Q (ap vs0 1) h1) (
 ai .add (ap vs0 1) (I 1) fun t18=>
 next0 [(ap vs0 0),t18] h1)) (
 Q (I (-1)) h)
def eP (a0 a1:AV) (h:ae) (Q:QT):Prop:=
 aY a0 fun t7=>
 cb [(I 0),(I 0)] h fun vs0 h next0=>d6 t7 a0 a1 Q vs0 h next0
theorem jr (a0 a1:AV) (h:ae) (Q:QT) (k:eP a0 a1 h Q):C cE [a0,a1] h Q:=
 okF (pl:=[(3,[4,5,8,9,10,11,12,13,14,15,16,17,18],[4,8])]) Tryz.func207 Tryz.ntmps207 (by kernel_rfl) (by kernel_rfl) rfl (by kernel_rfl) k
def eE (s7 s0 s1:AV) (Q:QT) (vs0:List AV) (h:ae) (next0:NT):Prop:=
 ai .lss (ap vs0 1) s7 fun t9=>
 ifB t9 (
 am 2 s0 (ap vs0 1) fun t14=>
 aw 2 t14 h fun t15=>
 CV s1 [t15] h fun t16 h1=>
 ifB t16 (
 Q (ap vs0 1) h1) (
 ai .add (ap vs0 1) (I 1) fun t18=>
 next0 [(ap vs0 0),t18] h1)) (
 Q (I (-1)) h)
def fq (a0 a1:AV) (h:ae) (Q:QT):Prop:=
 aY a0 fun t7=>
 cb [(I 0),(I 0)] h fun vs0 h next0=>eE t7 a0 a1 Q vs0 h next0
theorem ky (a0 a1:AV) (h:ae) (Q:QT) (k:fq a0 a1 h Q):C cO [a0,a1] h Q:=
 okF (pl:=[(3,[4,5,8,9,10,11,12,13,14,15,16,17,18],[4,8])]) Tryz.func204 Tryz.ntmps204 (by kernel_rfl) (by kernel_rfl) rfl (by kernel_rfl) k
def dT (s7 s0 s1:AV) (Q:QT) (vs0:List AV) (h:ae) (next0:NT):Prop:=
 ai .lss (ap vs0 1) s7 fun t9=>
 ifB t9 (
 am 1 s0 (ap vs0 1) fun t14=>
 ag t14 h fun t15=>
 CV s1 [t15] h fun t16 h1=>
 ifB t16 (
 Q (ap vs0 1) h1) (
 ai .add (ap vs0 1) (I 1) fun t18=>
 next0 [(ap vs0 0),t18] h1)) (
 Q (I (-1)) h)
def em (a0 a1:AV) (h:ae) (Q:QT):Prop:=
 aY a0 fun t7=>
 cb [(I 0),(I 0)] h fun vs0 h next0=>dT t7 a0 a1 Q vs0 h next0
theorem iI (a0 a1:AV) (h:ae) (Q:QT) (k:em a0 a1 h Q):C cw [a0,a1] h Q:=
 okF (pl:=[(3,[4,5,8,9,10,11,12,13,14,15,16,17,18],[4,8])]) Tryz.func241 Tryz.ntmps241 (by kernel_rfl) (by kernel_rfl) rfl (by kernel_rfl) k
def eG (s7 s0 s1:AV) (Q:QT) (vs0:List AV) (h:ae) (next0:NT):Prop:=
 ai .lss (ap vs0 1) s7 fun t9=>
 ifB t9 (
 am 3 s0 (ap vs0 1) fun t14=>
 aw 3 t14 h fun t15=>
 CV s1 [t15] h fun t16 h1=>
 ifB t16 (
 Q (ap vs0 1) h1) (
 ai .add (ap vs0 1) (I 1) fun t18=>
 next0 [(ap vs0 0),t18] h1)) (
 Q (I (-1)) h)
def fp (a0 a1:AV) (h:ae) (Q:QT):Prop:=
 aY a0 fun t7=>
 cb [(I 0),(I 0)] h fun vs0 h next0=>eG t7 a0 a1 Q vs0 h next0
theorem kE (a0 a1:AV) (h:ae) (Q:QT) (k:fp a0 a1 h Q):C cP [a0,a1] h Q:=
 okF (pl:=[(3,[4,5,8,9,10,11,12,13,14,15,16,17,18],[4,8])]) Tryz.func196 Tryz.ntmps196 (by kernel_rfl) (by kernel_rfl) rfl (by kernel_rfl) k
def kR (s7 s0 s1:AV) (Q:QT) (vs0:List AV) (h:ae) (next0:NT):Prop:=
 ai .lss (ap vs0 1) s7 fun t9=>
 ifB t9 (
 am 1 s0 (ap vs0 1) fun t14=>
 ag t14 h fun t15=>
 ai .eql s1 t15 fun t16=>
 ifB t16 (
 Q (ap vs0 1) h) (
 ai .add (ap vs0 1) (I 1) fun t18=>
 next0 [(ap vs0 0),t18] h)) (
 Q (I (-1)) h)
def mZ (a0 a1:AV) (h:ae) (Q:QT):Prop:=
 aY a0 fun t7=>
 cb [(I 0),(I 0)] h fun vs0 h next0=>kR t7 a0 a1 Q vs0 h next0
theorem sI (a0 a1:AV) (h:ae) (Q:QT) (k:mZ a0 a1 h Q):C fX [a0,a1] h Q:=
 okF (pl:=[(3,[4,5,8,9,10,11,12,13,14,15,16,17,18],[4,8])]) Tryz.func156 Tryz.ntmps156 (by kernel_rfl) (by kernel_rfl) rfl (by kernel_rfl) k
def gR (s7 s0 s1:AV) (Q:QT) (vs0:List AV) (h:ae) (next0:NT):Prop:=
 ai .lss (ap vs0 1) s7 fun t9=>
 ifB t9 (
 am 1 s0 (ap vs0 1) fun t14=>
 ag t14 h fun t15=>
 ai .eql s1 t15 fun t16=>
 ifB t16 (
 Q (ap vs0 1) h) (
 ai .add (ap vs0 1) (I 1) fun t18=>
 next0 [(ap vs0 0),t18] h)) (
 Q (I (-1)) h)
def iQ (a0 a1:AV) (h:ae) (Q:QT):Prop:=
 aY a0 fun t7=>
 cb [(I 0),(I 0)] h fun vs0 h next0=>gR t7 a0 a1 Q vs0 h next0
theorem nr (a0 a1:AV) (h:ae) (Q:QT) (k:iQ a0 a1 h Q):C bD [a0,a1] h Q:=
 okF (pl:=[(3,[4,5,8,9,10,11,12,13,14,15,16,17,18],[4,8])]) Tryz.func98 Tryz.ntmps98 (by kernel_rfl) (by kernel_rfl) rfl (by kernel_rfl) k
def mC (s0:AV) (Q:QT) (vs0:List AV) (h:ae) (next0:NT):Prop:=
 aY s0 fun t14=>
 ai .lss (ap vs0 1) t14 fun t15=>
 ifB t15 (
 am 1 s0 (ap vs0 1) fun t21=>
 ag t21 h fun t22=>
 Co (ap vs0 0) t22 fun t23=>
 ai .add (ap vs0 1) (I 1) fun t17=>
 next0 [t23,t17] h) (
 Q (ap vs0 0) h)
def mp (s0:AV) (h:ae) (Q:QT):Prop:=
 am 1 s0 (I 0) fun t10=>
 ag t10 h fun t11=>
 cb [t11,(I 1)] h fun vs0 h next0=>mC s0 Q vs0 h next0
def pC (a0:AV) (h:ae) (Q:QT):Prop:=
 aY a0 fun t6=>
 ai .lss t6 (I 1) fun t7=>
 ifB t7 (
 wB 9 (S ⟨#[115,108,105,99,101,115,46,77,97,120,58,32,101,109,112,116,121,32,108,105,115,116]⟩) fun t8=>
 False) (
 mp a0 h Q)
theorem vz (a0:AV) (h:ae) (Q:QT) (k:pC a0 h Q):C ib [a0] h Q:=
 okF (pl:=[(6,[3,4,12,13,14,15,16,17,18,19,20,21,22,23],[3,4])]) Tryz.func163 Tryz.ntmps163 (by kernel_rfl) (by kernel_rfl) rfl (by kernel_rfl) k
def mQ (s0:AV) (Q:QT) (vs0:List AV) (h:ae) (next0:NT):Prop:=
 aY s0 fun t14=>
 ai .lss (ap vs0 1) t14 fun t15=>
 ifB t15 (
 am 1 s0 (ap vs0 1) fun t21=>
 ag t21 h fun t22=>
 F0 (ap vs0 0) t22 fun t23=>
 ai .add (ap vs0 1) (I 1) fun t17=>
 next0 [t23,t17] h) (
 Q (ap vs0 0) h)
def mn (s0:AV) (h:ae) (Q:QT):Prop:=
 am 1 s0 (I 0) fun t10=>
 ag t10 h fun t11=>
 cb [t11,(I 1)] h fun vs0 h next0=>mQ s0 Q vs0 h next0
def ph (a0:AV) (h:ae) (Q:QT):Prop:=
 aY a0 fun t6=>
 ai .lss t6 (I 1) fun t7=>
 ifB t7 (
 wB 9 (S ⟨#[115,108,105,99,101,115,46,77,105,110,58,32,101,109,112,116,121,32,108,105,115,116]⟩) fun t8=>
 False) (
 mn a0 h Q)
theorem vD (a0:AV) (h:ae) (Q:QT) (k:ph a0 h Q):C ik [a0] h Q:=
 okF (pl:=[(6,[3,4,12,13,14,15,16,17,18,19,20,21,22,23],[3,4])]) Tryz.func162 Tryz.ntmps162 (by kernel_rfl) (by kernel_rfl) rfl (by kernel_rfl) k
def ul (a0 a1:AV) (h:ae) (Q:QT):Prop:=
 C jY [a0,a1] h fun t7 h0=>
 ai .geq t7 (I 0) fun t8=>
 Q t8 h0
theorem yK (a0 a1:AV) (h:ae) (Q:QT) (k:ul a0 a1 h Q):C kF [a0,a1] h Q:=
 okF (pl:=[]) Tryz.func199 Tryz.ntmps199 (by kernel_rfl) (by kernel_rfl) rfl (by kernel_rfl) k
def DF (s1:AV) (Q:QT) (vs1:List AV) (h:ae) (next1:NT):Prop:=
 C jY [(ap vs1 0),s1] h fun t22 h2=>
 ai .eql t22 (I (-1)) fun t24=>
 ifB t24 (
 Q (ap vs1 2) h2) (
 ai .add (ap vs1 2) (I 1) fun t27=>
 bH s1 fun t31=>
 ai .add t22 t31 fun t32=>
 bm (ap vs1 0) (some t32) none fun t33=>
 next1 [t33,(ap vs1 1),t27] h2)
def zz (a0 a1:AV) (h:ae) (Q:QT):Prop:=
 bH a1 fun t8=>
 ai .eql t8 (I 0) fun t9=>
 ifB t9 (
 C lQ [a0] h fun t11 h0=>
 ai .add t11 (I 1) fun t12=>
 Q t12 h0) (
 bH a1 fun t14=>
 ai .eql t14 (I 1) fun t15=>
 ifB t15 (
 bj a1 (I 0) fun t18=>
 VY .count [a0,t18] fun t19=>
 Q t19 h) (
 cb [a0,(I 0),(I 0)] h fun vs1 h next1=>DF a1 Q vs1 h next1))
theorem Ct (a0 a1:AV) (h:ae) (Q:QT) (k:zz a0 a1 h Q):C tu [a0,a1] h Q:=
 okF (pl:=[(7,[0,4,5,6,20,21,22,23,24,25,26,27,28,29,30,31,32,33],[0,4,5])]) Tryz.func136 Tryz.ntmps136 (by kernel_rfl) (by kernel_rfl) rfl (by kernel_rfl) k
def rS (a0 a1:AV) (h:ae) (Q:QT):Prop:=
 C kZ [a0,a1] h fun t7 h0=>
 Q t7 h0
theorem wC (a0 a1:AV) (h:ae) (Q:QT) (k:rS a0 a1 h Q):C fP [a0,a1] h Q:=
 okF (pl:=[]) Tryz.func266 Tryz.ntmps266 (by kernel_rfl) (by kernel_rfl) rfl (by kernel_rfl) k
def rY (a0 a1:AV) (h:ae) (Q:QT):Prop:=
 C kH [a0,a1] h fun t7 h0=>
 Q t7 h0
theorem wF (a0 a1:AV) (h:ae) (Q:QT) (k:rY a0 a1 h Q):C jz [a0,a1] h Q:=
 okF (pl:=[]) Tryz.func108 Tryz.ntmps108 (by kernel_rfl) (by kernel_rfl) rfl (by kernel_rfl) k
def zF (a0 a1:AV) (h:ae) (Q:QT):Prop:=
 C pA [a0,a1,(I 0),(I (-1))] h fun t7 h0=>
 Q t7 h0
theorem CQ (a0 a1:AV) (h:ae) (Q:QT) (k:zF a0 a1 h Q):C gC [a0,a1] h Q:=
 okF (pl:=[]) Tryz.func78 Tryz.ntmps78 (by kernel_rfl) (by kernel_rfl) rfl (by kernel_rfl) k
def Ce (a0 a1:AV) (h:ae) (Q:QT):Prop:=
 ai .eql a0 (S ⟨#[]⟩) fun t8=>
 ifB t8 (Q a0 h) (
 ai .eql a1 (S ⟨#[]⟩) fun t11=>
 ifB t11 (
 Q a0 h) (
 bH a1 fun t15=>
 ai .eql t15 (I 1) fun t16=>
 ifB t16 (bj a1 (I 0) fun t19=>
 ai .lss t19 (.lit (.int .u8 128)) fun t20=>
 ifB t20 (
 bj a1 (I 0) fun t24=>
 bj a1 (I 0) fun t27=>
 C sP [a0,t24] h fun t25 h0=>
 C ep [t25,t27] h0 fun t28 h1=>
 Q t28 h1) (
 C cA [a1] h fun t31 h2=>
 an 0 t31 fun t32=>
 an 1 t31 fun t33=>
 df (List.replicate 256 (B false)) h2 fun t5 h3=>
 ak 256 t5 t32 h3 fun h4=>
 ifB t33 (
 C dP [a0,t5] h4 fun t36 h5=>
 C cj [t36,t5] h5 fun t37 h6=>
 Q t37 h6) (
 C iP [a0,a1] h4 fun t40 h7=>
 C dD [t40,a1] h7 fun t42 h8=>
 Q t42 h8))) (
 C cA [a1] h fun t31 h9=>
 an 0 t31 fun t32=>
 an 1 t31 fun t33=>
 df (List.replicate 256 (B false)) h9 fun t5 h10=>
 ak 256 t5 t32 h10 fun h11=>
 ifB t33 (
 C dP [a0,t5] h11 fun t36 h12=>
 C cj [t36,t5] h12 fun t37 h13=>
 Q t37 h13) (
 C iP [a0,a1] h11 fun t40 h14=>
 C dD [t40,a1] h14 fun t42 h15=>
 Q t42 h15))))
theorem EA (a0 a1:AV) (h:ae) (Q:QT) (k:Ce a0 a1 h Q):C fA [a0,a1] h Q:=
 okF (pl:=[(1000004,[0,1,2,4,5,3,6,7],[])]) Tryz.func110 Tryz.ntmps110 (by kernel_rfl) (by kernel_rfl) rfl (by kernel_rfl) k
def tw (a0 a1:AV) (h:ae) (Q:QT):Prop:=
 ai .eql a0 (S ⟨#[]⟩) fun t8=>
 ifB t8 (Q a0 h) (
 ai .eql a1 (S ⟨#[]⟩) fun t11=>
 ifB t11 (
 Q a0 h) (
 bH a1 fun t15=>
 ai .eql t15 (I 1) fun t16=>
 ifB t16 (bj a1 (I 0) fun t19=>
 ai .lss t19 (.lit (.int .u8 128)) fun t20=>
 ifB t20 (
 bj a1 (I 0) fun t24=>
 C ep [a0,t24] h fun t25 h0=>
 Q t25 h0) (
 C cA [a1] h fun t28 h1=>
 an 0 t28 fun t29=>
 an 1 t28 fun t30=>
 df (List.replicate 256 (B false)) h1 fun t5 h2=>
 ak 256 t5 t29 h2 fun h3=>
 ifB t30 (
 C cj [a0,t5] h3 fun t33 h4=>
 Q t33 h4) (
 C dD [a0,a1] h3 fun t36 h5=>
 Q t36 h5))) (
 C cA [a1] h fun t28 h6=>
 an 0 t28 fun t29=>
 an 1 t28 fun t30=>
 df (List.replicate 256 (B false)) h6 fun t5 h7=>
 ak 256 t5 t29 h7 fun h8=>
 ifB t30 (
 C cj [a0,t5] h8 fun t33 h9=>
 Q t33 h9) (
 C dD [a0,a1] h8 fun t36 h10=>
 Q t36 h10))))
theorem yS (a0 a1:AV) (h:ae) (Q:QT) (k:tw a0 a1 h Q):C kp [a0,a1] h Q:=
 okF (pl:=[]) Tryz.func256 Tryz.ntmps256 (by kernel_rfl) (by kernel_rfl) rfl (by kernel_rfl) k
def kj (a0 a1:AV) (h:ae) (Q:QT):Prop:=
 aE a0 fun t7=>
 cd 256 1 t7 a1 fun t8=>
 ag t8 h fun t9=>
 Q t9 h
theorem pf (a0 a1:AV) (h:ae) (Q:QT) (k:kj a0 a1 h Q):C cY [a0,a1] h Q:=
 okF (pl:=[]) Tryz.func193 Tryz.ntmps193 (by kernel_rfl) (by kernel_rfl) rfl (by kernel_rfl) k
def pn (s0 s10 s9:AV) (h:ae) (Q:QT):Prop:=
 am 1 s9 s10 fun t61=>
 ak 1 t61 s0 h fun h5=>
 ai .add s10 (I 1) fun t64=>
 ir 1 s9 none (some t64) fun t65=>
 Q t65 h5
def gw (s0 s10 s9:AV) (h:ae) (Q:QT):Prop:=
 pn s0 s10 s9 h Q
def pi (s3 s9 s1 s2:AV) (Q:QT) (vs3:List AV) (h:ae) (next3:NT):Prop:=
 ai .lss (ap vs3 1) s3 fun t36=>
 ifB t36 (
 C jY [(ap vs3 0),s1] h fun t39 h4=>
 ai .lss t39 (I 0) fun t41=>
 ifB t41 (
 gw (ap vs3 0) (ap vs3 1) s9 h4 Q) (
 ai .add t39 s2 fun t47=>
 bm (ap vs3 0) none (some t47) fun t48=>
 am 1 s9 (ap vs3 1) fun t49=>
 ak 1 t49 t48 h4 fun h8=>
 bH s1 fun t53=>
 ai .add t39 t53 fun t54=>
 bm (ap vs3 0) (some t54) none fun t55=>
 ai .add (ap vs3 1) (I 1) fun t57=>
 next3 [t55,t57] h8)) (
 gw (ap vs3 0) (ap vs3 1) s9 h Q)
def oN (s3 s0 s1 s2:AV) (h:ae) (Q:QT):Prop:=
 bH s0 fun t27=>
 ai .add t27 (I 1) fun t28=>
 F0 s3 t28 fun t29=>
 lq 16 (S ⟨#[]⟩) t29 t29 h fun t31 h2=>
 ai .sub t29 (I 1) fun t33=>
 cb [s0,(I 0)] h2 fun vs3 h next3=>pi t33 t31 s1 s2 Q vs3 h next3
def ue (a0 a1 a2 a3:AV) (h:ae) (Q:QT):Prop:=
 ai .eql a3 (I 0) fun t13=>
 ifB t13 (
 Q (.full 0 []) h) (
 ai .eql a1 (S ⟨#[]⟩) fun t15=>
 ifB t15 (
 C Am [a0,a3] h fun t18 h0=>
 Q t18 h0) (
 ai .lss a3 (I 0) fun t20=>
 ifB t20 (
 C tu [a0,a1] h fun t23 h1=>
 ai .add t23 (I 1) fun t24=>
 oN t24 a0 a1 a2 h1 Q) (
 oN a3 a0 a1 a2 h Q)))
theorem yF (a0 a1 a2 a3:AV) (h:ae) (Q:QT) (k:ue a0 a1 a2 a3 h Q):C pA [a0,a1,a2,a3] h Q:=
 okF (pl:=[(12,[0,10,11,34,35,36,37,38,39,40,41,42,43,44,45,46,47,48,49,50,51,52,53,54,55,56,57],[0,10])]) Tryz.func107 Tryz.ntmps107 (by kernel_rfl) (by kernel_rfl) rfl (by kernel_rfl) k
def lC (s2 s0:AV) (Q:QT) (vs1:List AV) (h:ae) (next1:NT):Prop:=
 bH s0 fun t8=>
 ai .lss (ap vs1 1) t8 fun t9=>
 ifB t9 (
 bj s0 (ap vs1 1) fun t14=>
 ai .geq t14 (.lit (.int .u8 128)) fun t16=>
 ifB t16 (
 aw 256 s2 h fun t17=>
 ak 256 s2 t17 h fun h2=>
 aw 256 s2 h2 fun r3=>
 Q (.tup [r3,(B false)]) h2) (
 cd 256 1 s2 t14 fun t19=>
 ak 1 t19 (B true) h fun h4=>
 ai .add (ap vs1 1) (I 1) fun t11=>
 next1 [(ap vs1 0),t11] h4)) (
 aw 256 s2 h fun t20=>
 ak 256 s2 t20 h fun h5=>
 aw 256 s2 h5 fun r6=>
 Q (.tup [r6,(B true)]) h5)
def ox (a0:AV) (h:ae) (Q:QT):Prop:=
 df (List.replicate 256 (B false)) h fun t2 h0=>
 cb [(B false),(I 0)] h0 fun vs1 h next1=>lC t2 a0 Q vs1 h next1
theorem ub (a0:AV) (h:ae) (Q:QT) (k:ox a0 h Q):C cA [a0] h Q:=
 okF (pl:=[(3,[3,4,5,6,7,8,9,10,11,12,13,14,15,16,17,18,19],[3,4])]) Tryz.func141 Tryz.ntmps141 (by kernel_rfl) (by kernel_rfl) rfl (by kernel_rfl) k
def kI (s0:AV) (h:ae) (Q:QT):Prop:=
 Q s0 h
def gf (s0:AV) (h:ae) (Q:QT):Prop:=
 kI s0 h Q
def kX (s1:AV) (Q:QT) (vs0:List AV) (h:ae) (next0:NT):Prop:=
 bH (ap vs0 0) fun t6=>
 ai .gtr t6 (I 0) fun t7=>
 ifB t7 (
 bj (ap vs0 0) (I 0) fun t10=>
 C cY [s1,t10] h fun t11 h1=>
 qUn .not t11 fun t12=>
 ifB t12 (
 gf (ap vs0 0) h1 Q) (
 bm (ap vs0 0) (some (I 1)) none fun t14=>
 next0 [t14] h1)) (
 gf (ap vs0 0) h Q)
def mX (a0 a1:AV) (h:ae) (Q:QT):Prop:=
 cb [a0] h fun vs0 h next0=>kX a1 Q vs0 h next0
theorem sU (a0 a1:AV) (h:ae) (Q:QT) (k:mX a0 a1 h Q):C cj [a0,a1] h Q:=
 okF (pl:=[(2,[0,5,6,7,8,9,10,11,12,13,14],[0])]) Tryz.func142 Tryz.ntmps142 (by kernel_rfl) (by kernel_rfl) rfl (by kernel_rfl) k
def lz (s1:AV) (Q:QT) (vs0:List AV) (h:ae) (next0:NT):Prop:=
 bH (ap vs0 0) fun t6=>
 ai .gtr t6 (I 0) fun t7=>
 ifB t7 (bj (ap vs0 0) (I 0) fun t10=>
 ai .eql t10 s1 fun t12=>
 ifB t12 (
 bm (ap vs0 0) (some (I 1)) none fun t15=>
 next0 [t15] h) (
 Q (ap vs0 0) h)) (
 Q (ap vs0 0) h)
def oP (a0 a1:AV) (h:ae) (Q:QT):Prop:=
 cb [a0] h fun vs0 h next0=>lz a1 Q vs0 h next0
theorem tz (a0 a1:AV) (h:ae) (Q:QT) (k:oP a0 a1 h Q):C ep [a0,a1] h Q:=
 okF (pl:=[(2,[0,5,6,7,8,9,10,11,12,13,14,15],[0])]) Tryz.func139 Tryz.ntmps139 (by kernel_rfl) (by kernel_rfl) rfl (by kernel_rfl) k
def j0 (s0:AV) (h:ae) (Q:QT):Prop:=
 Q s0 h
def fu (s0:AV) (h:ae) (Q:QT):Prop:=
 j0 s0 h Q
def ka (s1:AV) (Q:QT) (vs0:List AV) (h:ae) (next0:NT):Prop:=
 bH (ap vs0 0) fun t6=>
 ai .gtr t6 (I 0) fun t7=>
 ifB t7 (
 bH (ap vs0 0) fun t11=>
 ai .sub t11 (I 1) fun t12=>
 bj (ap vs0 0) t12 fun t13=>
 C cY [s1,t13] h fun t14 h1=>
 qUn .not t14 fun t15=>
 ifB t15 (
 fu (ap vs0 0) h1 Q) (
 bH (ap vs0 0) fun t18=>
 ai .sub t18 (I 1) fun t19=>
 bm (ap vs0 0) none (some t19) fun t20=>
 next0 [t20] h1)) (
 fu (ap vs0 0) h Q)
def mt (a0 a1:AV) (h:ae) (Q:QT):Prop:=
 cb [a0] h fun vs0 h next0=>ka a1 Q vs0 h next0
theorem qW (a0 a1:AV) (h:ae) (Q:QT) (k:mt a0 a1 h Q):C dP [a0,a1] h Q:=
 okF (pl:=[(2,[0,5,6,7,8,9,10,11,12,13,14,15,16,17,18,19,20],[0])]) Tryz.func143 Tryz.ntmps143 (by kernel_rfl) (by kernel_rfl) rfl (by kernel_rfl) k
def mW (a0 a1:AV) (h:ae) (Q:QT):Prop:=
 bH a0 fun t6=>
 bH a1 fun t8=>
 ai .geq t6 t8 fun t9=>
 ifB t9 (bH a1 fun t13=>
 bm a0 none (some t13) fun t14=>
 ai .eql t14 a1 fun t16=>
 Q t16 h) (
 Q (B false) h)
theorem tn (a0 a1:AV) (h:ae) (Q:QT) (k:mW a0 a1 h Q):C kZ [a0,a1] h Q:=
 okF (pl:=[]) Tryz.func289 Tryz.ntmps289 (by kernel_rfl) (by kernel_rfl) rfl (by kernel_rfl) k
def mY (a0 a1:AV) (h:ae) (Q:QT):Prop:=
 VY .index [a0,a1] fun t7=>
 Q t7 h
theorem sA (a0 a1:AV) (h:ae) (Q:QT) (k:mY a0 a1 h Q):C kH [a0,a1] h Q:=
 okF (pl:=[]) Tryz.func138 Tryz.ntmps138 (by kernel_rfl) (by kernel_rfl) rfl (by kernel_rfl) k
end
end Go.Proofs.YtgkmmcdhhkllnaaGreatDoor.AL
