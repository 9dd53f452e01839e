import Derived.Test.YtbhphjpgjgigpaaGreatDoorAM4toAM6
import Derived.Test.YtbhphjpgjgigpaaGreatDoorAL33
import Derived.Test.YtbhphjpgjgigpaaGreatDoorProg
import Derived.KernelRfl
set_option linter.all false
set_option autoImplicit true
set_option relaxedAutoImplicit true
set_option maxRecDepth 100000
namespace Go.Proofs.YtbhphjpgjgigpaaGreatDoor.AL
noncomputable section
open Go.Proofs
variable [Tabs]
noncomputable abbrev Pg:Program:=Tryz.prog
abbrev C:=ACall Pg
abbrev CV:=qu Pg
def qH (fn:Func):Code:=fn.body.getD .skip
def Uq (fn : Func) : Bool := fn.body.isSome && !(fn.name == "runtime.NumGoroutine")
theorem okF {f:FuncId}{fn:Func}{m:Nat}{l:List AV}{h:ab}{Q:QT}{pl:FP}{p:Prop}(hf:Pg.funcs[f]?=some fn) (hm:fn.ntmps=m) (hb:Uq fn=true) (hl:Nat.ble l.length m=true) (he:Uu Pg pl fn (qH fn) l h Q=p) (k:p):ACall Pg f l h Q:=by
 simp only[Uq,Bool.and_eq_true,Bool.not_eq_true']at hb
 have h1:fn.body=some (qH fn):=by
  have h:=hb.1
  unfold qH
  cases hc:fn.body with
  | none=>rw[hc]at h;cases h
  | some c=>rfl
 exact Ga hf h1 hb.2 (by rw[hm];exact Nat.le_of_ble_eq_true hl) (by rw[he];exact k)
abbrev dS:Nat:=9
abbrev qv:Nat:=14
abbrev gy:Nat:=37
abbrev kr:Nat:=58
abbrev bj:Nat:=40
abbrev eT:Nat:=39
abbrev qX:Nat:=88
abbrev d9:Nat:=53
abbrev oh:Nat:=18
abbrev uc:Nat:=116
abbrev rN:Nat:=30
abbrev mF:Nat:=78
abbrev iw:Nat:=20
abbrev bW:Nat:=34
abbrev fR:Nat:=79
abbrev fb:Nat:=118
abbrev ju:Nat:=55
abbrev gH:Nat:=54
abbrev ep:Nat:=22
abbrev bP:Nat:=33
abbrev bV:Nat:=32
abbrev aM:Nat:=51
abbrev bU:Nat:=31
abbrev eL:Nat:=35
abbrev iG:Nat:=56
abbrev pn:Nat:=80
abbrev j7:Nat:=63
abbrev m1:Nat:=98
abbrev iZ:Nat:=62
abbrev oC:Nat:=177
abbrev cx:Nat:=215
abbrev qq:Nat:=99
abbrev cq:Nat:=96
abbrev cG:Nat:=219
abbrev jD:Nat:=216
abbrev dF:Nat:=220
abbrev gL:Nat:=203
abbrev co:Nat:=217
abbrev eA:Nat:=191
abbrev bK:Nat:=222
abbrev eP:Nat:=212
abbrev d5:Nat:=205
abbrev eU:Nat:=213
abbrev cb:Nat:=218
abbrev cK:Nat:=204
abbrev bZ:Nat:=210
abbrev cj:Nat:=190
abbrev cF:Nat:=211
abbrev pj:Nat:=223
abbrev o6:Nat:=230
abbrev ll:Nat:=129
abbrev j6:Nat:=221
abbrev rT:Nat:=181
abbrev lV:Nat:=124
abbrev tt:Nat:=125
abbrev tp:Nat:=199
abbrev qV:Nat:=123
abbrev gO:Nat:=157
abbrev qz:Nat:=155
abbrev qy:Nat:=156
abbrev o9:Nat:=36
abbrev om:Nat:=145
abbrev o8:Nat:=174
abbrev mP:Nat:=60
abbrev nK:Nat:=61
abbrev mJ:Nat:=77
abbrev nY:Nat:=38
abbrev n5:Nat:=57
abbrev lz:Nat:=84
abbrev j9:Nat:=85
abbrev g8:Nat:=91
abbrev kK:Nat:=83
abbrev fV:Nat:=122
abbrev kO:Nat:=121
abbrev uv:Nat:=120
abbrev bo:Nat:=87
abbrev i9:Nat:=86
abbrev iH:Nat:=92
abbrev kU:Nat:=93
abbrev hH:Nat:=119
abbrev rL:Nat:=126
abbrev kH:Nat:=4
abbrev qf:Nat:=10
abbrev ly:Nat:=6
abbrev cp:Nat:=11
abbrev sw:Nat:=73
abbrev lw:Nat:=112
abbrev oZ:Nat:=50
abbrev mI:Nat:=110
abbrev eR:Nat:=148
abbrev qb:Nat:=107
abbrev dG:Nat:=136
abbrev d8:Nat:=108
abbrev o7:Nat:=147
abbrev iQ:Nat:=109
abbrev kP:Nat:=144
abbrev gR:Nat:=151
abbrev d6:Nat:=178
abbrev ej:Nat:=146
abbrev dP:Nat:=176
abbrev fe:Nat:=113
abbrev bt:Nat:=150
abbrev fm:Nat:=152
abbrev k9:Nat:=189
abbrev g9:Nat:=149
abbrev pa:Nat:=154
abbrev ef:Nat:=13
abbrev cY:Nat:=114
abbrev cN:Nat:=19
abbrev cJ:Nat:=74
abbrev db:Nat:=21
abbrev dD:Nat:=23
abbrev du:Nat:=95
abbrev bx:Nat:=76
abbrev bO:Nat:=117
abbrev aX:Nat:=52
abbrev cS:Nat:=94
abbrev cm:Nat:=115
abbrev cy:Nat:=97
abbrev cc:Nat:=153
abbrev cA:Nat:=173
abbrev fa:Nat:=75
abbrev bu:Nat:=128
abbrev gc:Nat:=82
abbrev fQ:Nat:=81
abbrev dT:Nat:=202
abbrev iu:Nat:=175
abbrev pw:Nat:=133
abbrev dM:Nat:=59
abbrev eM:Nat:=214
abbrev ie:Nat:=134
abbrev gU:Nat:=106
abbrev fC:Nat:=72
abbrev eI:Nat:=111
abbrev ir:Nat:=206
abbrev cI:Nat:=170
abbrev vh:Nat:=132
abbrev mC:Nat:=105
abbrev ci:Nat:=139
abbrev bT:Nat:=140
abbrev dL:Nat:=137
abbrev c5:Nat:=142
abbrev dl:Nat:=141
abbrev pk:Nat:=138
abbrev gq:Nat:=143
abbrev i5:Nat:=229
abbrev i6:Nat:=135
abbrev jM:Nat:=165
def oz (s9 s7 s8:AV) (h:ab) (next0:NT):Prop:=
 ag .shl s7 (.lit (.int .u64 8)) fun t22=>
 ag .or t22 s9 fun t24=>
 ag .sub s8 (I 1) fun t13=>
 next0 [t24,t13] h
def oy (s9 s7 s8 s1 s2:AV) (h:ab) (next0:NT):Prop:=
 ag .eql s8 s1 fun t18=>
 ifB t18 (
 ag .and s2 (I 255) fun t20=>
 oz t20 s7 s8 h next0) (
 oz s9 s7 s8 h next0)
def ot (s0 s1 s2:AV) (Q:QT) (vs0:List AV) (h:ab) (next0:NT):Prop:=
 ag .geq (an vs0 1) (I 0) fun t11=>
 ifB t11 (
 ag .eql s0 (I 1) fun t15=>
 ifB t15 (
 oy (I 255) (an vs0 0) (an vs0 1) s1 s2 h next0) (
 oy (I 0) (an vs0 0) (an vs0 1) s1 s2 h next0)) (
 C tp [(an vs0 0),(I 32)] h fun t26 h3=>
 Q t26 h3)
def G4 (a0 a1 a2:AV) (h:ab) (Q:QT):Prop:=
 cC [(I 0),(I 3)] h fun vs0 h next0=>ot a0 a1 a2 Q vs0 h next0
theorem GW (a0 a1 a2:AV) (h:ab) (Q:QT) (k:G4 a0 a1 a2 h Q):C rT [a0,a1,a2] h Q:=
 okF (pl:=[(4,[7,8,9,10,11,12,13,14,15,16,17,18,19,20,21,22,23,24],[7,8])]) Tryz.func181 Tryz.ntmps181 (by kernel_rfl) rfl (by kernel_rfl) k
def Hr (a0 a1:AV) (h:ab) (Q:QT):Prop:=
 ag .sub a1 (I 1) fun t7=>
 C pa [(.lit (.float .f64 4607182418800017408)),t7] h fun t8 h0=>
 oA .f64 a0 fun t10=>
 qUn .neg t8 fun t12=>
 ag .geq t10 t12 fun t13=>
 ifB t13 (oA .f64 a0 fun t16=>
 ag .lss t16 t8 fun t18=>
 Q t18 h0) (
 Q (B false) h0)
theorem Gn (a0 a1:AV) (h:ab) (Q:QT) (k:Hr a0 a1 h Q):C lV [a0,a1] h Q:=
 okF (pl:=[]) Tryz.func124 Tryz.ntmps124 (by kernel_rfl) rfl (by kernel_rfl) k
def yw (s9 s8 s0:AV) (Q:QT) (vs1:List AV) (h:ab) (next1:NT):Prop:=
 ag .lss (an vs1 4) s9 fun t11=>
 ifB t11 (
 am 2 s8 (an vs1 4) fun t12=>
 ay 2 t12 h fun t13=>
 gK [(I 0),(I 0)] h fun t7 h2=>
 au 2 t7 t13 h2 fun h3=>
 ay 2 t7 h3 fun t15=>
 C qy [s0,(.fn (.func gO) [t15] [])] h3 fun t17 h4=>
 ag .geq t17 (I 0) fun t19=>
 ifB t19 (
 ae 0 t7 fun t20=>
 ah t20 h4 fun t21=>
 ae 1 t7 fun t22=>
 ah t22 h4 fun t23=>
 Q (.tup [t21,t23,t17,(B true)]) h4) (
 ag .add (an vs1 4) (I 1) fun t25=>
 next1 [(an vs1 0),(an vs1 1),t17,(an vs1 3),t25] h4)) (
 Q (.tup [(I 0),(I 0),(I 0),(B false)]) h)
def IK (a0:AV) (h:ab) (Q:QT):Prop:=
 C qz [] h fun t8 h0=>
 bd t8 fun t9=>
 cC [(I 0),(I 0),(I 0),(B false),(I 0)] h0 fun vs1 h next1=>yw t9 t8 a0 Q vs1 h next1
theorem Gl (a0:AV) (h:ab) (Q:QT) (k:IK a0 h Q):C tt [a0] h Q:=
 okF (pl:=[(3,[2,3,4,5,7,10,11,12,13,14,15,16,17,18,19,20,21,22,23,24,25],[2,3,4,5,10]),(1000006,[0,1,2,3,4,5,6,7,8],[])]) Tryz.func125 Tryz.ntmps125 (by kernel_rfl) rfl (by kernel_rfl) k
def HQ (a0 a1:AV) (h:ab) (Q:QT):Prop:=
 xA a1 (I 1) fun t7=>
 BZ t7 (I 64) fun t8=>
 ag .sub (I 64) t8 fun t9=>
 ag .shl a0 t9 fun t12=>
 ag .shr t12 t9 fun t14=>
 Q t14 h
theorem Hj (a0 a1:AV) (h:ab) (Q:QT) (k:HQ a0 a1 h Q):C tp [a0,a1] h Q:=
 okF (pl:=[]) Tryz.func199 Tryz.ntmps199 (by kernel_rfl) rfl (by kernel_rfl) k
def C4 (a0:AV) (h:ab) (Q:QT):Prop:=
 ag .shr a0 (.lit (.int .u64 16)) fun t6=>
 ag .and t6 (I 15) fun t7=>
 ag .shr a0 (.lit (.int .u64 11)) fun t9=>
 ag .and t9 (I 31) fun t10=>
 ag .and a0 (I 2047) fun t12=>
 Q (.tup [t7,t10,t12]) h
theorem Fv (a0:AV) (h:ab) (Q:QT) (k:C4 a0 h Q):C qV [a0] h Q:=
 okF (pl:=[]) Tryz.func123 Tryz.ntmps123 (by kernel_rfl) rfl (by kernel_rfl) k
def yJ (a0 a1:AV) (h:ab) (Q:QT):Prop:=
 lQ a0 h fun t2 h0=>
 ae 0 t2 fun t5=>
 ah t5 h0 fun t6=>
 ae 1 t2 fun t7=>
 ah t7 h0 fun t8=>
 C rT [t6,t8,a1] h0 fun t10 h1=>
 Q t10 h1
theorem Aw (a0 a1:AV) (h:ab) (Q:QT) (k:yJ a0 a1 h Q):C gO [a0,a1] h Q:=
 okF (pl:=[]) Tryz.func157 Tryz.ntmps157 (by kernel_rfl) rfl (by kernel_rfl) k
def D5 (h:ab) (Q:QT):Prop:=
 aq [(I 0),(I 0)] [(0,1,(I 0)),(1,1,(I 0))] fun t1=>
 aq [(I 0),(I 0)] [(0,1,(I 0)),(1,1,(I 1))] fun t2=>
 aq [(I 0),(I 0)] [(0,1,(I 0)),(1,1,(I 2))] fun t3=>
 aq [(I 0),(I 0)] [(0,1,(I 0)),(1,1,(I 3))] fun t4=>
 aq [(I 0),(I 0)] [(0,1,(I 1)),(1,1,(I 0))] fun t5=>
 aq [(I 0),(I 0)] [(0,1,(I 1)),(1,1,(I 1))] fun t6=>
 aq [(I 0),(I 0)] [(0,1,(I 1)),(1,1,(I 2))] fun t7=>
 aq [(I 0),(I 0)] [(0,1,(I 1)),(1,1,(I 3))] fun t8=>
 ao 8 2 [t1,t2,t3,t4,t5,t6,t7,t8] fun t9=>
 Q t9 h
theorem EG (h:ab) (Q:QT) (k:D5  h Q):C qz [] h Q:=
 okF (pl:=[]) Tryz.func155 Tryz.ntmps155 (by kernel_rfl) rfl (by kernel_rfl) k
def wK (s0 s1:AV) (Q:QT) (vs0:List AV) (h:ab) (next0:NT):Prop:=
 ag .lss (an vs0 1) (I 256) fun t7=>
 ifB t7 (
 CV s1 [(an vs0 1)] h fun t11 h1=>
 ag .eql t11 s0 fun t13=>
 ifB t13 (
 Q (an vs0 1) h1) (
 ag .add (an vs0 1) (I 1) fun t15=>
 next0 [(an vs0 0),t15] h1)) (
 Q (I (-1)) h)
def Eg (a0 a1:AV) (h:ab) (Q:QT):Prop:=
 cC [(I 0),(I 0)] h fun vs0 h next0=>wK a0 a1 Q vs0 h next0
theorem Fj (a0 a1:AV) (h:ab) (Q:QT) (k:Eg a0 a1 h Q):C qy [a0,a1] h Q:=
 okF (pl:=[(3,[4,5,6,7,8,9,10,11,12,13,14,15],[4,6])]) Tryz.func156 Tryz.ntmps156 (by kernel_rfl) rfl (by kernel_rfl) k
def Ax (a0:AV) (h:ab) (Q:QT):Prop:=
 lQ a0 h fun t1 h0=>
 ay 2 t1 h0 fun t8=>
 C n5 [t8] h0 fun t9 h1=>
 aj 0 t9 fun t10=>
 aj 1 t9 fun t11=>
 qUn .not t11 fun t13=>
 ifB t13 (
 Q (.tup [(.full 0 []),(B false)]) h1) (
 ag .shr t10 (.lit (.int .u64 24)) fun t15=>
 ct .u8 t15 fun t16=>
 ag .shr t10 (.lit (.int .u64 16)) fun t18=>
 ct .u8 t18 fun t19=>
 ag .shr t10 (.lit (.int .u64 8)) fun t21=>
 ct .u8 t21 fun t22=>
 ct .u8 t10 fun t24=>
 ao 4 1 [t16,t19,t22,t24] fun t25=>
 ae 0 t1 fun t27=>
 ah t27 h1 fun t28=>
 C nY [t28] h1 fun t29 h2=>
 ag .sub (I 4) t29 fun t30=>
 ln 1 t25 (some t30) none fun t31=>
 C db [t31] h2 fun t32 h3=>
 Q (.tup [t32,(B true)]) h3)
theorem CP (a0:AV) (h:ab) (Q:QT) (k:Ax a0 h Q):C o9 [a0] h Q:=
 okF (pl:=[]) Tryz.func36 Tryz.ntmps36 (by kernel_rfl) rfl (by kernel_rfl) k
def Il (a0:AV) (h:ab) (Q:QT):Prop:=
 lQ a0 h fun t1 h0=>
 C hH [] h0 fun t5 h1=>
 C cA [t5,(.fn (.func o8) [] [t1])] h1 fun t7 h2=>
 xA t7 (I 0) fun t9=>
 ag .geq t7 (I 0) fun t11=>
 Q (.tup [t9,t11]) h2
theorem IW (a0:AV) (h:ab) (Q:QT) (k:Il a0 h Q):C om [a0] h Q:=
 okF (pl:=[]) Tryz.func145 Tryz.ntmps145 (by kernel_rfl) rfl (by kernel_rfl) k
def AZ (a0 a1:AV) (h:ab) (Q:QT):Prop:=
 lQ a0 h fun t2 h0=>
 ae 0 t2 fun t4=>
 ah t4 h0 fun t5=>
 ah a1 h0 fun t6=>
 ag .eql t5 t6 fun t7=>
 Q t7 h0
theorem CD (a0 a1:AV) (h:ab) (Q:QT) (k:AZ a0 a1 h Q):C o8 [a0,a1] h Q:=
 okF (pl:=[]) Tryz.func174 Tryz.ntmps174 (by kernel_rfl) rfl (by kernel_rfl) k
def C3 (a0:AV) (h:ab) (Q:QT):Prop:=
 C g8 [a0,(.fn (.func iH) [] [])] h fun t4 h0=>
 Q t4 h0
theorem FA (a0:AV) (h:ab) (Q:QT) (k:C3 a0 h Q):C mP [a0] h Q:=
 okF (pl:=[]) Tryz.func60 Tryz.ntmps60 (by kernel_rfl) rfl (by kernel_rfl) k
def Hg (a0:AV) (h:ab) (Q:QT):Prop:=
 C g8 [a0,(.fn (.func kU) [] [])] h fun t4 h0=>
 Q t4 h0
theorem H1 (a0:AV) (h:ab) (Q:QT) (k:Hg a0 h Q):C nK [a0] h Q:=
 okF (pl:=[]) Tryz.func61 Tryz.ntmps61 (by kernel_rfl) rfl (by kernel_rfl) k
def C8 (a0:AV) (h:ab) (Q:QT):Prop:=
 lQ a0 h fun t1 h0=>
 ay 2 t1 h0 fun t6=>
 C n5 [t6] h0 fun t7 h1=>
 aj 0 t7 fun t8=>
 aj 1 t7 fun t9=>
 Q t9 h1
theorem Fc (a0:AV) (h:ab) (Q:QT) (k:C8 a0 h Q):C mJ [a0] h Q:=
 okF (pl:=[]) Tryz.func77 Tryz.ntmps77 (by kernel_rfl) rfl (by kernel_rfl) k
def IU (a0:AV) (h:ab) (Q:QT):Prop:=
 C nK [a0] h fun t5 h0=>
 ag .eql t5 (S ⟨#[]⟩) fun t6=>
 ifB t6 (
 Q (I 0) h0) (
 ag .lss a0 (I 43) fun t9=>
 ifB t9 (
 Q (I 2) h0) (
 Q (I 4) h0))
theorem Gs (a0:AV) (h:ab) (Q:QT) (k:IU a0 h Q):C nY [a0] h Q:=
 okF (pl:=[]) Tryz.func38 Tryz.ntmps38 (by kernel_rfl) rfl (by kernel_rfl) k
def yr (s27 s26 s1:AV) (Q:QT) (vs4:List AV) (h:ab) (next4:NT):Prop:=
 ag .lss (an vs4 3) s27 fun t29=>
 ifB t29 (
 am 1 s26 (an vs4 3) fun t31=>
 ah t31 h fun t32=>
 ae 1 s1 fun t35=>
 ah t35 h fun t36=>
 am 1 t36 (an vs4 3) fun t38=>
 ah t38 h fun t39=>
 C bo [t32,t39] h fun t40 h5=>
 aj 0 t40 fun t41=>
 aj 1 t40 fun t42=>
 qUn .not t42 fun t44=>
 ifB t44 (
 Q (.tup [(.lit (.int .u32 0)),(B false)]) h5) (
 ag .or (an vs4 2) t41 fun t47=>
 ag .add (an vs4 3) (I 1) fun t48=>
 next4 [(an vs4 0),(an vs4 1),t47,t48] h5)) (
 Q (.tup [(an vs4 2),(B true)]) h)
def Hz (a0:AV) (h:ab) (Q:QT):Prop:=
 lQ a0 h fun t1 h0=>
 ae 0 t1 fun t10=>
 ah t10 h0 fun t11=>
 C nK [t11] h0 fun t12 h1=>
 ag .eql t12 (S ⟨#[]⟩) fun t13=>
 ifB t13 (
 Q (.tup [(.lit (.int .u32 0)),(B false)]) h1) (
 ae 0 t1 fun t14=>
 ah t14 h1 fun t15=>
 ae 0 t1 fun t17=>
 ah t17 h1 fun t18=>
 C kK [t15,(.fn (.func lz) [] [])] h1 fun t16 h2=>
 (ah t17 h2 fun _t=>
 _t=t18)∧
 C j9 [t18,(.fn (.func i9) [] [])] h2 fun t19 h3=>
 bd t19 fun t21=>
 ae 1 t1 fun t22=>
 ah t22 h3 fun t23=>
 bd t23 fun t24=>
 ag .neq t21 t24 fun t25=>
 ifB t25 (
 Q (.tup [(.lit (.int .u32 0)),(B false)]) h3) (
 bd t19 fun t27=>
 cC [(.lit (.int .u32 0)),(B false),t16,(I 0)] h3 fun vs4 h next4=>yr t27 t19 t1 Q vs4 h next4))
theorem He (a0:AV) (h:ab) (Q:QT) (k:Hz a0 h Q):C n5 [a0] h Q:=
 okF (pl:=[(1000003,[0,1,3,4,2,5,6,7],[]),(8,[2,3,4,6,7,8,9,28,29,30,31,32,33,34,35,36,37,38,39,40,41,42,43,44,45,46,47,48],[2,3,4,28])]) Tryz.func57 Tryz.ntmps57 (by kernel_rfl) rfl (by kernel_rfl) k
def Bl (a0:AV) (h:ab) (Q:QT):Prop:=
 lQ a0 h fun t1 h0=>
 ae 1 t1 fun t3=>
 ah t3 h0 fun t4=>
 Q t4 h0
theorem CF (a0:AV) (h:ab) (Q:QT) (k:Bl a0 h Q):C lz [a0] h Q:=
 okF (pl:=[]) Tryz.func84 Tryz.ntmps84 (by kernel_rfl) rfl (by kernel_rfl) k
def km (s4:AV) (h:ab) (Q:QT):Prop:=
 Q s4 h
def tJ (a0 a1:AV) (h:ab) (Q:QT):Prop:=
 C hH [] h fun t6 h0=>
 ag .geq a0 (I 0) fun t8=>
 ifB t8 (bd t6 fun t12=>
 ag .lss a0 t12 fun t13=>
 ifB t13 (
 am 3 t6 a0 fun t18=>
 ay 3 t18 h0 fun t19=>
 CV a1 [t19] h0 fun t20 h1=>
 km t20 h1 Q) (
 km (.full 0 []) h0 Q)) (
 km (.full 0 []) h0 Q)
theorem we (a0 a1:AV) (h:ab) (Q:QT) (k:tJ a0 a1 h Q):C j9 [a0,a1] h Q:=
 okF (pl:=[]) Tryz.func85 Tryz.ntmps85 (by kernel_rfl) rfl (by kernel_rfl) k
def kX (s4:AV) (h:ab) (Q:QT):Prop:=
 Q s4 h
def uV (a0 a1:AV) (h:ab) (Q:QT):Prop:=
 C hH [] h fun t6 h0=>
 ag .geq a0 (I 0) fun t8=>
 ifB t8 (bd t6 fun t12=>
 ag .lss a0 t12 fun t13=>
 ifB t13 (
 am 3 t6 a0 fun t18=>
 ay 3 t18 h0 fun t19=>
 CV a1 [t19] h0 fun t20 h1=>
 kX t20 h1 Q) (
 kX (S ⟨#[]⟩) h0 Q)) (
 kX (S ⟨#[]⟩) h0 Q)
theorem x1 (a0 a1:AV) (h:ab) (Q:QT) (k:uV a0 a1 h Q):C g8 [a0,a1] h Q:=
 okF (pl:=[]) Tryz.func91 Tryz.ntmps91 (by kernel_rfl) rfl (by kernel_rfl) k
def kJ (s4:AV) (h:ab) (Q:QT):Prop:=
 Q s4 h
def uG (a0 a1:AV) (h:ab) (Q:QT):Prop:=
 C hH [] h fun t6 h0=>
 ag .geq a0 (I 0) fun t8=>
 ifB t8 (bd t6 fun t12=>
 ag .lss a0 t12 fun t13=>
 ifB t13 (
 am 3 t6 a0 fun t18=>
 ay 3 t18 h0 fun t19=>
 CV a1 [t19] h0 fun t20 h1=>
 kJ t20 h1 Q) (
 kJ (.lit (.int .u32 0)) h0 Q)) (
 kJ (.lit (.int .u32 0)) h0 Q)
theorem xy (a0 a1:AV) (h:ab) (Q:QT) (k:uG a0 a1 h Q):C kK [a0,a1] h Q:=
 okF (pl:=[]) Tryz.func83 Tryz.ntmps83 (by kernel_rfl) rfl (by kernel_rfl) k
def DK (a0:AV) (h:ab) (Q:QT):Prop:=
 ag .eql a0 (S ⟨#[89]⟩) fun t4=>
 ifB t4 (
 Q (.lit (.int .u64 4)) h) (
 Q (.lit (.int .u64 0)) h)
theorem EQ (a0:AV) (h:ab) (Q:QT) (k:DK a0 h Q):C fV [a0] h Q:=
 okF (pl:=[]) Tryz.func122 Tryz.ntmps122 (by kernel_rfl) rfl (by kernel_rfl) k
def uI (a0 a1:AV) (h:ab) (Q:QT):Prop:=
 lQ a0 h fun t2 h0=>
 ae 3 t2 fun t7=>
 ah t7 h0 fun t8=>
 ag .lss a1 t8 fun t9=>
 ifB t9 (Q (.tup [(.lit (.int .u32 0)),(B false)]) h0) (
 ae 3 t2 fun t12=>
 ah t12 h0 fun t13=>
 ag .sub a1 t13 fun t14=>
 ae 2 t2 fun t15=>
 ah t15 h0 fun t16=>
 ae 1 t2 fun t17=>
 ah t17 h0 fun t18=>
 ag .shl t16 t18 fun t19=>
 ag .geq t14 t19 fun t20=>
 ifB t20 (Q (.tup [(.lit (.int .u32 0)),(B false)]) h0) (
 ae 3 t2 fun t24=>
 ah t24 h0 fun t25=>
 ag .sub a1 t25 fun t26=>
 ae 2 t2 fun t27=>
 ah t27 h0 fun t28=>
 ag .rem t26 t28 fun t29=>
 ag .neq t29 (I 0) fun t30=>
 ifB t30 (
 Q (.tup [(.lit (.int .u32 0)),(B false)]) h0) (
 ae 3 t2 fun t33=>
 ah t33 h0 fun t34=>
 ag .sub a1 t34 fun t35=>
 ae 2 t2 fun t36=>
 ah t36 h0 fun t37=>
 ag .quo t35 t37 fun t38=>
 ct .u32 t38 fun t39=>
 ae 0 t2 fun t40=>
 ah t40 h0 fun t41=>
 ag .shl t39 t41 fun t42=>
 Q (.tup [t42,(B true)]) h0)))
theorem xT (a0 a1:AV) (h:ab) (Q:QT) (k:uI a0 a1 h Q):C kO [a0,a1] h Q:=
 okF (pl:=[(1000003,[0,1,2,3,4,5,6,7,8,9,10,11,12],[])]) Tryz.func121 Tryz.ntmps121 (by kernel_rfl) rfl (by kernel_rfl) k
def bB (a0:AV) (h:ab) (Q:QT):Prop:=
 gK [(.lit (.int .u64 0)),(.lit (.int .u64 0)),(I 0),(I 0)] h fun t2 h0=>
 ag .eql a0 (S ⟨#[85,53]⟩) fun t6=>
 ifB t6 (
 aq [(.lit (.int .u64 0)),(.lit (.int .u64 0)),(I 0),(I 0)] [(0,1,(.lit (.int .u64 4))),(1,1,(.lit (.int .u64 5))),(2,1,(I 1)),(3,1,(I 0))] fun t7=>
 au 4 t2 t7 h0 fun h1=>
 ay 4 t2 h1 fun r2=>
 Q (.tup [r2,(B true)]) h1) (
 ag .eql a0 (S ⟨#[85,55]⟩) fun t9=>
 ifB t9 (
 aq [(.lit (.int .u64 0)),(.lit (.int .u64 0)),(I 0),(I 0)] [(0,1,(.lit (.int .u64 4))),(1,1,(.lit (.int .u64 7))),(2,1,(I 1)),(3,1,(I 0))] fun t10=>
 au 4 t2 t10 h0 fun h3=>
 ay 4 t2 h3 fun r4=>
 Q (.tup [r4,(B true)]) h3) (
 ag .eql a0 (S ⟨#[79,53]⟩) fun t12=>
 ifB t12 (
 aq [(.lit (.int .u64 0)),(.lit (.int .u64 0)),(I 0),(I 0)] [(0,1,(.lit (.int .u64 4))),(1,1,(.lit (.int .u64 5))),(2,1,(I 1)),(3,1,(I 1))] fun t13=>
 au 4 t2 t13 h0 fun h5=>
 ay 4 t2 h5 fun r6=>
 Q (.tup [r6,(B true)]) h5) (
 ag .eql a0 (S ⟨#[77,49]⟩) fun t15=>
 ifB t15 (
 aq [(.lit (.int .u64 0)),(.lit (.int .u64 0)),(I 0),(I 0)] [(0,1,(.lit (.int .u64 8))),(1,1,(.lit (.int .u64 4))),(2,1,(I 1)),(3,1,(I 0))] fun t16=>
 au 4 t2 t16 h0 fun h7=>
 ay 4 t2 h7 fun r8=>
 Q (.tup [r8,(B true)]) h7) (
 ag .eql a0 (S ⟨#[77,50]⟩) fun t18=>
 ifB t18 (
 aq [(.lit (.int .u64 0)),(.lit (.int .u64 0)),(I 0),(I 0)] [(0,1,(.lit (.int .u64 8))),(1,1,(.lit (.int .u64 4))),(2,1,(I 2)),(3,1,(I 0))] fun t19=>
 au 4 t2 t19 h0 fun h9=>
 ay 4 t2 h9 fun r10=>
 Q (.tup [r10,(B true)]) h9) (
 ag .eql a0 (S ⟨#[77,52]⟩) fun t21=>
 ifB t21 (
 aq [(.lit (.int .u64 0)),(.lit (.int .u64 0)),(I 0),(I 0)] [(0,1,(.lit (.int .u64 8))),(1,1,(.lit (.int .u64 4))),(2,1,(I 4)),(3,1,(I 0))] fun t22=>
 au 4 t2 t22 h0 fun h11=>
 ay 4 t2 h11 fun r12=>
 Q (.tup [r12,(B true)]) h11) (
 ag .eql a0 (S ⟨#[79,49]⟩) fun t24=>
 ifB t24 (
 aq [(.lit (.int .u64 0)),(.lit (.int .u64 0)),(I 0),(I 0)] [(0,1,(.lit (.int .u64 10))),(1,1,(.lit (.int .u64 1))),(2,1,(I 1)),(3,1,(I 0))] fun t25=>
 au 4 t2 t25 h0 fun h13=>
 ay 4 t2 h13 fun r14=>
 Q (.tup [r14,(B true)]) h13) (
 ag .eql a0 (S ⟨#[73,50]⟩) fun t27=>
 ifB t27 (
 aq [(.lit (.int .u64 0)),(.lit (.int .u64 0)),(I 0),(I 0)] [(0,1,(.lit (.int .u64 8))),(1,1,(.lit (.int .u64 2))),(2,1,(I 1)),(3,1,(I 0))] fun t28=>
 au 4 t2 t28 h0 fun h15=>
 ay 4 t2 h15 fun r16=>
 Q (.tup [r16,(B true)]) h15) (
 ag .eql a0 (S ⟨#[68]⟩) fun t30=>
 ifB t30 (
 aq [(.lit (.int .u64 0)),(.lit (.int .u64 0)),(I 0),(I 0)] [(0,1,(.lit (.int .u64 21))),(1,1,(.lit (.int .u64 5))),(2,1,(I 1)),(3,1,(I 0))] fun t31=>
 au 4 t2 t31 h0 fun h17=>
 ay 4 t2 h17 fun r18=>
 Q (.tup [r18,(B true)]) h17) (
 ag .eql a0 (S ⟨#[65]⟩) fun t33=>
 ifB t33 (
 aq [(.lit (.int .u64 0)),(.lit (.int .u64 0)),(I 0),(I 0)] [(0,1,(.lit (.int .u64 16))),(1,1,(.lit (.int .u64 5))),(2,1,(I 1)),(3,1,(I 0))] fun t34=>
 au 4 t2 t34 h0 fun h19=>
 ay 4 t2 h19 fun r20=>
 Q (.tup [r20,(B true)]) h19) (
 ag .eql a0 (S ⟨#[66]⟩) fun t36=>
 ifB t36 (
 aq [(.lit (.int .u64 0)),(.lit (.int .u64 0)),(I 0),(I 0)] [(0,1,(.lit (.int .u64 11))),(1,1,(.lit (.int .u64 5))),(2,1,(I 1)),(3,1,(I 0))] fun t37=>
 au 4 t2 t37 h0 fun h21=>
 ay 4 t2 h21 fun r22=>
 Q (.tup [r22,(B true)]) h21) (
 ag .eql a0 (S ⟨#[79,50]⟩) fun t39=>
 ifB t39 (
 aq [(.lit (.int .u64 0)),(.lit (.int .u64 0)),(I 0),(I 0)] [(0,1,(.lit (.int .u64 20))),(1,1,(.lit (.int .u64 2))),(2,1,(I 1)),(3,1,(I 0))] fun t40=>
 au 4 t2 t40 h0 fun h23=>
 ay 4 t2 h23 fun r24=>
 Q (.tup [r24,(B true)]) h23) (
 ag .eql a0 (S ⟨#[73,52]⟩) fun t42=>
 ifB t42 (
 aq [(.lit (.int .u64 0)),(.lit (.int .u64 0)),(I 0),(I 0)] [(0,1,(.lit (.int .u64 16))),(1,1,(.lit (.int .u64 4))),(2,1,(I 1)),(3,1,(I 0))] fun t43=>
 au 4 t2 t43 h0 fun h25=>
 ay 4 t2 h25 fun r26=>
 Q (.tup [r26,(B true)]) h25) (
 aq [(.lit (.int .u64 0)),(.lit (.int .u64 0)),(I 0),(I 0)] [] fun t44=>
 au 4 t2 t44 h0 fun h27=>
 ay 4 t2 h27 fun r28=>
 Q (.tup [r28,(B false)]) h27)))))))))))))
theorem aZ (a0:AV) (h:ab) (Q:QT) (k:bB a0 h Q):C uv [a0] h Q:=
 okF (pl:=[]) Tryz.func120 Tryz.ntmps120 (by kernel_rfl) rfl (by kernel_rfl) k
def ym (s27 s26 s0 s1:AV) (h:ab) (Q:QT):Prop:=
 ifB s27 (
 ag .lss s1 (I 0) fun t31=>
 ifB t31 (Q (.tup [(.lit (.int .u32 0)),(B false)]) h) (
 ag .gtr s1 (I 7) fun t34=>
 ifT t34 (ag .lss s1 (I 24) fun t37=>
 ifB t37 (Q (.tup [(.lit (.int .u32 0)),(B false)]) h) (
 ag .gtr s1 (I 31) fun t42=>
 ifB t42 (
 Q (.tup [(.lit (.int .u32 0)),(B false)]) h) (
 ag .quo s1 (I 24) fun t46=>
 ag .mul t46 (I 16) fun t47=>
 ag .sub s1 t47 fun t48=>
 ct .u32 t48 fun t49=>
 C fV [s0] h fun t51 h4=>
 ag .shl t49 t51 fun t52=>
 Q (.tup [t52,(B true)]) h4))) (
 ag .gtr s1 (I 31) fun t42=>
 ifB t42 (
 Q (.tup [(.lit (.int .u32 0)),(B false)]) h) (
 ag .quo s1 (I 24) fun t46=>
 ag .mul t46 (I 16) fun t47=>
 ag .sub s1 t47 fun t48=>
 ct .u32 t48 fun t49=>
 C fV [s0] h fun t51 h5=>
 ag .shl t49 t51 fun t52=>
 Q (.tup [t52,(B true)]) h5)) (
 ifB (.tup []) (ifB (.tup []) (Q (.tup [(.lit (.int .u32 0)),(B false)]) h) (ifB (.tup []) (
 Q (.tup [(.lit (.int .u32 0)),(B false)]) h) (
 ag .quo s1 (I 24) fun t46=>
 ag .mul t46 (I 16) fun t47=>
 ag .sub s1 t47 fun t48=>
 ct .u32 t48 fun t49=>
 C fV [s0] h fun t51 h6=>
 ag .shl t49 t51 fun t52=>
 Q (.tup [t52,(B true)]) h6))) (ag .gtr s1 (I 31) fun t42=>
 ifB t42 (
 Q (.tup [(.lit (.int .u32 0)),(B false)]) h) (
 ag .quo s1 (I 24) fun t46=>
 ag .mul t46 (I 16) fun t47=>
 ag .sub s1 t47 fun t48=>
 ct .u32 t48 fun t49=>
 C fV [s0] h fun t51 h7=>
 ag .shl t49 t51 fun t52=>
 Q (.tup [t52,(B true)]) h7))))) (
 ag .eql s26 (S ⟨#[76,50,48]⟩) fun t54=>
 ifB t54 (
 C qV [s1] h fun t57 h8=>
 aj 0 t57 fun t58=>
 aj 1 t57 fun t59=>
 aj 2 t57 fun t60=>
 ag .shl t58 (.lit (.int .u64 11)) fun t62=>
 ag .shl t59 (.lit (.int .u64 16)) fun t64=>
 ag .or t62 t64 fun t65=>
 ag .or t65 t60 fun t67=>
 ct .u32 t67 fun t68=>
 C lV [s1,(I 20)] h8 fun t70 h9=>
 Q (.tup [t68,t70]) h9) (
 ag .eql s26 (S ⟨#[67,56]⟩) fun t72=>
 ifB t72 (
 C tt [s1] h fun t75 h10=>
 aj 0 t75 fun t76=>
 aj 1 t75 fun t77=>
 aj 2 t75 fun t78=>
 aj 3 t75 fun t79=>
 ag .shl t76 (.lit (.int .u64 10)) fun t81=>
 ag .shl t77 (.lit (.int .u64 8)) fun t83=>
 ag .or t81 t83 fun t84=>
 ag .or t84 t78 fun t86=>
 ct .u32 t86 fun t87=>
 Q (.tup [t87,t79]) h10) (
 ag .eql s26 (S ⟨#[83,49,54]⟩) fun t90=>
 ifB t90 (
 ag .and s1 (I 65535) fun t92=>
 ct .u32 t92 fun t93=>
 C lV [s1,(I 16)] h fun t95 h11=>
 Q (.tup [t93,t95]) h11) (
 ag .rem s1 (I 2) fun t97=>
 ag .neq t97 (I 0) fun t98=>
 ifB t98 (Q (.tup [(.lit (.int .u32 0)),(B false)]) h) (
 C rL [s0] h fun t102 h12=>
 C lV [s1,t102] h12 fun t103 h13=>
 qUn .not t103 fun t104=>
 ifB t104 (
 Q (.tup [(.lit (.int .u32 0)),(B false)]) h13) (
 ag .eql s0 (S ⟨#[84,56]⟩) fun t107=>
 ifB t107 (
 ag .quo s1 (I 2) fun t109=>
 ag .and t109 (I 255) fun t110=>
 ct .u32 t110 fun t111=>
 Q (.tup [t111,(B true)]) h13) (
 C rL [s0] h13 fun t114 h14=>
 ag .shl (I 1) t114 fun t115=>
 ag .sub t115 (I 1) fun t116=>
 ag .and s1 t116 fun t117=>
 ct .u32 t117 fun t118=>
 Q (.tup [t118,(B true)]) h14)))))))
def dm (a0 a1:AV) (h:ab) (Q:QT):Prop:=
 C uv [a0] h fun t17 h0=>
 aj 0 t17 fun t18=>
 aj 1 t17 fun t19=>
 gK [(.lit (.int .u64 0)),(.lit (.int .u64 0)),(I 0),(I 0)] h0 fun t6 h1=>
 au 4 t6 t18 h1 fun h2=>
 ifB t19 (
 ay 4 t6 h2 fun t21=>
 C kO [t21,a1] h2 fun t23 h3=>
 aj 0 t23 fun t24=>
 aj 1 t23 fun t25=>
 Q (.tup [t24,t25]) h3) (
 ag .eql a0 (S ⟨#[88]⟩) fun t28=>
 ifB t28 (
 ym t28 a0 a0 a1 h2 Q) (
 ag .eql a0 (S ⟨#[89]⟩) fun t29=>
 ym t29 a0 a0 a1 h2 Q))
theorem bG (a0 a1:AV) (h:ab) (Q:QT) (k:dm a0 a1 h Q):C bo [a0,a1] h Q:=
 okF (pl:=[]) Tryz.func87 Tryz.ntmps87 (by kernel_rfl) rfl (by kernel_rfl) k
def wh (a0:AV) (h:ab) (Q:QT):Prop:=
 lQ a0 h fun t1 h0=>
 ae 2 t1 fun t3=>
 ah t3 h0 fun t4=>
 C dM [t4] h0 fun t5 h1=>
 Q t5 h1
theorem y7 (a0:AV) (h:ab) (Q:QT) (k:wh a0 h Q):C i9 [a0] h Q:=
 okF (pl:=[]) Tryz.func86 Tryz.ntmps86 (by kernel_rfl) rfl (by kernel_rfl) k
def p7 (a0:AV) (h:ab) (Q:QT):Prop:=
 lQ a0 h fun t1 h0=>
 ae 2 t1 fun t3=>
 ah t3 h0 fun t4=>
 Q t4 h0
theorem ur (a0:AV) (h:ab) (Q:QT) (k:p7 a0 h Q):C iH [a0] h Q:=
 okF (pl:=[]) Tryz.func92 Tryz.ntmps92 (by kernel_rfl) rfl (by kernel_rfl) k
def uU (a0:AV) (h:ab) (Q:QT):Prop:=
 lQ a0 h fun t1 h0=>
 ae 0 t1 fun t3=>
 ah t3 h0 fun t4=>
 Q t4 h0
theorem xQ (a0:AV) (h:ab) (Q:QT) (k:uU a0 h Q):C kU [a0] h Q:=
 okF (pl:=[]) Tryz.func93 Tryz.ntmps93 (by kernel_rfl) rfl (by kernel_rfl) k
def DW (h:ab) (Q:QT):Prop:=
 aq [(S ⟨#[]⟩),(.lit (.int .u32 0)),(S ⟨#[]⟩)] [(0,1,(S ⟨#[115,101,95,105,108,108,101,103,97,108]⟩)),(1,1,(.lit (.int .u32 0))),(2,1,(S ⟨#[]⟩))] fun t1=>
 aq [(S ⟨#[]⟩),(.lit (.int .u32 0)),(S ⟨#[]⟩)] [(0,1,(S ⟨#[115,101,95,105,115,121,110,99]⟩)),(1,1,(.lit (.int .u32 1))),(2,1,(S ⟨#[]⟩))] fun t2=>
 aq [(S ⟨#[]⟩),(.lit (.int .u32 0)),(S ⟨#[]⟩)] [(0,1,(S ⟨#[115,101,95,115,99]⟩)),(1,1,(.lit (.int .u32 2))),(2,1,(S ⟨#[]⟩))] fun t3=>
 aq [(S ⟨#[]⟩),(.lit (.int .u32 0)),(S ⟨#[]⟩)] [(0,1,(S ⟨#[115,101,95,98,108,114]⟩)),(1,1,(.lit (.int .u32 4))),(2,1,(S ⟨#[]⟩))] fun t4=>
 aq [(S ⟨#[]⟩),(.lit (.int .u32 0)),(S ⟨#[]⟩)] [(0,1,(S ⟨#[115,101,95,98,99,116,114]⟩)),(1,1,(.lit (.int .u32 6))),(2,1,(S ⟨#[]⟩))] fun t5=>
 aq [(S ⟨#[]⟩),(.lit (.int .u32 0)),(S ⟨#[]⟩)] [(0,1,(S ⟨#[115,101,95,110,111,116]⟩)),(1,1,(.lit (.int .u32 32))),(2,1,(S ⟨#[88]⟩))] fun t6=>
 aq [(S ⟨#[]⟩),(.lit (.int .u32 0)),(S ⟨#[]⟩)] [(0,1,(S ⟨#[115,101,95,110,101,103]⟩)),(1,1,(.lit (.int .u32 48))),(2,1,(S ⟨#[88]⟩))] fun t7=>
 aq [(S ⟨#[]⟩),(.lit (.int .u32 0)),(S ⟨#[]⟩)] [(0,1,(S ⟨#[115,101,95,109,102,108,114]⟩)),(1,1,(.lit (.int .u32 128))),(2,1,(S ⟨#[88]⟩))] fun t8=>
 aq [(S ⟨#[]⟩),(.lit (.int .u32 0)),(S ⟨#[]⟩)] [(0,1,(S ⟨#[115,101,95,109,116,108,114]⟩)),(1,1,(.lit (.int .u32 144))),(2,1,(S ⟨#[88]⟩))] fun t9=>
 aq [(S ⟨#[]⟩),(.lit (.int .u32 0)),(S ⟨#[]⟩)] [(0,1,(S ⟨#[115,101,95,109,102,99,116,114]⟩)),(1,1,(.lit (.int .u32 160))),(2,1,(S ⟨#[88]⟩))] fun t10=>
 aq [(S ⟨#[]⟩),(.lit (.int .u32 0)),(S ⟨#[]⟩)] [(0,1,(S ⟨#[115,101,95,109,116,99,116,114]⟩)),(1,1,(.lit (.int .u32 176))),(2,1,(S ⟨#[88]⟩))] fun t11=>
 aq [(S ⟨#[]⟩),(.lit (.int .u32 0)),(S ⟨#[]⟩)] [(0,1,(S ⟨#[115,101,95,101,120,116,122,98]⟩)),(1,1,(.lit (.int .u32 192))),(2,1,(S ⟨#[88]⟩))] fun t12=>
 aq [(S ⟨#[]⟩),(.lit (.int .u32 0)),(S ⟨#[]⟩)] [(0,1,(S ⟨#[115,101,95,101,120,116,115,98]⟩)),(1,1,(.lit (.int .u32 208))),(2,1,(S ⟨#[88]⟩))] fun t13=>
 aq [(S ⟨#[]⟩),(.lit (.int .u32 0)),(S ⟨#[]⟩)] [(0,1,(S ⟨#[115,101,95,101,120,116,122,104]⟩)),(1,1,(.lit (.int .u32 224))),(2,1,(S ⟨#[88]⟩))] fun t14=>
 aq [(S ⟨#[]⟩),(.lit (.int .u32 0)),(S ⟨#[]⟩)] [(0,1,(S ⟨#[115,101,95,101,120,116,115,104]⟩)),(1,1,(.lit (.int .u32 240))),(2,1,(S ⟨#[88]⟩))] fun t15=>
 aq [(S ⟨#[]⟩),(.lit (.int .u32 0)),(S ⟨#[]⟩)] [(0,1,(S ⟨#[115,101,95,109,114]⟩)),(1,1,(.lit (.int .u32 256))),(2,1,(S ⟨#[88,32,89]⟩))] fun t16=>
 aq [(S ⟨#[]⟩),(.lit (.int .u32 0)),(S ⟨#[]⟩)] [(0,1,(S ⟨#[115,101,95,97,100,100]⟩)),(1,1,(.lit (.int .u32 1024))),(2,1,(S ⟨#[88,32,89]⟩))] fun t17=>
 aq [(S ⟨#[]⟩),(.lit (.int .u32 0)),(S ⟨#[]⟩)] [(0,1,(S ⟨#[115,101,95,109,117,108,108,119]⟩)),(1,1,(.lit (.int .u32 1280))),(2,1,(S ⟨#[88,32,89]⟩))] fun t18=>
 aq [(S ⟨#[]⟩),(.lit (.int .u32 0)),(S ⟨#[]⟩)] [(0,1,(S ⟨#[115,101,95,115,117,98]⟩)),(1,1,(.lit (.int .u32 1536))),(2,1,(S ⟨#[88,32,89]⟩))] fun t19=>
 aq [(S ⟨#[]⟩),(.lit (.int .u32 0)),(S ⟨#[]⟩)] [(0,1,(S ⟨#[115,101,95,99,109,112]⟩)),(1,1,(.lit (.int .u32 3072))),(2,1,(S ⟨#[88,32,89]⟩))] fun t20=>
 aq [(S ⟨#[]⟩),(.lit (.int .u32 0)),(S ⟨#[]⟩)] [(0,1,(S ⟨#[115,101,95,99,109,112,108]⟩)),(1,1,(.lit (.int .u32 3328))),(2,1,(S ⟨#[88,32,89]⟩))] fun t21=>
 aq [(S ⟨#[]⟩),(.lit (.int .u32 0)),(S ⟨#[]⟩)] [(0,1,(S ⟨#[115,101,95,97,100,100,105]⟩)),(1,1,(.lit (.int .u32 8192))),(2,1,(S ⟨#[88,32,79,53]⟩))] fun t22=>
 aq [(S ⟨#[]⟩),(.lit (.int .u32 0)),(S ⟨#[]⟩)] [(0,1,(S ⟨#[115,101,95,99,109,112,108,105]⟩)),(1,1,(.lit (.int .u32 8704))),(2,1,(S ⟨#[88,32,79,53]⟩))] fun t23=>
 aq [(S ⟨#[]⟩),(.lit (.int .u32 0)),(S ⟨#[]⟩)] [(0,1,(S ⟨#[115,101,95,115,117,98,105]⟩)),(1,1,(.lit (.int .u32 9216))),(2,1,(S ⟨#[88,32,79,53]⟩))] fun t24=>
 aq [(S ⟨#[]⟩),(.lit (.int .u32 0)),(S ⟨#[]⟩)] [(0,1,(S ⟨#[115,101,95,99,109,112,105]⟩)),(1,1,(.lit (.int .u32 10752))),(2,1,(S ⟨#[88,32,85,53]⟩))] fun t25=>
 aq [(S ⟨#[]⟩),(.lit (.int .u32 0)),(S ⟨#[]⟩)] [(0,1,(S ⟨#[115,101,95,111,114]⟩)),(1,1,(.lit (.int .u32 17408))),(2,1,(S ⟨#[88,32,89]⟩))] fun t26=>
 aq [(S ⟨#[]⟩),(.lit (.int .u32 0)),(S ⟨#[]⟩)] [(0,1,(S ⟨#[115,101,95,97,110,100,99]⟩)),(1,1,(.lit (.int .u32 17664))),(2,1,(S ⟨#[88,32,89]⟩))] fun t27=>
 aq [(S ⟨#[]⟩),(.lit (.int .u32 0)),(S ⟨#[]⟩)] [(0,1,(S ⟨#[115,101,95,97,110,100]⟩)),(1,1,(.lit (.int .u32 17920))),(2,1,(S ⟨#[88,32,89]⟩))] fun t28=>
 aq [(S ⟨#[]⟩),(.lit (.int .u32 0)),(S ⟨#[]⟩)] [(0,1,(S ⟨#[115,101,95,108,105]⟩)),(1,1,(.lit (.int .u32 18432))),(2,1,(S ⟨#[88,32,85,55]⟩))] fun t29=>
 aq [(S ⟨#[]⟩),(.lit (.int .u32 0)),(S ⟨#[]⟩)] [(0,1,(S ⟨#[115,101,95,98,99,108,114,105]⟩)),(1,1,(.lit (.int .u32 24576))),(2,1,(S ⟨#[88,32,85,53]⟩))] fun t30=>
 aq [(S ⟨#[]⟩),(.lit (.int .u32 0)),(S ⟨#[]⟩)] [(0,1,(S ⟨#[115,101,95,98,115,101,116,105]⟩)),(1,1,(.lit (.int .u32 25600))),(2,1,(S ⟨#[88,32,85,53]⟩))] fun t31=>
 aq [(S ⟨#[]⟩),(.lit (.int .u32 0)),(S ⟨#[]⟩)] [(0,1,(S ⟨#[115,101,95,98,116,115,116,105]⟩)),(1,1,(.lit (.int .u32 26112))),(2,1,(S ⟨#[88,32,85,53]⟩))] fun t32=>
 aq [(S ⟨#[]⟩),(.lit (.int .u32 0)),(S ⟨#[]⟩)] [(0,1,(S ⟨#[115,101,95,115,114,119,105]⟩)),(1,1,(.lit (.int .u32 26624))),(2,1,(S ⟨#[88,32,85,53]⟩))] fun t33=>
 aq [(S ⟨#[]⟩),(.lit (.int .u32 0)),(S ⟨#[]⟩)] [(0,1,(S ⟨#[115,101,95,115,108,119,105]⟩)),(1,1,(.lit (.int .u32 27648))),(2,1,(S ⟨#[88,32,85,53]⟩))] fun t34=>
 aq [(S ⟨#[]⟩),(.lit (.int .u32 0)),(S ⟨#[]⟩)] [(0,1,(S ⟨#[115,101,95,108,98,122]⟩)),(1,1,(.lit (.int .u32 32768))),(2,1,(S ⟨#[89,32,77,49,32,88]⟩))] fun t35=>
 aq [(S ⟨#[]⟩),(.lit (.int .u32 0)),(S ⟨#[]⟩)] [(0,1,(S ⟨#[115,101,95,115,116,98]⟩)),(1,1,(.lit (.int .u32 36864))),(2,1,(S ⟨#[89,32,77,49,32,88]⟩))] fun t36=>
 aq [(S ⟨#[]⟩),(.lit (.int .u32 0)),(S ⟨#[]⟩)] [(0,1,(S ⟨#[115,101,95,108,104,122]⟩)),(1,1,(.lit (.int .u32 40960))),(2,1,(S ⟨#[89,32,77,50,32,88]⟩))] fun t37=>
 aq [(S ⟨#[]⟩),(.lit (.int .u32 0)),(S ⟨#[]⟩)] [(0,1,(S ⟨#[115,101,95,115,116,104]⟩)),(1,1,(.lit (.int .u32 45056))),(2,1,(S ⟨#[89,32,77,50,32,88]⟩))] fun t38=>
 aq [(S ⟨#[]⟩),(.lit (.int .u32 0)),(S ⟨#[]⟩)] [(0,1,(S ⟨#[115,101,95,108,119,122]⟩)),(1,1,(.lit (.int .u32 49152))),(2,1,(S ⟨#[89,32,77,52,32,88]⟩))] fun t39=>
 aq [(S ⟨#[]⟩),(.lit (.int .u32 0)),(S ⟨#[]⟩)] [(0,1,(S ⟨#[115,101,95,115,116,119]⟩)),(1,1,(.lit (.int .u32 53248))),(2,1,(S ⟨#[89,32,77,52,32,88]⟩))] fun t40=>
 aq [(S ⟨#[]⟩),(.lit (.int .u32 0)),(S ⟨#[]⟩)] [(0,1,(S ⟨#[115,101,95,98,99]⟩)),(1,1,(.lit (.int .u32 57344))),(2,1,(S ⟨#[79,49,32,73,50,32,84,56]⟩))] fun t41=>
 aq [(S ⟨#[]⟩),(.lit (.int .u32 0)),(S ⟨#[]⟩)] [(0,1,(S ⟨#[115,101,95,98]⟩)),(1,1,(.lit (.int .u32 59392))),(2,1,(S ⟨#[84,56]⟩))] fun t42=>
 aq [(S ⟨#[]⟩),(.lit (.int .u32 0)),(S ⟨#[]⟩)] [(0,1,(S ⟨#[115,101,95,98,108]⟩)),(1,1,(.lit (.int .u32 59648))),(2,1,(S ⟨#[84,56]⟩))] fun t43=>
 aq [(S ⟨#[]⟩),(.lit (.int .u32 0)),(S ⟨#[]⟩)] [(0,1,(S ⟨#[101,95,97,100,100,49,54,105]⟩)),(1,1,(.lit (.int .u32 469762048))),(2,1,(S ⟨#[68,32,65,32,83,49,54]⟩))] fun t44=>
 aq [(S ⟨#[]⟩),(.lit (.int .u32 0)),(S ⟨#[]⟩)] [(0,1,(S ⟨#[101,95,97,100,100,105]⟩)),(1,1,(.lit (.int .u32 402685952))),(2,1,(S ⟨#[68,32,65,32,67,56]⟩))] fun t45=>
 aq [(S ⟨#[]⟩),(.lit (.int .u32 0)),(S ⟨#[]⟩)] [(0,1,(S ⟨#[101,95,97,110,100,105]⟩)),(1,1,(.lit (.int .u32 402702336))),(2,1,(S ⟨#[65,32,68,32,67,56]⟩))] fun t46=>
 aq [(S ⟨#[]⟩),(.lit (.int .u32 0)),(S ⟨#[]⟩)] [(0,1,(S ⟨#[101,95,111,114,105]⟩)),(1,1,(.lit (.int .u32 402706432))),(2,1,(S ⟨#[65,32,68,32,67,56]⟩))] fun t47=>
 aq [(S ⟨#[]⟩),(.lit (.int .u32 0)),(S ⟨#[]⟩)] [(0,1,(S ⟨#[101,95,120,111,114,105]⟩)),(1,1,(.lit (.int .u32 402710528))),(2,1,(S ⟨#[65,32,68,32,67,56]⟩))] fun t48=>
 aq [(S ⟨#[]⟩),(.lit (.int .u32 0)),(S ⟨#[]⟩)] [(0,1,(S ⟨#[101,95,108,105]⟩)),(1,1,(.lit (.int .u32 1879048192))),(2,1,(S ⟨#[68,32,76,50,48]⟩))] fun t49=>
 aq [(S ⟨#[]⟩),(.lit (.int .u32 0)),(S ⟨#[]⟩)] [(0,1,(S ⟨#[101,95,108,98,122]⟩)),(1,1,(.lit (.int .u32 805306368))),(2,1,(S ⟨#[68,32,83,49,54,32,65]⟩))] fun t50=>
 aq [(S ⟨#[]⟩),(.lit (.int .u32 0)),(S ⟨#[]⟩)] [(0,1,(S ⟨#[101,95,115,116,98]⟩)),(1,1,(.lit (.int .u32 872415232))),(2,1,(S ⟨#[68,32,83,49,54,32,65]⟩))] fun t51=>
 aq [(S ⟨#[]⟩),(.lit (.int .u32 0)),(S ⟨#[]⟩)] [(0,1,(S ⟨#[101,95,108,104,97]⟩)),(1,1,(.lit (.int .u32 939524096))),(2,1,(S ⟨#[68,32,83,49,54,32,65]⟩))] fun t52=>
 aq [(S ⟨#[]⟩),(.lit (.int .u32 0)),(S ⟨#[]⟩)] [(0,1,(S ⟨#[101,95,108,119,122]⟩)),(1,1,(.lit (.int .u32 1342177280))),(2,1,(S ⟨#[68,32,83,49,54,32,65]⟩))] fun t53=>
 aq [(S ⟨#[]⟩),(.lit (.int .u32 0)),(S ⟨#[]⟩)] [(0,1,(S ⟨#[101,95,115,116,119]⟩)),(1,1,(.lit (.int .u32 1409286144))),(2,1,(S ⟨#[68,32,83,49,54,32,65]⟩))] fun t54=>
 aq [(S ⟨#[]⟩),(.lit (.int .u32 0)),(S ⟨#[]⟩)] [(0,1,(S ⟨#[101,95,108,104,122]⟩)),(1,1,(.lit (.int .u32 1476395008))),(2,1,(S ⟨#[68,32,83,49,54,32,65]⟩))] fun t55=>
 aq [(S ⟨#[]⟩),(.lit (.int .u32 0)),(S ⟨#[]⟩)] [(0,1,(S ⟨#[101,95,115,116,104]⟩)),(1,1,(.lit (.int .u32 1543503872))),(2,1,(S ⟨#[68,32,83,49,54,32,65]⟩))] fun t56=>
 aq [(S ⟨#[]⟩),(.lit (.int .u32 0)),(S ⟨#[]⟩)] [(0,1,(S ⟨#[101,95,98]⟩)),(1,1,(.lit (.int .u32 2013265920))),(2,1,(S ⟨#[84,50,52]⟩))] fun t57=>
 aq [(S ⟨#[]⟩),(.lit (.int .u32 0)),(S ⟨#[]⟩)] [(0,1,(S ⟨#[101,95,98,108]⟩)),(1,1,(.lit (.int .u32 2013265921))),(2,1,(S ⟨#[84,50,52]⟩))] fun t58=>
 aq [(S ⟨#[]⟩),(.lit (.int .u32 0)),(S ⟨#[]⟩)] [(0,1,(S ⟨#[101,95,98,99]⟩)),(1,1,(.lit (.int .u32 2046820352))),(2,1,(S ⟨#[79,50,32,73,52,32,84,49,53]⟩))] fun t59=>
 aq [(S ⟨#[]⟩),(.lit (.int .u32 0)),(S ⟨#[]⟩)] [(0,1,(S ⟨#[101,95,98,99,108]⟩)),(1,1,(.lit (.int .u32 2046820353))),(2,1,(S ⟨#[79,50,32,73,52,32,84,49,53]⟩))] fun t60=>
 aq [(S ⟨#[]⟩),(.lit (.int .u32 0)),(S ⟨#[]⟩)] [(0,1,(S ⟨#[97,100,100]⟩)),(1,1,(.lit (.int .u32 2080375316))),(2,1,(S ⟨#[68,32,65,32,66]⟩))] fun t61=>
 aq [(S ⟨#[]⟩),(.lit (.int .u32 0)),(S ⟨#[]⟩)] [(0,1,(S ⟨#[115,117,98,102]⟩)),(1,1,(.lit (.int .u32 2080374864))),(2,1,(S ⟨#[68,32,65,32,66]⟩))] fun t62=>
 aq [(S ⟨#[]⟩),(.lit (.int .u32 0)),(S ⟨#[]⟩)] [(0,1,(S ⟨#[109,117,108,108,119]⟩)),(1,1,(.lit (.int .u32 2080375254))),(2,1,(S ⟨#[68,32,65,32,66]⟩))] fun t63=>
 aq [(S ⟨#[]⟩),(.lit (.int .u32 0)),(S ⟨#[]⟩)] [(0,1,(S ⟨#[97,110,100]⟩)),(1,1,(.lit (.int .u32 2080374840))),(2,1,(S ⟨#[65,32,68,32,66]⟩))] fun t64=>
 aq [(S ⟨#[]⟩),(.lit (.int .u32 0)),(S ⟨#[]⟩)] [(0,1,(S ⟨#[111,114]⟩)),(1,1,(.lit (.int .u32 2080375672))),(2,1,(S ⟨#[65,32,68,32,66]⟩))] fun t65=>
 aq [(S ⟨#[]⟩),(.lit (.int .u32 0)),(S ⟨#[]⟩)] [(0,1,(S ⟨#[120,111,114]⟩)),(1,1,(.lit (.int .u32 2080375416))),(2,1,(S ⟨#[65,32,68,32,66]⟩))] fun t66=>
 ao 66 3 [t1,t2,t3,t4,t5,t6,t7,t8,t9,t10,t11,t12,t13,t14,t15,t16,t17,t18,t19,t20,t21,t22,t23,t24,t25,t26,t27,t28,t29,t30,t31,t32,t33,t34,t35,t36,t37,t38,t39,t40,t41,t42,t43,t44,t45,t46,t47,t48,t49,t50,t51,t52,t53,t54,t55,t56,t57,t58,t59,t60,t61,t62,t63,t64,t65,t66] fun t67=>
 Q t67 h
theorem Fb (h:ab) (Q:QT) (k:DW  h Q):C hH [] h Q:=
 okF (pl:=[]) Tryz.func119 Tryz.ntmps119 (by kernel_rfl) rfl (by kernel_rfl) k
def pr (a0:AV) (h:ab) (Q:QT):Prop:=
 ag .eql a0 (S ⟨#[84,56]⟩) fun t5=>
 ifB t5 (
 Q (I 9) h) (
 ag .eql a0 (S ⟨#[84,50,52]⟩) fun t7=>
 ifB t7 (
 Q (I 25) h) (
 Q (I 16) h))
theorem l0 (a0:AV) (h:ab) (Q:QT) (k:pr a0 h Q):C rL [a0] h Q:=
 okF (pl:=[]) Tryz.func126 Tryz.ntmps126 (by kernel_rfl) rfl (by kernel_rfl) k
def fL (a0:AV) (h:ab) (Q:QT):Prop:=
 j2 .eql a0 fun t4=>
 ifB t4 (
 Q (.full 0 []) h) (
 ao 0 5 [] fun t5=>
 bF 5 64 t5 a0 h fun t7 h0=>
 Q t7 h0)
theorem j8 (a0:AV) (h:ab) (Q:QT) (k:fL a0 h Q):C cY [a0] h Q:=
 okF (pl:=[]) Tryz.func114 Tryz.ntmps114 (by kernel_rfl) rfl (by kernel_rfl) k
def fh (a0:AV) (h:ab) (Q:QT):Prop:=
 j2 .eql a0 fun t4=>
 ifB t4 (
 Q (.full 0 []) h) (
 ao 0 3 [] fun t5=>
 bF 3 32 t5 a0 h fun t7 h0=>
 Q t7 h0)
theorem jg (a0:AV) (h:ab) (Q:QT) (k:fh a0 h Q):C cN [a0] h Q:=
 okF (pl:=[]) Tryz.func19 Tryz.ntmps19 (by kernel_rfl) rfl (by kernel_rfl) k
def fg (a0:AV) (h:ab) (Q:QT):Prop:=
 j2 .eql a0 fun t4=>
 ifB t4 (
 Q (.full 0 []) h) (
 ao 0 6 [] fun t5=>
 bF 6 80 t5 a0 h fun t7 h0=>
 Q t7 h0)
theorem jh (a0:AV) (h:ab) (Q:QT) (k:fg a0 h Q):C cJ [a0] h Q:=
 okF (pl:=[]) Tryz.func74 Tryz.ntmps74 (by kernel_rfl) rfl (by kernel_rfl) k
def jF (a0:AV) (h:ab) (Q:QT):Prop:=
 j2 .eql a0 fun t4=>
 ifB t4 (
 Q (.full 0 []) h) (
 ao 0 1 [] fun t5=>
 bF 1 1 t5 a0 h fun t7 h0=>
 Q t7 h0)
theorem nC (a0:AV) (h:ab) (Q:QT) (k:jF a0 h Q):C db [a0] h Q:=
 okF (pl:=[]) Tryz.func21 Tryz.ntmps21 (by kernel_rfl) rfl (by kernel_rfl) k
def kB (a0:AV) (h:ab) (Q:QT):Prop:=
 j2 .eql a0 fun t4=>
 ifB t4 (
 Q (.full 0 []) h) (
 ao 0 1 [] fun t5=>
 bF 1 8 t5 a0 h fun t7 h0=>
 Q t7 h0)
theorem oS (a0:AV) (h:ab) (Q:QT) (k:kB a0 h Q):C dD [a0] h Q:=
 okF (pl:=[]) Tryz.func23 Tryz.ntmps23 (by kernel_rfl) rfl (by kernel_rfl) k
def gz (a0:AV) (h:ab) (Q:QT):Prop:=
 j2 .eql a0 fun t4=>
 ifB t4 (
 Q (.full 0 []) h) (
 ao 0 1 [] fun t5=>
 bF 1 16 t5 a0 h fun t7 h0=>
 Q t7 h0)
theorem kQ (a0:AV) (h:ab) (Q:QT) (k:gz a0 h Q):C du [a0] h Q:=
 okF (pl:=[]) Tryz.func95 Tryz.ntmps95 (by kernel_rfl) rfl (by kernel_rfl) k
def dH (a0 a1:AV) (h:ab) (Q:QT):Prop:=
 C cm [a0,a1] h fun t7 h0=>
 ag .geq t7 (I 0) fun t8=>
 Q t8 h0
theorem gk (a0 a1:AV) (h:ab) (Q:QT) (k:dH a0 a1 h Q):C bx [a0,a1] h Q:=
 okF (pl:=[]) Tryz.func76 Tryz.ntmps76 (by kernel_rfl) rfl (by kernel_rfl) k
def dq (a0 a1:AV) (h:ab) (Q:QT):Prop:=
 C cc [a0,a1] h fun t7 h0=>
 ag .geq t7 (I 0) fun t8=>
 Q t8 h0
theorem fG (a0 a1:AV) (h:ab) (Q:QT) (k:dq a0 a1 h Q):C bO [a0,a1] h Q:=
 okF (pl:=[]) Tryz.func117 Tryz.ntmps117 (by kernel_rfl) rfl (by kernel_rfl) k
def iU (a0 a1:AV) (h:ab) (Q:QT):Prop:=
 C fa [a0,a1] h fun t7 h0=>
 ag .geq t7 (I 0) fun t8=>
 Q t8 h0
theorem mO (a0 a1:AV) (h:ab) (Q:QT) (k:iU a0 a1 h Q):C aX [a0,a1] h Q:=
 okF (pl:=[]) Tryz.func52 Tryz.ntmps52 (by kernel_rfl) rfl (by kernel_rfl) k
def fx (a0 a1:AV) (h:ab) (Q:QT):Prop:=
 C bu [a0,a1] h fun t7 h0=>
 ag .geq t7 (I 0) fun t8=>
 Q t8 h0
theorem jL (a0 a1:AV) (h:ab) (Q:QT) (k:fx a0 a1 h Q):C cS [a0,a1] h Q:=
 okF (pl:=[]) Tryz.func94 Tryz.ntmps94 (by kernel_rfl) rfl (by kernel_rfl) k
def dJ (s7 s0 s1:AV) (Q:QT) (vs0:List AV) (h:ab) (next0:NT):Prop:=
 ag .lss (an vs0 1) s7 fun t9=>
 ifB t9 (
 am 4 s0 (an vs0 1) fun t14=>
 ay 4 t14 h fun t15=>
 CV s1 [t15] h fun t16 h1=>
 ifB t16 (
 Q (an vs0 1) h1) (
 ag .add (an vs0 1) (I 1) fun t18=>
 next0 [(an vs0 0),t18] h1)) (
 Q (I (-1)) h)
def eb (a0 a1:AV) (h:ab) (Q:QT):Prop:=
 bd a0 fun t7=>
 cC [(I 0),(I 0)] h fun vs0 h next0=>dJ t7 a0 a1 Q vs0 h next0
theorem gP (a0 a1:AV) (h:ab) (Q:QT) (k:eb a0 a1 h Q):C cm [a0,a1] h Q:=
 okF (pl:=[(3,[4,5,8,9,10,11,12,13,14,15,16,17,18],[4,8])]) Tryz.func115 Tryz.ntmps115 (by kernel_rfl) rfl (by kernel_rfl) k
def d4 (s7 s0 s1:AV) (Q:QT) (vs0:List AV) (h:ab) (next0:NT):Prop:=
 ag .lss (an vs0 1) s7 fun t9=>
 ifB t9 (
 am 2 s0 (an vs0 1) fun t14=>
 ay 2 t14 h fun t15=>
 CV s1 [t15] h fun t16 h1=>
 ifB t16 (
 Q (an vs0 1) h1) (
 ag .add (an vs0 1) (I 1) fun t18=>
 next0 [(an vs0 0),t18] h1)) (
 Q (I (-1)) h)
def eE (a0 a1:AV) (h:ab) (Q:QT):Prop:=
 bd a0 fun t7=>
 cC [(I 0),(I 0)] h fun vs0 h next0=>d4 t7 a0 a1 Q vs0 h next0
theorem iK (a0 a1:AV) (h:ab) (Q:QT) (k:eE a0 a1 h Q):C cy [a0,a1] h Q:=
 okF (pl:=[(3,[4,5,8,9,10,11,12,13,14,15,16,17,18],[4,8])]) Tryz.func97 Tryz.ntmps97 (by kernel_rfl) rfl (by kernel_rfl) k
def dn (s7 s0 s1:AV) (Q:QT) (vs0:List AV) (h:ab) (next0:NT):Prop:=
 ag .lss (an vs0 1) s7 fun t9=>
 ifB t9 (
 am 1 s0 (an vs0 1) fun t14=>
 ah t14 h fun t15=>
 CV s1 [t15] h fun t16 h1=>
 ifB t16 (
 Q (an vs0 1) h1) (
 ag .add (an vs0 1) (I 1) fun t18=>
 next0 [(an vs0 0),t18] h1)) (
 Q (I (-1)) h)
def dN (a0 a1:AV) (h:ab) (Q:QT):Prop:=
 bd a0 fun t7=>
 cC [(I 0),(I 0)] h fun vs0 h next0=>dn t7 a0 a1 Q vs0 h next0
theorem gp (a0 a1:AV) (h:ab) (Q:QT) (k:dN a0 a1 h Q):C cc [a0,a1] h Q:=
 okF (pl:=[(3,[4,5,8,9,10,11,12,13,14,15,16,17,18],[4,8])]) Tryz.func153 Tryz.ntmps153 (by kernel_rfl) rfl (by kernel_rfl) k
def dZ (s7 s0 s1:AV) (Q:QT) (vs0:List AV) (h:ab) (next0:NT):Prop:=
 ag .lss (an vs0 1) s7 fun t9=>
 ifB t9 (
 am 3 s0 (an vs0 1) fun t14=>
 ay 3 t14 h fun t15=>
 CV s1 [t15] h fun t16 h1=>
 ifB t16 (
 Q (an vs0 1) h1) (
 ag .add (an vs0 1) (I 1) fun t18=>
 next0 [(an vs0 0),t18] h1)) (
 Q (I (-1)) h)
def eF (a0 a1:AV) (h:ab) (Q:QT):Prop:=
 bd a0 fun t7=>
 cC [(I 0),(I 0)] h fun vs0 h next0=>dZ t7 a0 a1 Q vs0 h next0
theorem iz (a0 a1:AV) (h:ab) (Q:QT) (k:eF a0 a1 h Q):C cA [a0,a1] h Q:=
 okF (pl:=[(3,[4,5,8,9,10,11,12,13,14,15,16,17,18],[4,8])]) Tryz.func173 Tryz.ntmps173 (by kernel_rfl) rfl (by kernel_rfl) k
def iP (s7 s0 s1:AV) (Q:QT) (vs0:List AV) (h:ab) (next0:NT):Prop:=
 ag .lss (an vs0 1) s7 fun t9=>
 ifB t9 (
 am 1 s0 (an vs0 1) fun t14=>
 ah t14 h fun t15=>
 ag .eql s1 t15 fun t16=>
 ifB t16 (
 Q (an vs0 1) h) (
 ag .add (an vs0 1) (I 1) fun t18=>
 next0 [(an vs0 0),t18] h)) (
 Q (I (-1)) h)
def kC (a0 a1:AV) (h:ab) (Q:QT):Prop:=
 bd a0 fun t7=>
 cC [(I 0),(I 0)] h fun vs0 h next0=>iP t7 a0 a1 Q vs0 h next0
theorem oU (a0 a1:AV) (h:ab) (Q:QT) (k:kC a0 a1 h Q):C fa [a0,a1] h Q:=
 okF (pl:=[(3,[4,5,8,9,10,11,12,13,14,15,16,17,18],[4,8])]) Tryz.func75 Tryz.ntmps75 (by kernel_rfl) rfl (by kernel_rfl) k
def fy (s7 s0 s1:AV) (Q:QT) (vs0:List AV) (h:ab) (next0:NT):Prop:=
 ag .lss (an vs0 1) s7 fun t9=>
 ifB t9 (
 am 1 s0 (an vs0 1) fun t14=>
 ah t14 h fun t15=>
 ag .eql s1 t15 fun t16=>
 ifB t16 (
 Q (an vs0 1) h) (
 ag .add (an vs0 1) (I 1) fun t18=>
 next0 [(an vs0 0),t18] h)) (
 Q (I (-1)) h)
def gw (a0 a1:AV) (h:ab) (Q:QT):Prop:=
 bd a0 fun t7=>
 cC [(I 0),(I 0)] h fun vs0 h next0=>fy t7 a0 a1 Q vs0 h next0
theorem kY (a0 a1:AV) (h:ab) (Q:QT) (k:gw a0 a1 h Q):C bu [a0,a1] h Q:=
 okF (pl:=[(3,[4,5,8,9,10,11,12,13,14,15,16,17,18],[4,8])]) Tryz.func128 Tryz.ntmps128 (by kernel_rfl) rfl (by kernel_rfl) k
def jR (s0:AV) (Q:QT) (vs0:List AV) (h:ab) (next0:NT):Prop:=
 bd s0 fun t14=>
 ag .lss (an vs0 1) t14 fun t15=>
 ifB t15 (
 am 1 s0 (an vs0 1) fun t21=>
 ah t21 h fun t22=>
 xA (an vs0 0) t22 fun t23=>
 ag .add (an vs0 1) (I 1) fun t17=>
 next0 [t23,t17] h) (
 Q (an vs0 0) h)
def jQ (s0:AV) (h:ab) (Q:QT):Prop:=
 am 1 s0 (I 0) fun t10=>
 ah t10 h fun t11=>
 cC [t11,(I 1)] h fun vs0 h next0=>jR s0 Q vs0 h next0
def mt (a0:AV) (h:ab) (Q:QT):Prop:=
 bd a0 fun t6=>
 ag .lss t6 (I 1) fun t7=>
 ifB t7 (
 td 9 (S ⟨#[115,108,105,99,101,115,46,77,97,120,58,32,101,109,112,116,121,32,108,105,115,116]⟩) fun t8=>
 False) (
 jQ a0 h Q)
theorem qE (a0:AV) (h:ab) (Q:QT) (k:mt a0 h Q):C gc [a0] h Q:=
 okF (pl:=[(6,[3,4,12,13,14,15,16,17,18,19,20,21,22,23],[3,4])]) Tryz.func82 Tryz.ntmps82 (by kernel_rfl) rfl (by kernel_rfl) k
def jN (s0:AV) (Q:QT) (vs0:List AV) (h:ab) (next0:NT):Prop:=
 bd s0 fun t14=>
 ag .lss (an vs0 1) t14 fun t15=>
 ifB t15 (
 am 1 s0 (an vs0 1) fun t21=>
 ah t21 h fun t22=>
 BZ (an vs0 0) t22 fun t23=>
 ag .add (an vs0 1) (I 1) fun t17=>
 next0 [t23,t17] h) (
 Q (an vs0 0) h)
def jV (s0:AV) (h:ab) (Q:QT):Prop:=
 am 1 s0 (I 0) fun t10=>
 ah t10 h fun t11=>
 cC [t11,(I 1)] h fun vs0 h next0=>jN s0 Q vs0 h next0
def ml (a0:AV) (h:ab) (Q:QT):Prop:=
 bd a0 fun t6=>
 ag .lss t6 (I 1) fun t7=>
 ifB t7 (
 td 9 (S ⟨#[115,108,105,99,101,115,46,77,105,110,58,32,101,109,112,116,121,32,108,105,115,116]⟩) fun t8=>
 False) (
 jV a0 h Q)
theorem p9 (a0:AV) (h:ab) (Q:QT) (k:ml a0 h Q):C fQ [a0] h Q:=
 okF (pl:=[(6,[3,4,12,13,14,15,16,17,18,19,20,21,22,23],[3,4])]) Tryz.func81 Tryz.ntmps81 (by kernel_rfl) rfl (by kernel_rfl) k
def pV (a0 a1:AV) (h:ab) (Q:QT):Prop:=
 C ie [a0,a1] h fun t7 h0=>
 ag .geq t7 (I 0) fun t8=>
 Q t8 h0
theorem uk (a0 a1:AV) (h:ab) (Q:QT) (k:pV a0 a1 h Q):C iu [a0,a1] h Q:=
 okF (pl:=[]) Tryz.func175 Tryz.ntmps175 (by kernel_rfl) rfl (by kernel_rfl) k
def x0 (s1:AV) (Q:QT) (vs1:List AV) (h:ab) (next1:NT):Prop:=
 C ie [(an vs1 0),s1] h fun t22 h2=>
 ag .eql t22 (I (-1)) fun t24=>
 ifB t24 (
 Q (an vs1 2) h2) (
 ag .add (an vs1 2) (I 1) fun t27=>
 ce s1 fun t31=>
 ag .add t22 t31 fun t32=>
 bk (an vs1 0) (some t32) none fun t33=>
 next1 [t33,(an vs1 1),t27] h2)
def uH (a0 a1:AV) (h:ab) (Q:QT):Prop:=
 ce a1 fun t8=>
 ag .eql t8 (I 0) fun t9=>
 ifB t9 (
 C jM [a0] h fun t11 h0=>
 ag .add t11 (I 1) fun t12=>
 Q t12 h0) (
 ce a1 fun t14=>
 ag .eql t14 (I 1) fun t15=>
 ifB t15 (
 bM a1 (I 0) fun t18=>
 Oz .count [a0,t18] fun t19=>
 Q t19 h) (
 cC [a0,(I 0),(I 0)] h fun vs1 h next1=>x0 a1 Q vs1 h next1))
theorem w6 (a0 a1:AV) (h:ab) (Q:QT) (k:uH a0 a1 h Q):C pw [a0,a1] h Q:=
 okF (pl:=[(7,[0,4,5,6,20,21,22,23,24,25,26,27,28,29,30,31,32,33],[0,4,5])]) Tryz.func133 Tryz.ntmps133 (by kernel_rfl) rfl (by kernel_rfl) k
def nM (a0 a1:AV) (h:ab) (Q:QT):Prop:=
 C i5 [a0,a1] h fun t7 h0=>
 Q t7 h0
theorem sJ (a0 a1:AV) (h:ab) (Q:QT) (k:nM a0 a1 h Q):C eM [a0,a1] h Q:=
 okF (pl:=[]) Tryz.func214 Tryz.ntmps214 (by kernel_rfl) rfl (by kernel_rfl) k
def n7 (a0 a1:AV) (h:ab) (Q:QT):Prop:=
 C i6 [a0,a1] h fun t7 h0=>
 Q t7 h0
theorem sX (a0 a1:AV) (h:ab) (Q:QT) (k:n7 a0 a1 h Q):C gU [a0,a1] h Q:=
 okF (pl:=[]) Tryz.func106 Tryz.ntmps106 (by kernel_rfl) rfl (by kernel_rfl) k
def uR (a0 a1:AV) (h:ab) (Q:QT):Prop:=
 C mC [a0,a1,(I 0),(I (-1))] h fun t7 h0=>
 Q t7 h0
theorem xG (a0 a1:AV) (h:ab) (Q:QT) (k:uR a0 a1 h Q):C fC [a0,a1] h Q:=
 okF (pl:=[]) Tryz.func72 Tryz.ntmps72 (by kernel_rfl) rfl (by kernel_rfl) k
def wT (a0 a1:AV) (h:ab) (Q:QT):Prop:=
 ag .eql a0 (S ⟨#[]⟩) fun t8=>
 ifB t8 (Q a0 h) (
 ag .eql a1 (S ⟨#[]⟩) fun t11=>
 ifB t11 (
 Q a0 h) (
 ce a1 fun t15=>
 ag .eql t15 (I 1) fun t16=>
 ifB t16 (bM a1 (I 0) fun t19=>
 ag .lss t19 (.lit (.int .u8 128)) fun t20=>
 ifB t20 (
 bM a1 (I 0) fun t24=>
 bM a1 (I 0) fun t27=>
 C pk [a0,t24] h fun t25 h0=>
 C dL [t25,t27] h0 fun t28 h1=>
 Q t28 h1) (
 C ci [a1] h fun t31 h2=>
 aj 0 t31 fun t32=>
 aj 1 t31 fun t33=>
 gK (List.replicate 256 (B false)) h2 fun t5 h3=>
 au 256 t5 t32 h3 fun h4=>
 ifB t33 (
 C dl [a0,t5] h4 fun t36 h5=>
 C bT [t36,t5] h5 fun t37 h6=>
 Q t37 h6) (
 C gq [a0,a1] h4 fun t40 h7=>
 C c5 [t40,a1] h7 fun t42 h8=>
 Q t42 h8))) (
 C ci [a1] h fun t31 h9=>
 aj 0 t31 fun t32=>
 aj 1 t31 fun t33=>
 gK (List.replicate 256 (B false)) h9 fun t5 h10=>
 au 256 t5 t32 h10 fun h11=>
 ifB t33 (
 C dl [a0,t5] h11 fun t36 h12=>
 C bT [t36,t5] h12 fun t37 h13=>
 Q t37 h13) (
 C gq [a0,a1] h11 fun t40 h14=>
 C c5 [t40,a1] h14 fun t42 h15=>
 Q t42 h15))))
theorem y2 (a0 a1:AV) (h:ab) (Q:QT) (k:wT a0 a1 h Q):C eI [a0,a1] h Q:=
 okF (pl:=[(1000004,[0,1,2,4,5,3,6,7],[])]) Tryz.func111 Tryz.ntmps111 (by kernel_rfl) rfl (by kernel_rfl) k
def pC (a0 a1:AV) (h:ab) (Q:QT):Prop:=
 ag .eql a0 (S ⟨#[]⟩) fun t8=>
 ifB t8 (Q a0 h) (
 ag .eql a1 (S ⟨#[]⟩) fun t11=>
 ifB t11 (
 Q a0 h) (
 ce a1 fun t15=>
 ag .eql t15 (I 1) fun t16=>
 ifB t16 (bM a1 (I 0) fun t19=>
 ag .lss t19 (.lit (.int .u8 128)) fun t20=>
 ifB t20 (
 bM a1 (I 0) fun t24=>
 C dL [a0,t24] h fun t25 h0=>
 Q t25 h0) (
 C ci [a1] h fun t28 h1=>
 aj 0 t28 fun t29=>
 aj 1 t28 fun t30=>
 gK (List.replicate 256 (B false)) h1 fun t5 h2=>
 au 256 t5 t29 h2 fun h3=>
 ifB t30 (
 C bT [a0,t5] h3 fun t33 h4=>
 Q t33 h4) (
 C c5 [a0,a1] h3 fun t36 h5=>
 Q t36 h5))) (
 C ci [a1] h fun t28 h6=>
 aj 0 t28 fun t29=>
 aj 1 t28 fun t30=>
 gK (List.replicate 256 (B false)) h6 fun t5 h7=>
 au 256 t5 t29 h7 fun h8=>
 ifB t30 (
 C bT [a0,t5] h8 fun t33 h9=>
 Q t33 h9) (
 C c5 [a0,a1] h8 fun t36 h10=>
 Q t36 h10))))
theorem uh (a0 a1:AV) (h:ab) (Q:QT) (k:pC a0 a1 h Q):C ir [a0,a1] h Q:=
 okF (pl:=[]) Tryz.func206 Tryz.ntmps206 (by kernel_rfl) rfl (by kernel_rfl) k
def ip (a0 a1:AV) (h:ab) (Q:QT):Prop:=
 aE a0 fun t7=>
 dK 256 1 t7 a1 fun t8=>
 ah t8 h fun t9=>
 Q t9 h
theorem mh (a0 a1:AV) (h:ab) (Q:QT) (k:ip a0 a1 h Q):C cI [a0,a1] h Q:=
 okF (pl:=[]) Tryz.func170 Tryz.ntmps170 (by kernel_rfl) rfl (by kernel_rfl) k
def mz (s0 s10 s9:AV) (h:ab) (Q:QT):Prop:=
 am 1 s9 s10 fun t61=>
 au 1 t61 s0 h fun h5=>
 ag .add s10 (I 1) fun t64=>
 ln 1 s9 none (some t64) fun t65=>
 Q t65 h5
def fq (s0 s10 s9:AV) (h:ab) (Q:QT):Prop:=
 mz s0 s10 s9 h Q
def mB (s3 s9 s1 s2:AV) (Q:QT) (vs3:List AV) (h:ab) (next3:NT):Prop:=
 ag .lss (an vs3 1) s3 fun t36=>
 ifB t36 (
 C ie [(an vs3 0),s1] h fun t39 h4=>
 ag .lss t39 (I 0) fun t41=>
 ifB t41 (
 fq (an vs3 0) (an vs3 1) s9 h4 Q) (
 ag .add t39 s2 fun t47=>
 bk (an vs3 0) none (some t47) fun t48=>
 am 1 s9 (an vs3 1) fun t49=>
 au 1 t49 t48 h4 fun h8=>
 ce s1 fun t53=>
 ag .add t39 t53 fun t54=>
 bk (an vs3 0) (some t54) none fun t55=>
 ag .add (an vs3 1) (I 1) fun t57=>
 next3 [t55,t57] h8)) (
 fq (an vs3 0) (an vs3 1) s9 h Q)
def lJ (s3 s0 s1 s2:AV) (h:ab) (Q:QT):Prop:=
 ce s0 fun t27=>
 ag .add t27 (I 1) fun t28=>
 BZ s3 t28 fun t29=>
 jp 16 (S ⟨#[]⟩) t29 t29 h fun t31 h2=>
 ag .sub t29 (I 1) fun t33=>
 cC [s0,(I 0)] h2 fun vs3 h next3=>mB t33 t31 s1 s2 Q vs3 h next3
def pA (a0 a1 a2 a3:AV) (h:ab) (Q:QT):Prop:=
 ag .eql a3 (I 0) fun t13=>
 ifB t13 (
 Q (.full 0 []) h) (
 ag .eql a1 (S ⟨#[]⟩) fun t15=>
 ifB t15 (
 C vh [a0,a3] h fun t18 h0=>
 Q t18 h0) (
 ag .lss a3 (I 0) fun t20=>
 ifB t20 (
 C pw [a0,a1] h fun t23 h1=>
 ag .add t23 (I 1) fun t24=>
 lJ t24 a0 a1 a2 h1 Q) (
 lJ a3 a0 a1 a2 h Q)))
theorem uo (a0 a1 a2 a3:AV) (h:ab) (Q:QT) (k:pA a0 a1 a2 a3 h Q):C mC [a0,a1,a2,a3] h Q:=
 okF (pl:=[(12,[0,10,11,34,35,36,37,38,39,40,41,42,43,44,45,46,47,48,49,50,51,52,53,54,55,56,57],[0,10])]) Tryz.func105 Tryz.ntmps105 (by kernel_rfl) rfl (by kernel_rfl) k
def jx (s2 s0:AV) (Q:QT) (vs1:List AV) (h:ab) (next1:NT):Prop:=
 ce s0 fun t8=>
 ag .lss (an vs1 1) t8 fun t9=>
 ifB t9 (
 bM s0 (an vs1 1) fun t14=>
 ag .geq t14 (.lit (.int .u8 128)) fun t16=>
 ifB t16 (
 ay 256 s2 h fun t17=>
 au 256 s2 t17 h fun h2=>
 ay 256 s2 h2 fun r3=>
 Q (.tup [r3,(B false)]) h2) (
 dK 256 1 s2 t14 fun t19=>
 au 1 t19 (B true) h fun h4=>
 ag .add (an vs1 1) (I 1) fun t11=>
 next1 [(an vs1 0),t11] h4)) (
 ay 256 s2 h fun t20=>
 au 256 s2 t20 h fun h5=>
 ay 256 s2 h5 fun r6=>
 Q (.tup [r6,(B true)]) h5)
def lF (a0:AV) (h:ab) (Q:QT):Prop:=
 gK (List.replicate 256 (B false)) h fun t2 h0=>
 cC [(B false),(I 0)] h0 fun vs1 h next1=>jx t2 a0 Q vs1 h next1
theorem pF (a0:AV) (h:ab) (Q:QT) (k:lF a0 h Q):C ci [a0] h Q:=
 okF (pl:=[(3,[3,4,5,6,7,8,9,10,11,12,13,14,15,16,17,18,19],[3,4])]) Tryz.func139 Tryz.ntmps139 (by kernel_rfl) rfl (by kernel_rfl) k
def iX (s0:AV) (h:ab) (Q:QT):Prop:=
 Q s0 h
def eX (s0:AV) (h:ab) (Q:QT):Prop:=
 iX s0 h Q
def iM (s1:AV) (Q:QT) (vs0:List AV) (h:ab) (next0:NT):Prop:=
 ce (an vs0 0) fun t6=>
 ag .gtr t6 (I 0) fun t7=>
 ifB t7 (
 bM (an vs0 0) (I 0) fun t10=>
 C cI [s1,t10] h fun t11 h1=>
 qUn .not t11 fun t12=>
 ifB t12 (
 eX (an vs0 0) h1 Q) (
 bk (an vs0 0) (some (I 1)) none fun t14=>
 next0 [t14] h1)) (
 eX (an vs0 0) h Q)
def kD (a0 a1:AV) (h:ab) (Q:QT):Prop:=
 cC [a0] h fun vs0 h next0=>iM a1 Q vs0 h next0
theorem o3 (a0 a1:AV) (h:ab) (Q:QT) (k:kD a0 a1 h Q):C bT [a0,a1] h Q:=
 okF (pl:=[(2,[0,5,6,7,8,9,10,11,12,13,14],[0])]) Tryz.func140 Tryz.ntmps140 (by kernel_rfl) rfl (by kernel_rfl) k
def jE (s1:AV) (Q:QT) (vs0:List AV) (h:ab) (next0:NT):Prop:=
 ce (an vs0 0) fun t6=>
 ag .gtr t6 (I 0) fun t7=>
 ifB t7 (bM (an vs0 0) (I 0) fun t10=>
 ag .eql t10 s1 fun t12=>
 ifB t12 (
 bk (an vs0 0) (some (I 1)) none fun t15=>
 next0 [t15] h) (
 Q (an vs0 0) h)) (
 Q (an vs0 0) h)
def lY (a0 a1:AV) (h:ab) (Q:QT):Prop:=
 cC [a0] h fun vs0 h next0=>jE a1 Q vs0 h next0
theorem py (a0 a1:AV) (h:ab) (Q:QT) (k:lY a0 a1 h Q):C dL [a0,a1] h Q:=
 okF (pl:=[(2,[0,5,6,7,8,9,10,11,12,13,14,15],[0])]) Tryz.func137 Tryz.ntmps137 (by kernel_rfl) rfl (by kernel_rfl) k
def im (s0:AV) (h:ab) (Q:QT):Prop:=
 Q s0 h
def eH (s0:AV) (h:ab) (Q:QT):Prop:=
 im s0 h Q
def iq (s1:AV) (Q:QT) (vs0:List AV) (h:ab) (next0:NT):Prop:=
 ce (an vs0 0) fun t6=>
 ag .gtr t6 (I 0) fun t7=>
 ifB t7 (
 ce (an vs0 0) fun t11=>
 ag .sub t11 (I 1) fun t12=>
 bM (an vs0 0) t12 fun t13=>
 C cI [s1,t13] h fun t14 h1=>
 qUn .not t14 fun t15=>
 ifB t15 (
 eH (an vs0 0) h1 Q) (
 ce (an vs0 0) fun t18=>
 ag .sub t18 (I 1) fun t19=>
 bk (an vs0 0) none (some t19) fun t20=>
 next0 [t20] h1)) (
 eH (an vs0 0) h Q)
def jU (a0 a1:AV) (h:ab) (Q:QT):Prop:=
 cC [a0] h fun vs0 h next0=>iq a1 Q vs0 h next0
theorem nH (a0 a1:AV) (h:ab) (Q:QT) (k:jU a0 a1 h Q):C dl [a0,a1] h Q:=
 okF (pl:=[(2,[0,5,6,7,8,9,10,11,12,13,14,15,16,17,18,19,20],[0])]) Tryz.func141 Tryz.ntmps141 (by kernel_rfl) rfl (by kernel_rfl) k
def kE (a0 a1:AV) (h:ab) (Q:QT):Prop:=
 ce a0 fun t6=>
 ce a1 fun t8=>
 ag .geq t6 t8 fun t9=>
 ifB t9 (ce a1 fun t13=>
 bk a0 none (some t13) fun t14=>
 ag .eql t14 a1 fun t16=>
 Q t16 h) (
 Q (B false) h)
theorem oR (a0 a1:AV) (h:ab) (Q:QT) (k:kE a0 a1 h Q):C i5 [a0,a1] h Q:=
 okF (pl:=[]) Tryz.func229 Tryz.ntmps229 (by kernel_rfl) rfl (by kernel_rfl) k
def ky (a0 a1:AV) (h:ab) (Q:QT):Prop:=
 Oz .index [a0,a1] fun t7=>
 Q t7 h
theorem oN (a0 a1:AV) (h:ab) (Q:QT) (k:ky a0 a1 h Q):C i6 [a0,a1] h Q:=
 okF (pl:=[]) Tryz.func135 Tryz.ntmps135 (by kernel_rfl) rfl (by kernel_rfl) k
