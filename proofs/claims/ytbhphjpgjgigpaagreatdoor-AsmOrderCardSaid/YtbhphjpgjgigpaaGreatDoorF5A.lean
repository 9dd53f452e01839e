import Derived.Test.YtbhphjpgjgigpaaGreatDoorAM4toAM6
import Derived.Test.YtbhphjpgjgigpaaGreatDoorAL33
import Derived.Test.YtbhphjpgjgigpaaGreatDoorProg
import Derived.KernelRfl
set_option linter.all false
set_option autoImplicit true
set_option relaxedAutoImplicit true
set_option maxRecDepth 100000
namespace Go.Proofs.YtbhphjpgjgigpaaGreatDoor.AL
noncomputable section
open Go.Proofs
variable [Tabs]
noncomputable abbrev Pg:Program:=Tryz.prog
abbrev C:=ACall Pg
abbrev CV:=tR Pg
def uh (fn:Func):Code:=fn.body.getD .skip
def abf (fn : Func) : Bool := fn.body.isSome && !(fn.name == "runtime.NumGoroutine")
theorem okF {f:FuncId}{fn:Func}{m:Nat}{l:List AV}{h:ae}{Q:QT}{pl:Lm}{p:Prop}(hf:Pg.funcs[f]?=some fn) (hm:fn.ntmps=m) (hb:abf fn=true) (hl:Nat.ble l.length m=true) (he:abg Pg pl fn (uh fn) l h Q=p) (k:p):ACall Pg f l h Q:=by
 simp only[abf,Bool.and_eq_true,Bool.not_eq_true']at hb
 have h1:fn.body=some (uh fn):=by
  have h:=hb.1
  unfold uh
  cases hc:fn.body with
  | none=>rw[hc]at h;cases h
  | some c=>rfl
 exact JU hf h1 hb.2 (by rw[hm];exact Nat.le_of_ble_eq_true hl) (by rw[he];exact k)
abbrev fp:Nat:=9
abbrev uN:Nat:=14
abbrev iy:Nat:=37
abbrev lB:Nat:=58
abbrev bt:Nat:=40
abbrev fA:Nat:=39
abbrev tW:Nat:=88
abbrev eI:Nat:=53
abbrev qt:Nat:=18
abbrev xQ:Nat:=116
abbrev wh:Nat:=30
abbrev pc:Nat:=78
abbrev jW:Nat:=20
abbrev ck:Nat:=34
abbrev gS:Nat:=79
abbrev fQ:Nat:=118
abbrev kU:Nat:=55
abbrev iG:Nat:=54
abbrev eQ:Nat:=22
abbrev cc:Nat:=33
abbrev cm:Nat:=32
abbrev aU:Nat:=51
abbrev co:Nat:=31
abbrev fG:Nat:=35
abbrev jS:Nat:=56
abbrev rV:Nat:=80
abbrev lN:Nat:=63
abbrev p7:Nat:=98
abbrev kA:Nat:=62
abbrev rY:Nat:=177
abbrev cN:Nat:=215
abbrev uT:Nat:=99
abbrev cH:Nat:=96
abbrev cV:Nat:=219
abbrev ll:Nat:=216
abbrev dW:Nat:=220
abbrev iW:Nat:=203
abbrev cF:Nat:=217
abbrev fa:Nat:=191
abbrev bU:Nat:=222
abbrev fD:Nat:=212
abbrev eA:Nat:=205
abbrev fu:Nat:=213
abbrev cu:Nat:=218
abbrev c5:Nat:=204
abbrev cq:Nat:=210
abbrev cB:Nat:=190
abbrev cU:Nat:=211
abbrev sC:Nat:=223
abbrev sf:Nat:=230
abbrev ny:Nat:=129
abbrev lJ:Nat:=221
abbrev vT:Nat:=181
abbrev nP:Nat:=124
abbrev xi:Nat:=125
abbrev vK:Nat:=199
abbrev tO:Nat:=123
abbrev iX:Nat:=157
abbrev uI:Nat:=155
abbrev ug:Nat:=156
abbrev sq:Nat:=36
abbrev qu:Nat:=145
abbrev rZ:Nat:=174
abbrev pq:Nat:=60
abbrev ri:Nat:=61
abbrev pi:Nat:=77
abbrev qS:Nat:=38
abbrev rm:Nat:=57
abbrev nA:Nat:=84
abbrev lS:Nat:=85
abbrev jr:Nat:=91
abbrev m9:Nat:=83
abbrev g9:Nat:=122
abbrev mM:Nat:=121
abbrev yC:Nat:=120
abbrev bB:Nat:=87
abbrev kK:Nat:=86
abbrev jK:Nat:=92
abbrev mW:Nat:=93
abbrev jx:Nat:=119
abbrev wR:Nat:=126
abbrev kJ:Nat:=69
abbrev dm:Nat:=101
abbrev vE:Nat:=24
abbrev nK:Nat:=49
abbrev jy:Nat:=71
abbrev gq:Nat:=104
abbrev uB:Nat:=17
abbrev pn:Nat:=41
abbrev dX:Nat:=28
abbrev nT:Nat:=15
abbrev gw:Nat:=12
abbrev mY:Nat:=27
abbrev mo:Nat:=48
abbrev gZ:Nat:=47
abbrev mf:Nat:=46
abbrev mn:Nat:=16
abbrev aY:Nat:=25
abbrev mN:Nat:=3
abbrev lR:Nat:=7
abbrev kX:Nat:=8
abbrev nn:Nat:=6
abbrev w4:Nat:=73
abbrev nu:Nat:=112
abbrev rR:Nat:=50
abbrev pf:Nat:=110
abbrev fK:Nat:=148
abbrev tG:Nat:=107
abbrev dU:Nat:=136
abbrev eL:Nat:=108
abbrev rz:Nat:=147
abbrev kj:Nat:=109
abbrev m6:Nat:=144
abbrev jg:Nat:=151
abbrev eH:Nat:=178
abbrev eO:Nat:=146
abbrev d9:Nat:=176
abbrev fR:Nat:=113
abbrev bF:Nat:=150
abbrev fY:Nat:=152
abbrev mT:Nat:=189
abbrev jl:Nat:=149
abbrev sw:Nat:=154
abbrev ng:Nat:=45
abbrev tL:Nat:=64
abbrev nj:Nat:=44
abbrev oY:Nat:=67
abbrev dk:Nat:=13
abbrev sa:Nat:=70
abbrev lG:Nat:=43
abbrev lO:Nat:=182
abbrev dq:Nat:=65
abbrev j9:Nat:=163
abbrev cd:Nat:=161
abbrev cR:Nat:=160
abbrev gb:Nat:=131
abbrev fb:Nat:=162
abbrev c9:Nat:=130
abbrev gd:Nat:=103
abbrev cG:Nat:=102
abbrev fW:Nat:=164
abbrev o8:Nat:=66
abbrev jB:Nat:=100
abbrev uY:Nat:=26
abbrev uz:Nat:=42
abbrev dA:Nat:=114
abbrev c7:Nat:=19
abbrev cZ:Nat:=74
abbrev du:Nat:=21
abbrev dV:Nat:=23
abbrev dR:Nat:=95
abbrev bH:Nat:=76
abbrev cb:Nat:=117
abbrev bg:Nat:=52
abbrev dh:Nat:=94
abbrev cC:Nat:=115
abbrev cO:Nat:=97
abbrev cx:Nat:=153
abbrev cM:Nat:=173
abbrev fT:Nat:=75
abbrev bG:Nat:=128
abbrev gO:Nat:=82
abbrev gP:Nat:=81
abbrev em:Nat:=202
abbrev jQ:Nat:=175
abbrev sI:Nat:=133
abbrev ef:Nat:=59
abbrev fw:Nat:=214
abbrev jE:Nat:=134
abbrev jd:Nat:=106
abbrev gu:Nat:=72
abbrev ft:Nat:=111
abbrev jO:Nat:=206
abbrev cY:Nat:=170
abbrev zv:Nat:=132
abbrev oC:Nat:=105
abbrev cz:Nat:=139
abbrev cj:Nat:=140
abbrev ej:Nat:=137
abbrev dC:Nat:=142
abbrev dK:Nat:=141
abbrev rU:Nat:=138
abbrev iI:Nat:=143
abbrev ky:Nat:=229
abbrev kD:Nat:=135
abbrev lr:Nat:=165
def qY (s9 s7 s8:AV) (h:ae) (next0:NT):Prop:=
 ai .shl s7 (.lit (.int .u64 8)) fun t22=>
 ai .or t22 s9 fun t24=>
 ai .sub s8 (I 1) fun t13=>
 next0 [t24,t13] h
def qD (s9 s7 s8 s1 s2:AV) (h:ae) (next0:NT):Prop:=
 ai .eql s8 s1 fun t18=>
 ifB t18 (
 ai .and s2 (I 255) fun t20=>
 qY t20 s7 s8 h next0) (
 qY s9 s7 s8 h next0)
def qB (s0 s1 s2:AV) (Q:QT) (vs0:List AV) (h:ae) (next0:NT):Prop:=
 ai .geq (ap vs0 1) (I 0) fun t11=>
 ifB t11 (
 ai .eql s0 (I 1) fun t15=>
 ifB t15 (
 qD (I 255) (ap vs0 0) (ap vs0 1) s1 s2 h next0) (
 qD (I 0) (ap vs0 0) (ap vs0 1) s1 s2 h next0)) (
 C vK [(ap vs0 0),(I 32)] h fun t26 h3=>
 Q t26 h3)
def No (a0 a1 a2:AV) (h:ae) (Q:QT):Prop:=
 bZ [(I 0),(I 3)] h fun vs0 h next0=>qB a0 a1 a2 Q vs0 h next0
theorem OF (a0 a1 a2:AV) (h:ae) (Q:QT) (k:No a0 a1 a2 h Q):C vT [a0,a1,a2] h Q:=
 okF (pl:=[(4,[7,8,9,10,11,12,13,14,15,16,17,18,19,20,21,22,23,24],[7,8])]) Tryz.func181 Tryz.ntmps181 (by kernel_rfl) rfl (by kernel_rfl) k
def Ow (a0 a1:AV) (h:ae) (Q:QT):Prop:=
 ai .sub a1 (I 1) fun t7=>
 C sw [(.lit (.float .f64 4607182418800017408)),t7] h fun t8 h0=>
 qy .f64 a0 fun t10=>
 qUn .neg t8 fun t12=>
 ai .geq t10 t12 fun t13=>
 ifB t13 (qy .f64 a0 fun t16=>
 ai .lss t16 t8 fun t18=>
 Q t18 h0) (
 Q (B false) h0)
theorem Nf (a0 a1:AV) (h:ae) (Q:QT) (k:Ow a0 a1 h Q):C nP [a0,a1] h Q:=
 okF (pl:=[]) Tryz.func124 Tryz.ntmps124 (by kernel_rfl) rfl (by kernel_rfl) k
def Dd (s9 s8 s0:AV) (Q:QT) (vs1:List AV) (h:ae) (next1:NT):Prop:=
 ai .lss (ap vs1 4) s9 fun t11=>
 ifB t11 (
 ak 2 s8 (ap vs1 4) fun t12=>
 aq 2 t12 h fun t13=>
 cP [(I 0),(I 0)] h fun t7 h2=>
 an 2 t7 t13 h2 fun h3=>
 aq 2 t7 h3 fun t15=>
 C ug [s0,(.fn (.func iX) [t15] [])] h3 fun t17 h4=>
 ai .geq t17 (I 0) fun t19=>
 ifB t19 (
 ab 0 t7 fun t20=>
 ag t20 h4 fun t21=>
 ab 1 t7 fun t22=>
 ag t22 h4 fun t23=>
 Q (.tup [t21,t23,t17,(B true)]) h4) (
 ai .add (ap vs1 4) (I 1) fun t25=>
 next1 [(ap vs1 0),(ap vs1 1),t17,(ap vs1 3),t25] h4)) (
 Q (.tup [(I 0),(I 0),(I 0),(B false)]) h)
def Oj (a0:AV) (h:ae) (Q:QT):Prop:=
 C uI [] h fun t8 h0=>
 aW t8 fun t9=>
 bZ [(I 0),(I 0),(I 0),(B false),(I 0)] h0 fun vs1 h next1=>Dd t9 t8 a0 Q vs1 h next1
theorem Mq (a0:AV) (h:ae) (Q:QT) (k:Oj a0 h Q):C xi [a0] h Q:=
 okF (pl:=[(3,[2,3,4,5,7,10,11,12,13,14,15,16,17,18,19,20,21,22,23,24,25],[2,3,4,5,10]),(1000006,[0,1,2,3,4,5,6,7,8],[])]) Tryz.func125 Tryz.ntmps125 (by kernel_rfl) rfl (by kernel_rfl) k
def Mt (a0 a1:AV) (h:ae) (Q:QT):Prop:=
 B0 a1 (I 1) fun t7=>
 Ey t7 (I 64) fun t8=>
 ai .sub (I 64) t8 fun t9=>
 ai .shl a0 t9 fun t12=>
 ai .shr t12 t9 fun t14=>
 Q t14 h
theorem MO (a0 a1:AV) (h:ae) (Q:QT) (k:Mt a0 a1 h Q):C vK [a0,a1] h Q:=
 okF (pl:=[]) Tryz.func199 Tryz.ntmps199 (by kernel_rfl) rfl (by kernel_rfl) k
def H3 (a0:AV) (h:ae) (Q:QT):Prop:=
 ai .shr a0 (.lit (.int .u64 16)) fun t6=>
 ai .and t6 (I 15) fun t7=>
 ai .shr a0 (.lit (.int .u64 11)) fun t9=>
 ai .and t9 (I 31) fun t10=>
 ai .and a0 (I 2047) fun t12=>
 Q (.tup [t7,t10,t12]) h
theorem Kz (a0:AV) (h:ae) (Q:QT) (k:H3 a0 h Q):C tO [a0] h Q:=
 okF (pl:=[]) Tryz.func123 Tryz.ntmps123 (by kernel_rfl) rfl (by kernel_rfl) k
def Dq (a0 a1:AV) (h:ae) (Q:QT):Prop:=
 gF a0 h fun t2 h0=>
 ab 0 t2 fun t5=>
 ag t5 h0 fun t6=>
 ab 1 t2 fun t7=>
 ag t7 h0 fun t8=>
 C vT [t6,t8,a1] h0 fun t10 h1=>
 Q t10 h1
theorem F5 (a0 a1:AV) (h:ae) (Q:QT) (k:Dq a0 a1 h Q):C iX [a0,a1] h Q:=
 okF (pl:=[]) Tryz.func157 Tryz.ntmps157 (by kernel_rfl) rfl (by kernel_rfl) k
def Iw (h:ae) (Q:QT):Prop:=
 ax [(I 0),(I 0)] [(0,1,(I 0)),(1,1,(I 0))] fun t1=>
 ax [(I 0),(I 0)] [(0,1,(I 0)),(1,1,(I 1))] fun t2=>
 ax [(I 0),(I 0)] [(0,1,(I 0)),(1,1,(I 2))] fun t3=>
 ax [(I 0),(I 0)] [(0,1,(I 0)),(1,1,(I 3))] fun t4=>
 ax [(I 0),(I 0)] [(0,1,(I 1)),(1,1,(I 0))] fun t5=>
 ax [(I 0),(I 0)] [(0,1,(I 1)),(1,1,(I 1))] fun t6=>
 ax [(I 0),(I 0)] [(0,1,(I 1)),(1,1,(I 2))] fun t7=>
 ax [(I 0),(I 0)] [(0,1,(I 1)),(1,1,(I 3))] fun t8=>
 am 8 2 [t1,t2,t3,t4,t5,t6,t7,t8] fun t9=>
 Q t9 h
theorem K9 (h:ae) (Q:QT) (k:Iw  h Q):C uI [] h Q:=
 okF (pl:=[]) Tryz.func155 Tryz.ntmps155 (by kernel_rfl) rfl (by kernel_rfl) k
def Ap (s0 s1:AV) (Q:QT) (vs0:List AV) (h:ae) (next0:NT):Prop:=
 ai .lss (ap vs0 1) (I 256) fun t7=>
 ifB t7 (
 CV s1 [(ap vs0 1)] h fun t11 h1=>
 ai .eql t11 s0 fun t13=>
 ifB t13 (
 Q (ap vs0 1) h1) (
 ai .add (ap vs0 1) (I 1) fun t15=>
 next0 [(ap vs0 0),t15] h1)) (
 Q (I (-1)) h)
def IZ (a0 a1:AV) (h:ae) (Q:QT):Prop:=
 bZ [(I 0),(I 0)] h fun vs0 h next0=>Ap a0 a1 Q vs0 h next0
theorem KF (a0 a1:AV) (h:ae) (Q:QT) (k:IZ a0 a1 h Q):C ug [a0,a1] h Q:=
 okF (pl:=[(3,[4,5,6,7,8,9,10,11,12,13,14,15],[4,6])]) Tryz.func156 Tryz.ntmps156 (by kernel_rfl) rfl (by kernel_rfl) k
def Fm (a0:AV) (h:ae) (Q:QT):Prop:=
 gF a0 h fun t1 h0=>
 aq 2 t1 h0 fun t8=>
 C rm [t8] h0 fun t9 h1=>
 ao 0 t9 fun t10=>
 ao 1 t9 fun t11=>
 qUn .not t11 fun t13=>
 ifB t13 (
 Q (.tup [(.full 0 []),(B false)]) h1) (
 ai .shr t10 (.lit (.int .u64 24)) fun t15=>
 ci .u8 t15 fun t16=>
 ai .shr t10 (.lit (.int .u64 16)) fun t18=>
 ci .u8 t18 fun t19=>
 ai .shr t10 (.lit (.int .u64 8)) fun t21=>
 ci .u8 t21 fun t22=>
 ci .u8 t10 fun t24=>
 am 4 1 [t16,t19,t22,t24] fun t25=>
 ab 0 t1 fun t27=>
 ag t27 h1 fun t28=>
 C qS [t28] h1 fun t29 h2=>
 ai .sub (I 4) t29 fun t30=>
 nk 1 t25 (some t30) none fun t31=>
 C du [t31] h2 fun t32 h3=>
 Q (.tup [t32,(B true)]) h3)
theorem HP (a0:AV) (h:ae) (Q:QT) (k:Fm a0 h Q):C sq [a0] h Q:=
 okF (pl:=[]) Tryz.func36 Tryz.ntmps36 (by kernel_rfl) rfl (by kernel_rfl) k
def N9 (a0:AV) (h:ae) (Q:QT):Prop:=
 gF a0 h fun t1 h0=>
 C jx [] h0 fun t5 h1=>
 C cM [t5,(.fn (.func rZ) [] [t1])] h1 fun t7 h2=>
 B0 t7 (I 0) fun t9=>
 ai .geq t7 (I 0) fun t11=>
 Q (.tup [t9,t11]) h2
theorem NL (a0:AV) (h:ae) (Q:QT) (k:N9 a0 h Q):C qu [a0] h Q:=
 okF (pl:=[]) Tryz.func145 Tryz.ntmps145 (by kernel_rfl) rfl (by kernel_rfl) k
def FX (a0 a1:AV) (h:ae) (Q:QT):Prop:=
 gF a0 h fun t2 h0=>
 ab 0 t2 fun t4=>
 ag t4 h0 fun t5=>
 ag a1 h0 fun t6=>
 ai .eql t5 t6 fun t7=>
 Q t7 h0
theorem Hg (a0 a1:AV) (h:ae) (Q:QT) (k:FX a0 a1 h Q):C rZ [a0,a1] h Q:=
 okF (pl:=[]) Tryz.func174 Tryz.ntmps174 (by kernel_rfl) rfl (by kernel_rfl) k
def Ip (a0:AV) (h:ae) (Q:QT):Prop:=
 C jr [a0,(.fn (.func jK) [] [])] h fun t4 h0=>
 Q t4 h0
theorem LJ (a0:AV) (h:ae) (Q:QT) (k:Ip a0 h Q):C pq [a0] h Q:=
 okF (pl:=[]) Tryz.func60 Tryz.ntmps60 (by kernel_rfl) rfl (by kernel_rfl) k
def Mz (a0:AV) (h:ae) (Q:QT):Prop:=
 C jr [a0,(.fn (.func mW) [] [])] h fun t4 h0=>
 Q t4 h0
theorem N7 (a0:AV) (h:ae) (Q:QT) (k:Mz a0 h Q):C ri [a0] h Q:=
 okF (pl:=[]) Tryz.func61 Tryz.ntmps61 (by kernel_rfl) rfl (by kernel_rfl) k
def Ik (a0:AV) (h:ae) (Q:QT):Prop:=
 gF a0 h fun t1 h0=>
 aq 2 t1 h0 fun t6=>
 C rm [t6] h0 fun t7 h1=>
 ao 0 t7 fun t8=>
 ao 1 t7 fun t9=>
 Q t9 h1
theorem Lz (a0:AV) (h:ae) (Q:QT) (k:Ik a0 h Q):C pi [a0] h Q:=
 okF (pl:=[]) Tryz.func77 Tryz.ntmps77 (by kernel_rfl) rfl (by kernel_rfl) k
def Nn (a0:AV) (h:ae) (Q:QT):Prop:=
 C ri [a0] h fun t5 h0=>
 ai .eql t5 (S ⟨#[]⟩) fun t6=>
 ifB t6 (
 Q (I 0) h0) (
 ai .lss a0 (I 43) fun t9=>
 ifB t9 (
 Q (I 2) h0) (
 Q (I 4) h0))
theorem L0 (a0:AV) (h:ae) (Q:QT) (k:Nn a0 h Q):C qS [a0] h Q:=
 okF (pl:=[]) Tryz.func38 Tryz.ntmps38 (by kernel_rfl) rfl (by kernel_rfl) k
def Db (s27 s26 s1:AV) (Q:QT) (vs4:List AV) (h:ae) (next4:NT):Prop:=
 ai .lss (ap vs4 3) s27 fun t29=>
 ifB t29 (
 ak 1 s26 (ap vs4 3) fun t31=>
 ag t31 h fun t32=>
 ab 1 s1 fun t35=>
 ag t35 h fun t36=>
 ak 1 t36 (ap vs4 3) fun t38=>
 ag t38 h fun t39=>
 C bB [t32,t39] h fun t40 h5=>
 ao 0 t40 fun t41=>
 ao 1 t40 fun t42=>
 qUn .not t42 fun t44=>
 ifB t44 (
 Q (.tup [(.lit (.int .u32 0)),(B false)]) h5) (
 ai .or (ap vs4 2) t41 fun t47=>
 ai .add (ap vs4 3) (I 1) fun t48=>
 next4 [(ap vs4 0),(ap vs4 1),t47,t48] h5)) (
 Q (.tup [(ap vs4 2),(B true)]) h)
def Mj (a0:AV) (h:ae) (Q:QT):Prop:=
 gF a0 h fun t1 h0=>
 ab 0 t1 fun t10=>
 ag t10 h0 fun t11=>
 C ri [t11] h0 fun t12 h1=>
 ai .eql t12 (S ⟨#[]⟩) fun t13=>
 ifB t13 (
 Q (.tup [(.lit (.int .u32 0)),(B false)]) h1) (
 ab 0 t1 fun t14=>
 ag t14 h1 fun t15=>
 ab 0 t1 fun t17=>
 ag t17 h1 fun t18=>
 C m9 [t15,(.fn (.func nA) [] [])] h1 fun t16 h2=>
 (ag t17 h2 fun _t=>
 _t=t18)∧
 C lS [t18,(.fn (.func kK) [] [])] h2 fun t19 h3=>
 aW t19 fun t21=>
 ab 1 t1 fun t22=>
 ag t22 h3 fun t23=>
 aW t23 fun t24=>
 ai .neq t21 t24 fun t25=>
 ifB t25 (
 Q (.tup [(.lit (.int .u32 0)),(B false)]) h3) (
 aW t19 fun t27=>
 bZ [(.lit (.int .u32 0)),(B false),t16,(I 0)] h3 fun vs4 h next4=>Db t27 t19 t1 Q vs4 h next4))
theorem N2 (a0:AV) (h:ae) (Q:QT) (k:Mj a0 h Q):C rm [a0] h Q:=
 okF (pl:=[(1000003,[0,1,3,4,2,5,6,7],[]),(8,[2,3,4,6,7,8,9,28,29,30,31,32,33,34,35,36,37,38,39,40,41,42,43,44,45,46,47,48],[2,3,4,28])]) Tryz.func57 Tryz.ntmps57 (by kernel_rfl) rfl (by kernel_rfl) k
def FM (a0:AV) (h:ae) (Q:QT):Prop:=
 gF a0 h fun t1 h0=>
 ab 1 t1 fun t3=>
 ag t3 h0 fun t4=>
 Q t4 h0
theorem HU (a0:AV) (h:ae) (Q:QT) (k:FM a0 h Q):C nA [a0] h Q:=
 okF (pl:=[]) Tryz.func84 Tryz.ntmps84 (by kernel_rfl) rfl (by kernel_rfl) k
def mt (s4:AV) (h:ae) (Q:QT):Prop:=
 Q s4 h
def wQ (a0 a1:AV) (h:ae) (Q:QT):Prop:=
 C jx [] h fun t6 h0=>
 ai .geq a0 (I 0) fun t8=>
 ifB t8 (aW t6 fun t12=>
 ai .lss a0 t12 fun t13=>
 ifB t13 (
 ak 3 t6 a0 fun t18=>
 aq 3 t18 h0 fun t19=>
 CV a1 [t19] h0 fun t20 h1=>
 mt t20 h1 Q) (
 mt (.full 0 []) h0 Q)) (
 mt (.full 0 []) h0 Q)
theorem Av (a0 a1:AV) (h:ae) (Q:QT) (k:wQ a0 a1 h Q):C lS [a0,a1] h Q:=
 okF (pl:=[]) Tryz.func85 Tryz.ntmps85 (by kernel_rfl) rfl (by kernel_rfl) k
def m8 (s4:AV) (h:ae) (Q:QT):Prop:=
 Q s4 h
def yP (a0 a1:AV) (h:ae) (Q:QT):Prop:=
 C jx [] h fun t6 h0=>
 ai .geq a0 (I 0) fun t8=>
 ifB t8 (aW t6 fun t12=>
 ai .lss a0 t12 fun t13=>
 ifB t13 (
 ak 3 t6 a0 fun t18=>
 aq 3 t18 h0 fun t19=>
 CV a1 [t19] h0 fun t20 h1=>
 m8 t20 h1 Q) (
 m8 (S ⟨#[]⟩) h0 Q)) (
 m8 (S ⟨#[]⟩) h0 Q)
theorem CJ (a0 a1:AV) (h:ae) (Q:QT) (k:yP a0 a1 h Q):C jr [a0,a1] h Q:=
 okF (pl:=[]) Tryz.func91 Tryz.ntmps91 (by kernel_rfl) rfl (by kernel_rfl) k
def mP (s4:AV) (h:ae) (Q:QT):Prop:=
 Q s4 h
def yc (a0 a1:AV) (h:ae) (Q:QT):Prop:=
 C jx [] h fun t6 h0=>
 ai .geq a0 (I 0) fun t8=>
 ifB t8 (aW t6 fun t12=>
 ai .lss a0 t12 fun t13=>
 ifB t13 (
 ak 3 t6 a0 fun t18=>
 aq 3 t18 h0 fun t19=>
 CV a1 [t19] h0 fun t20 h1=>
 mP t20 h1 Q) (
 mP (.lit (.int .u32 0)) h0 Q)) (
 mP (.lit (.int .u32 0)) h0 Q)
theorem CI (a0 a1:AV) (h:ae) (Q:QT) (k:yc a0 a1 h Q):C m9 [a0,a1] h Q:=
 okF (pl:=[]) Tryz.func83 Tryz.ntmps83 (by kernel_rfl) rfl (by kernel_rfl) k
def IJ (a0:AV) (h:ae) (Q:QT):Prop:=
 ai .eql a0 (S ⟨#[89]⟩) fun t4=>
 ifB t4 (
 Q (.lit (.int .u64 4)) h) (
 Q (.lit (.int .u64 0)) h)
theorem LH (a0:AV) (h:ae) (Q:QT) (k:IJ a0 h Q):C g9 [a0] h Q:=
 okF (pl:=[]) Tryz.func122 Tryz.ntmps122 (by kernel_rfl) rfl (by kernel_rfl) k
def yM (a0 a1:AV) (h:ae) (Q:QT):Prop:=
 gF a0 h fun t2 h0=>
 ab 3 t2 fun t7=>
 ag t7 h0 fun t8=>
 ai .lss a1 t8 fun t9=>
 ifB t9 (Q (.tup [(.lit (.int .u32 0)),(B false)]) h0) (
 ab 3 t2 fun t12=>
 ag t12 h0 fun t13=>
 ai .sub a1 t13 fun t14=>
 ab 2 t2 fun t15=>
 ag t15 h0 fun t16=>
 ab 1 t2 fun t17=>
 ag t17 h0 fun t18=>
 ai .shl t16 t18 fun t19=>
 ai .geq t14 t19 fun t20=>
 ifB t20 (Q (.tup [(.lit (.int .u32 0)),(B false)]) h0) (
 ab 3 t2 fun t24=>
 ag t24 h0 fun t25=>
 ai .sub a1 t25 fun t26=>
 ab 2 t2 fun t27=>
 ag t27 h0 fun t28=>
 ai .rem t26 t28 fun t29=>
 ai .neq t29 (I 0) fun t30=>
 ifB t30 (
 Q (.tup [(.lit (.int .u32 0)),(B false)]) h0) (
 ab 3 t2 fun t33=>
 ag t33 h0 fun t34=>
 ai .sub a1 t34 fun t35=>
 ab 2 t2 fun t36=>
 ag t36 h0 fun t37=>
 ai .quo t35 t37 fun t38=>
 ci .u32 t38 fun t39=>
 ab 0 t2 fun t40=>
 ag t40 h0 fun t41=>
 ai .shl t39 t41 fun t42=>
 Q (.tup [t42,(B true)]) h0)))
theorem CP (a0 a1:AV) (h:ae) (Q:QT) (k:yM a0 a1 h Q):C mM [a0,a1] h Q:=
 okF (pl:=[(1000003,[0,1,2,3,4,5,6,7,8,9,10,11,12],[])]) Tryz.func121 Tryz.ntmps121 (by kernel_rfl) rfl (by kernel_rfl) k
def bM (a0:AV) (h:ae) (Q:QT):Prop:=
 cP [(.lit (.int .u64 0)),(.lit (.int .u64 0)),(I 0),(I 0)] h fun t2 h0=>
 ai .eql a0 (S ⟨#[85,53]⟩) fun t6=>
 ifB t6 (
 ax [(.lit (.int .u64 0)),(.lit (.int .u64 0)),(I 0),(I 0)] [(0,1,(.lit (.int .u64 4))),(1,1,(.lit (.int .u64 5))),(2,1,(I 1)),(3,1,(I 0))] fun t7=>
 an 4 t2 t7 h0 fun h1=>
 aq 4 t2 h1 fun r2=>
 Q (.tup [r2,(B true)]) h1) (
 ai .eql a0 (S ⟨#[85,55]⟩) fun t9=>
 ifB t9 (
 ax [(.lit (.int .u64 0)),(.lit (.int .u64 0)),(I 0),(I 0)] [(0,1,(.lit (.int .u64 4))),(1,1,(.lit (.int .u64 7))),(2,1,(I 1)),(3,1,(I 0))] fun t10=>
 an 4 t2 t10 h0 fun h3=>
 aq 4 t2 h3 fun r4=>
 Q (.tup [r4,(B true)]) h3) (
 ai .eql a0 (S ⟨#[79,53]⟩) fun t12=>
 ifB t12 (
 ax [(.lit (.int .u64 0)),(.lit (.int .u64 0)),(I 0),(I 0)] [(0,1,(.lit (.int .u64 4))),(1,1,(.lit (.int .u64 5))),(2,1,(I 1)),(3,1,(I 1))] fun t13=>
 an 4 t2 t13 h0 fun h5=>
 aq 4 t2 h5 fun r6=>
 Q (.tup [r6,(B true)]) h5) (
 ai .eql a0 (S ⟨#[77,49]⟩) fun t15=>
 ifB t15 (
 ax [(.lit (.int .u64 0)),(.lit (.int .u64 0)),(I 0),(I 0)] [(0,1,(.lit (.int .u64 8))),(1,1,(.lit (.int .u64 4))),(2,1,(I 1)),(3,1,(I 0))] fun t16=>
 an 4 t2 t16 h0 fun h7=>
 aq 4 t2 h7 fun r8=>
 Q (.tup [r8,(B true)]) h7) (
 ai .eql a0 (S ⟨#[77,50]⟩) fun t18=>
 ifB t18 (
 ax [(.lit (.int .u64 0)),(.lit (.int .u64 0)),(I 0),(I 0)] [(0,1,(.lit (.int .u64 8))),(1,1,(.lit (.int .u64 4))),(2,1,(I 2)),(3,1,(I 0))] fun t19=>
 an 4 t2 t19 h0 fun h9=>
 aq 4 t2 h9 fun r10=>
 Q (.tup [r10,(B true)]) h9) (
 ai .eql a0 (S ⟨#[77,52]⟩) fun t21=>
 ifB t21 (
 ax [(.lit (.int .u64 0)),(.lit (.int .u64 0)),(I 0),(I 0)] [(0,1,(.lit (.int .u64 8))),(1,1,(.lit (.int .u64 4))),(2,1,(I 4)),(3,1,(I 0))] fun t22=>
 an 4 t2 t22 h0 fun h11=>
 aq 4 t2 h11 fun r12=>
 Q (.tup [r12,(B true)]) h11) (
 ai .eql a0 (S ⟨#[79,49]⟩) fun t24=>
 ifB t24 (
 ax [(.lit (.int .u64 0)),(.lit (.int .u64 0)),(I 0),(I 0)] [(0,1,(.lit (.int .u64 10))),(1,1,(.lit (.int .u64 1))),(2,1,(I 1)),(3,1,(I 0))] fun t25=>
 an 4 t2 t25 h0 fun h13=>
 aq 4 t2 h13 fun r14=>
 Q (.tup [r14,(B true)]) h13) (
 ai .eql a0 (S ⟨#[73,50]⟩) fun t27=>
 ifB t27 (
 ax [(.lit (.int .u64 0)),(.lit (.int .u64 0)),(I 0),(I 0)] [(0,1,(.lit (.int .u64 8))),(1,1,(.lit (.int .u64 2))),(2,1,(I 1)),(3,1,(I 0))] fun t28=>
 an 4 t2 t28 h0 fun h15=>
 aq 4 t2 h15 fun r16=>
 Q (.tup [r16,(B true)]) h15) (
 ai .eql a0 (S ⟨#[68]⟩) fun t30=>
 ifB t30 (
 ax [(.lit (.int .u64 0)),(.lit (.int .u64 0)),(I 0),(I 0)] [(0,1,(.lit (.int .u64 21))),(1,1,(.lit (.int .u64 5))),(2,1,(I 1)),(3,1,(I 0))] fun t31=>
 an 4 t2 t31 h0 fun h17=>
 aq 4 t2 h17 fun r18=>
 Q (.tup [r18,(B true)]) h17) (
 ai .eql a0 (S ⟨#[65]⟩) fun t33=>
 ifB t33 (
 ax [(.lit (.int .u64 0)),(.lit (.int .u64 0)),(I 0),(I 0)] [(0,1,(.lit (.int .u64 16))),(1,1,(.lit (.int .u64 5))),(2,1,(I 1)),(3,1,(I 0))] fun t34=>
 an 4 t2 t34 h0 fun h19=>
 aq 4 t2 h19 fun r20=>
 Q (.tup [r20,(B true)]) h19) (
 ai .eql a0 (S ⟨#[66]⟩) fun t36=>
 ifB t36 (
 ax [(.lit (.int .u64 0)),(.lit (.int .u64 0)),(I 0),(I 0)] [(0,1,(.lit (.int .u64 11))),(1,1,(.lit (.int .u64 5))),(2,1,(I 1)),(3,1,(I 0))] fun t37=>
 an 4 t2 t37 h0 fun h21=>
 aq 4 t2 h21 fun r22=>
 Q (.tup [r22,(B true)]) h21) (
 ai .eql a0 (S ⟨#[79,50]⟩) fun t39=>
 ifB t39 (
 ax [(.lit (.int .u64 0)),(.lit (.int .u64 0)),(I 0),(I 0)] [(0,1,(.lit (.int .u64 20))),(1,1,(.lit (.int .u64 2))),(2,1,(I 1)),(3,1,(I 0))] fun t40=>
 an 4 t2 t40 h0 fun h23=>
 aq 4 t2 h23 fun r24=>
 Q (.tup [r24,(B true)]) h23) (
 ai .eql a0 (S ⟨#[73,52]⟩) fun t42=>
 ifB t42 (
 ax [(.lit (.int .u64 0)),(.lit (.int .u64 0)),(I 0),(I 0)] [(0,1,(.lit (.int .u64 16))),(1,1,(.lit (.int .u64 4))),(2,1,(I 1)),(3,1,(I 0))] fun t43=>
 an 4 t2 t43 h0 fun h25=>
 aq 4 t2 h25 fun r26=>
 Q (.tup [r26,(B true)]) h25) (
 ax [(.lit (.int .u64 0)),(.lit (.int .u64 0)),(I 0),(I 0)] [] fun t44=>
 an 4 t2 t44 h0 fun h27=>
 aq 4 t2 h27 fun r28=>
 Q (.tup [r28,(B false)]) h27)))))))))))))
theorem bh (a0:AV) (h:ae) (Q:QT) (k:bM a0 h Q):C yC [a0] h Q:=
 okF (pl:=[]) Tryz.func120 Tryz.ntmps120 (by kernel_rfl) rfl (by kernel_rfl) k
def C9 (s27 s26 s0 s1:AV) (h:ae) (Q:QT):Prop:=
 ifB s27 (
 ai .lss s1 (I 0) fun t31=>
 ifB t31 (Q (.tup [(.lit (.int .u32 0)),(B false)]) h) (
 ai .gtr s1 (I 7) fun t34=>
 ifT t34 (ai .lss s1 (I 24) fun t37=>
 ifB t37 (Q (.tup [(.lit (.int .u32 0)),(B false)]) h) (
 ai .gtr s1 (I 31) fun t42=>
 ifB t42 (
 Q (.tup [(.lit (.int .u32 0)),(B false)]) h) (
 ai .quo s1 (I 24) fun t46=>
 ai .mul t46 (I 16) fun t47=>
 ai .sub s1 t47 fun t48=>
 ci .u32 t48 fun t49=>
 C g9 [s0] h fun t51 h4=>
 ai .shl t49 t51 fun t52=>
 Q (.tup [t52,(B true)]) h4))) (
 ai .gtr s1 (I 31) fun t42=>
 ifB t42 (
 Q (.tup [(.lit (.int .u32 0)),(B false)]) h) (
 ai .quo s1 (I 24) fun t46=>
 ai .mul t46 (I 16) fun t47=>
 ai .sub s1 t47 fun t48=>
 ci .u32 t48 fun t49=>
 C g9 [s0] h fun t51 h5=>
 ai .shl t49 t51 fun t52=>
 Q (.tup [t52,(B true)]) h5)) (
 ifB (.tup []) (ifB (.tup []) (Q (.tup [(.lit (.int .u32 0)),(B false)]) h) (ifB (.tup []) (
 Q (.tup [(.lit (.int .u32 0)),(B false)]) h) (
 ai .quo s1 (I 24) fun t46=>
 ai .mul t46 (I 16) fun t47=>
 ai .sub s1 t47 fun t48=>
 ci .u32 t48 fun t49=>
 C g9 [s0] h fun t51 h6=>
 ai .shl t49 t51 fun t52=>
 Q (.tup [t52,(B true)]) h6))) (ai .gtr s1 (I 31) fun t42=>
 ifB t42 (
 Q (.tup [(.lit (.int .u32 0)),(B false)]) h) (
 ai .quo s1 (I 24) fun t46=>
 ai .mul t46 (I 16) fun t47=>
 ai .sub s1 t47 fun t48=>
 ci .u32 t48 fun t49=>
 C g9 [s0] h fun t51 h7=>
 ai .shl t49 t51 fun t52=>
 Q (.tup [t52,(B true)]) h7))))) (
 ai .eql s26 (S ⟨#[76,50,48]⟩) fun t54=>
 ifB t54 (
 C tO [s1] h fun t57 h8=>
 ao 0 t57 fun t58=>
 ao 1 t57 fun t59=>
 ao 2 t57 fun t60=>
 ai .shl t58 (.lit (.int .u64 11)) fun t62=>
 ai .shl t59 (.lit (.int .u64 16)) fun t64=>
 ai .or t62 t64 fun t65=>
 ai .or t65 t60 fun t67=>
 ci .u32 t67 fun t68=>
 C nP [s1,(I 20)] h8 fun t70 h9=>
 Q (.tup [t68,t70]) h9) (
 ai .eql s26 (S ⟨#[67,56]⟩) fun t72=>
 ifB t72 (
 C xi [s1] h fun t75 h10=>
 ao 0 t75 fun t76=>
 ao 1 t75 fun t77=>
 ao 2 t75 fun t78=>
 ao 3 t75 fun t79=>
 ai .shl t76 (.lit (.int .u64 10)) fun t81=>
 ai .shl t77 (.lit (.int .u64 8)) fun t83=>
 ai .or t81 t83 fun t84=>
 ai .or t84 t78 fun t86=>
 ci .u32 t86 fun t87=>
 Q (.tup [t87,t79]) h10) (
 ai .eql s26 (S ⟨#[83,49,54]⟩) fun t90=>
 ifB t90 (
 ai .and s1 (I 65535) fun t92=>
 ci .u32 t92 fun t93=>
 C nP [s1,(I 16)] h fun t95 h11=>
 Q (.tup [t93,t95]) h11) (
 ai .rem s1 (I 2) fun t97=>
 ai .neq t97 (I 0) fun t98=>
 ifB t98 (Q (.tup [(.lit (.int .u32 0)),(B false)]) h) (
 C wR [s0] h fun t102 h12=>
 C nP [s1,t102] h12 fun t103 h13=>
 qUn .not t103 fun t104=>
 ifB t104 (
 Q (.tup [(.lit (.int .u32 0)),(B false)]) h13) (
 ai .eql s0 (S ⟨#[84,56]⟩) fun t107=>
 ifB t107 (
 ai .quo s1 (I 2) fun t109=>
 ai .and t109 (I 255) fun t110=>
 ci .u32 t110 fun t111=>
 Q (.tup [t111,(B true)]) h13) (
 C wR [s0] h13 fun t114 h14=>
 ai .shl (I 1) t114 fun t115=>
 ai .sub t115 (I 1) fun t116=>
 ai .and s1 t116 fun t117=>
 ci .u32 t117 fun t118=>
 Q (.tup [t118,(B true)]) h14)))))))
def dJ (a0 a1:AV) (h:ae) (Q:QT):Prop:=
 C yC [a0] h fun t17 h0=>
 ao 0 t17 fun t18=>
 ao 1 t17 fun t19=>
 cP [(.lit (.int .u64 0)),(.lit (.int .u64 0)),(I 0),(I 0)] h0 fun t6 h1=>
 an 4 t6 t18 h1 fun h2=>
 ifB t19 (
 aq 4 t6 h2 fun t21=>
 C mM [t21,a1] h2 fun t23 h3=>
 ao 0 t23 fun t24=>
 ao 1 t23 fun t25=>
 Q (.tup [t24,t25]) h3) (
 ai .eql a0 (S ⟨#[88]⟩) fun t28=>
 ifB t28 (
 C9 t28 a0 a0 a1 h2 Q) (
 ai .eql a0 (S ⟨#[89]⟩) fun t29=>
 C9 t29 a0 a0 a1 h2 Q))
theorem bS (a0 a1:AV) (h:ae) (Q:QT) (k:dJ a0 a1 h Q):C bB [a0,a1] h Q:=
 okF (pl:=[]) Tryz.func87 Tryz.ntmps87 (by kernel_rfl) rfl (by kernel_rfl) k
def Bj (a0:AV) (h:ae) (Q:QT):Prop:=
 gF a0 h fun t1 h0=>
 ab 2 t1 fun t3=>
 ag t3 h0 fun t4=>
 C ef [t4] h0 fun t5 h1=>
 Q t5 h1
theorem DZ (a0:AV) (h:ae) (Q:QT) (k:Bj a0 h Q):C kK [a0] h Q:=
 okF (pl:=[]) Tryz.func86 Tryz.ntmps86 (by kernel_rfl) rfl (by kernel_rfl) k
def sO (a0:AV) (h:ae) (Q:QT):Prop:=
 gF a0 h fun t1 h0=>
 ab 2 t1 fun t3=>
 ag t3 h0 fun t4=>
 Q t4 h0
theorem xS (a0:AV) (h:ae) (Q:QT) (k:sO a0 h Q):C jK [a0] h Q:=
 okF (pl:=[]) Tryz.func92 Tryz.ntmps92 (by kernel_rfl) rfl (by kernel_rfl) k
def yJ (a0:AV) (h:ae) (Q:QT):Prop:=
 gF a0 h fun t1 h0=>
 ab 0 t1 fun t3=>
 ag t3 h0 fun t4=>
 Q t4 h0
theorem BJ (a0:AV) (h:ae) (Q:QT) (k:yJ a0 h Q):C mW [a0] h Q:=
 okF (pl:=[]) Tryz.func93 Tryz.ntmps93 (by kernel_rfl) rfl (by kernel_rfl) k
def Jv (h:ae) (Q:QT):Prop:=
 ax [(S ⟨#[]⟩),(.lit (.int .u32 0)),(S ⟨#[]⟩)] [(0,1,(S ⟨#[115,101,95,105,108,108,101,103,97,108]⟩)),(1,1,(.lit (.int .u32 0))),(2,1,(S ⟨#[]⟩))] fun t1=>
 ax [(S ⟨#[]⟩),(.lit (.int .u32 0)),(S ⟨#[]⟩)] [(0,1,(S ⟨#[115,101,95,105,115,121,110,99]⟩)),(1,1,(.lit (.int .u32 1))),(2,1,(S ⟨#[]⟩))] fun t2=>
 ax [(S ⟨#[]⟩),(.lit (.int .u32 0)),(S ⟨#[]⟩)] [(0,1,(S ⟨#[115,101,95,115,99]⟩)),(1,1,(.lit (.int .u32 2))),(2,1,(S ⟨#[]⟩))] fun t3=>
 ax [(S ⟨#[]⟩),(.lit (.int .u32 0)),(S ⟨#[]⟩)] [(0,1,(S ⟨#[115,101,95,98,108,114]⟩)),(1,1,(.lit (.int .u32 4))),(2,1,(S ⟨#[]⟩))] fun t4=>
 ax [(S ⟨#[]⟩),(.lit (.int .u32 0)),(S ⟨#[]⟩)] [(0,1,(S ⟨#[115,101,95,98,99,116,114]⟩)),(1,1,(.lit (.int .u32 6))),(2,1,(S ⟨#[]⟩))] fun t5=>
 ax [(S ⟨#[]⟩),(.lit (.int .u32 0)),(S ⟨#[]⟩)] [(0,1,(S ⟨#[115,101,95,110,111,116]⟩)),(1,1,(.lit (.int .u32 32))),(2,1,(S ⟨#[88]⟩))] fun t6=>
 ax [(S ⟨#[]⟩),(.lit (.int .u32 0)),(S ⟨#[]⟩)] [(0,1,(S ⟨#[115,101,95,110,101,103]⟩)),(1,1,(.lit (.int .u32 48))),(2,1,(S ⟨#[88]⟩))] fun t7=>
 ax [(S ⟨#[]⟩),(.lit (.int .u32 0)),(S ⟨#[]⟩)] [(0,1,(S ⟨#[115,101,95,109,102,108,114]⟩)),(1,1,(.lit (.int .u32 128))),(2,1,(S ⟨#[88]⟩))] fun t8=>
 ax [(S ⟨#[]⟩),(.lit (.int .u32 0)),(S ⟨#[]⟩)] [(0,1,(S ⟨#[115,101,95,109,116,108,114]⟩)),(1,1,(.lit (.int .u32 144))),(2,1,(S ⟨#[88]⟩))] fun t9=>
 ax [(S ⟨#[]⟩),(.lit (.int .u32 0)),(S ⟨#[]⟩)] [(0,1,(S ⟨#[115,101,95,109,102,99,116,114]⟩)),(1,1,(.lit (.int .u32 160))),(2,1,(S ⟨#[88]⟩))] fun t10=>
 ax [(S ⟨#[]⟩),(.lit (.int .u32 0)),(S ⟨#[]⟩)] [(0,1,(S ⟨#[115,101,95,109,116,99,116,114]⟩)),(1,1,(.lit (.int .u32 176))),(2,1,(S ⟨#[88]⟩))] fun t11=>
 ax [(S ⟨#[]⟩),(.lit (.int .u32 0)),(S ⟨#[]⟩)] [(0,1,(S ⟨#[115,101,95,101,120,116,122,98]⟩)),(1,1,(.lit (.int .u32 192))),(2,1,(S ⟨#[88]⟩))] fun t12=>
 ax [(S ⟨#[]⟩),(.lit (.int .u32 0)),(S ⟨#[]⟩)] [(0,1,(S ⟨#[115,101,95,101,120,116,115,98]⟩)),(1,1,(.lit (.int .u32 208))),(2,1,(S ⟨#[88]⟩))] fun t13=>
 ax [(S ⟨#[]⟩),(.lit (.int .u32 0)),(S ⟨#[]⟩)] [(0,1,(S ⟨#[115,101,95,101,120,116,122,104]⟩)),(1,1,(.lit (.int .u32 224))),(2,1,(S ⟨#[88]⟩))] fun t14=>
 ax [(S ⟨#[]⟩),(.lit (.int .u32 0)),(S ⟨#[]⟩)] [(0,1,(S ⟨#[115,101,95,101,120,116,115,104]⟩)),(1,1,(.lit (.int .u32 240))),(2,1,(S ⟨#[88]⟩))] fun t15=>
 ax [(S ⟨#[]⟩),(.lit (.int .u32 0)),(S ⟨#[]⟩)] [(0,1,(S ⟨#[115,101,95,109,114]⟩)),(1,1,(.lit (.int .u32 256))),(2,1,(S ⟨#[88,32,89]⟩))] fun t16=>
 ax [(S ⟨#[]⟩),(.lit (.int .u32 0)),(S ⟨#[]⟩)] [(0,1,(S ⟨#[115,101,95,97,100,100]⟩)),(1,1,(.lit (.int .u32 1024))),(2,1,(S ⟨#[88,32,89]⟩))] fun t17=>
 ax [(S ⟨#[]⟩),(.lit (.int .u32 0)),(S ⟨#[]⟩)] [(0,1,(S ⟨#[115,101,95,109,117,108,108,119]⟩)),(1,1,(.lit (.int .u32 1280))),(2,1,(S ⟨#[88,32,89]⟩))] fun t18=>
 ax [(S ⟨#[]⟩),(.lit (.int .u32 0)),(S ⟨#[]⟩)] [(0,1,(S ⟨#[115,101,95,115,117,98]⟩)),(1,1,(.lit (.int .u32 1536))),(2,1,(S ⟨#[88,32,89]⟩))] fun t19=>
 ax [(S ⟨#[]⟩),(.lit (.int .u32 0)),(S ⟨#[]⟩)] [(0,1,(S ⟨#[115,101,95,99,109,112]⟩)),(1,1,(.lit (.int .u32 3072))),(2,1,(S ⟨#[88,32,89]⟩))] fun t20=>
 ax [(S ⟨#[]⟩),(.lit (.int .u32 0)),(S ⟨#[]⟩)] [(0,1,(S ⟨#[115,101,95,99,109,112,108]⟩)),(1,1,(.lit (.int .u32 3328))),(2,1,(S ⟨#[88,32,89]⟩))] fun t21=>
 ax [(S ⟨#[]⟩),(.lit (.int .u32 0)),(S ⟨#[]⟩)] [(0,1,(S ⟨#[115,101,95,97,100,100,105]⟩)),(1,1,(.lit (.int .u32 8192))),(2,1,(S ⟨#[88,32,79,53]⟩))] fun t22=>
 ax [(S ⟨#[]⟩),(.lit (.int .u32 0)),(S ⟨#[]⟩)] [(0,1,(S ⟨#[115,101,95,99,109,112,108,105]⟩)),(1,1,(.lit (.int .u32 8704))),(2,1,(S ⟨#[88,32,79,53]⟩))] fun t23=>
 ax [(S ⟨#[]⟩),(.lit (.int .u32 0)),(S ⟨#[]⟩)] [(0,1,(S ⟨#[115,101,95,115,117,98,105]⟩)),(1,1,(.lit (.int .u32 9216))),(2,1,(S ⟨#[88,32,79,53]⟩))] fun t24=>
 ax [(S ⟨#[]⟩),(.lit (.int .u32 0)),(S ⟨#[]⟩)] [(0,1,(S ⟨#[115,101,95,99,109,112,105]⟩)),(1,1,(.lit (.int .u32 10752))),(2,1,(S ⟨#[88,32,85,53]⟩))] fun t25=>
 ax [(S ⟨#[]⟩),(.lit (.int .u32 0)),(S ⟨#[]⟩)] [(0,1,(S ⟨#[115,101,95,111,114]⟩)),(1,1,(.lit (.int .u32 17408))),(2,1,(S ⟨#[88,32,89]⟩))] fun t26=>
 ax [(S ⟨#[]⟩),(.lit (.int .u32 0)),(S ⟨#[]⟩)] [(0,1,(S ⟨#[115,101,95,97,110,100,99]⟩)),(1,1,(.lit (.int .u32 17664))),(2,1,(S ⟨#[88,32,89]⟩))] fun t27=>
 ax [(S ⟨#[]⟩),(.lit (.int .u32 0)),(S ⟨#[]⟩)] [(0,1,(S ⟨#[115,101,95,97,110,100]⟩)),(1,1,(.lit (.int .u32 17920))),(2,1,(S ⟨#[88,32,89]⟩))] fun t28=>
 ax [(S ⟨#[]⟩),(.lit (.int .u32 0)),(S ⟨#[]⟩)] [(0,1,(S ⟨#[115,101,95,108,105]⟩)),(1,1,(.lit (.int .u32 18432))),(2,1,(S ⟨#[88,32,85,55]⟩))] fun t29=>
 ax [(S ⟨#[]⟩),(.lit (.int .u32 0)),(S ⟨#[]⟩)] [(0,1,(S ⟨#[115,101,95,98,99,108,114,105]⟩)),(1,1,(.lit (.int .u32 24576))),(2,1,(S ⟨#[88,32,85,53]⟩))] fun t30=>
 ax [(S ⟨#[]⟩),(.lit (.int .u32 0)),(S ⟨#[]⟩)] [(0,1,(S ⟨#[115,101,95,98,115,101,116,105]⟩)),(1,1,(.lit (.int .u32 25600))),(2,1,(S ⟨#[88,32,85,53]⟩))] fun t31=>
 ax [(S ⟨#[]⟩),(.lit (.int .u32 0)),(S ⟨#[]⟩)] [(0,1,(S ⟨#[115,101,95,98,116,115,116,105]⟩)),(1,1,(.lit (.int .u32 26112))),(2,1,(S ⟨#[88,32,85,53]⟩))] fun t32=>
 ax [(S ⟨#[]⟩),(.lit (.int .u32 0)),(S ⟨#[]⟩)] [(0,1,(S ⟨#[115,101,95,115,114,119,105]⟩)),(1,1,(.lit (.int .u32 26624))),(2,1,(S ⟨#[88,32,85,53]⟩))] fun t33=>
 ax [(S ⟨#[]⟩),(.lit (.int .u32 0)),(S ⟨#[]⟩)] [(0,1,(S ⟨#[115,101,95,115,108,119,105]⟩)),(1,1,(.lit (.int .u32 27648))),(2,1,(S ⟨#[88,32,85,53]⟩))] fun t34=>
 ax [(S ⟨#[]⟩),(.lit (.int .u32 0)),(S ⟨#[]⟩)] [(0,1,(S ⟨#[115,101,95,108,98,122]⟩)),(1,1,(.lit (.int .u32 32768))),(2,1,(S ⟨#[89,32,77,49,32,88]⟩))] fun t35=>
 ax [(S ⟨#[]⟩),(.lit (.int .u32 0)),(S ⟨#[]⟩)] [(0,1,(S ⟨#[115,101,95,115,116,98]⟩)),(1,1,(.lit (.int .u32 36864))),(2,1,(S ⟨#[89,32,77,49,32,88]⟩))] fun t36=>
 ax [(S ⟨#[]⟩),(.lit (.int .u32 0)),(S ⟨#[]⟩)] [(0,1,(S ⟨#[115,101,95,108,104,122]⟩)),(1,1,(.lit (.int .u32 40960))),(2,1,(S ⟨#[89,32,77,50,32,88]⟩))] fun t37=>
 ax [(S ⟨#[]⟩),(.lit (.int .u32 0)),(S ⟨#[]⟩)] [(0,1,(S ⟨#[115,101,95,115,116,104]⟩)),(1,1,(.lit (.int .u32 45056))),(2,1,(S ⟨#[89,32,77,50,32,88]⟩))] fun t38=>
 ax [(S ⟨#[]⟩),(.lit (.int .u32 0)),(S ⟨#[]⟩)] [(0,1,(S ⟨#[115,101,95,108,119,122]⟩)),(1,1,(.lit (.int .u32 49152))),(2,1,(S ⟨#[89,32,77,52,32,88]⟩))] fun t39=>
 ax [(S ⟨#[]⟩),(.lit (.int .u32 0)),(S ⟨#[]⟩)] [(0,1,(S ⟨#[115,101,95,115,116,119]⟩)),(1,1,(.lit (.int .u32 53248))),(2,1,(S ⟨#[89,32,77,52,32,88]⟩))] fun t40=>
 ax [(S ⟨#[]⟩),(.lit (.int .u32 0)),(S ⟨#[]⟩)] [(0,1,(S ⟨#[115,101,95,98,99]⟩)),(1,1,(.lit (.int .u32 57344))),(2,1,(S ⟨#[79,49,32,73,50,32,84,56]⟩))] fun t41=>
 ax [(S ⟨#[]⟩),(.lit (.int .u32 0)),(S ⟨#[]⟩)] [(0,1,(S ⟨#[115,101,95,98]⟩)),(1,1,(.lit (.int .u32 59392))),(2,1,(S ⟨#[84,56]⟩))] fun t42=>
 ax [(S ⟨#[]⟩),(.lit (.int .u32 0)),(S ⟨#[]⟩)] [(0,1,(S ⟨#[115,101,95,98,108]⟩)),(1,1,(.lit (.int .u32 59648))),(2,1,(S ⟨#[84,56]⟩))] fun t43=>
 ax [(S ⟨#[]⟩),(.lit (.int .u32 0)),(S ⟨#[]⟩)] [(0,1,(S ⟨#[101,95,97,100,100,49,54,105]⟩)),(1,1,(.lit (.int .u32 469762048))),(2,1,(S ⟨#[68,32,65,32,83,49,54]⟩))] fun t44=>
 ax [(S ⟨#[]⟩),(.lit (.int .u32 0)),(S ⟨#[]⟩)] [(0,1,(S ⟨#[101,95,97,100,100,105]⟩)),(1,1,(.lit (.int .u32 402685952))),(2,1,(S ⟨#[68,32,65,32,67,56]⟩))] fun t45=>
 ax [(S ⟨#[]⟩),(.lit (.int .u32 0)),(S ⟨#[]⟩)] [(0,1,(S ⟨#[101,95,97,110,100,105]⟩)),(1,1,(.lit (.int .u32 402702336))),(2,1,(S ⟨#[65,32,68,32,67,56]⟩))] fun t46=>
 ax [(S ⟨#[]⟩),(.lit (.int .u32 0)),(S ⟨#[]⟩)] [(0,1,(S ⟨#[101,95,111,114,105]⟩)),(1,1,(.lit (.int .u32 402706432))),(2,1,(S ⟨#[65,32,68,32,67,56]⟩))] fun t47=>
 ax [(S ⟨#[]⟩),(.lit (.int .u32 0)),(S ⟨#[]⟩)] [(0,1,(S ⟨#[101,95,120,111,114,105]⟩)),(1,1,(.lit (.int .u32 402710528))),(2,1,(S ⟨#[65,32,68,32,67,56]⟩))] fun t48=>
 ax [(S ⟨#[]⟩),(.lit (.int .u32 0)),(S ⟨#[]⟩)] [(0,1,(S ⟨#[101,95,108,105]⟩)),(1,1,(.lit (.int .u32 1879048192))),(2,1,(S ⟨#[68,32,76,50,48]⟩))] fun t49=>
 ax [(S ⟨#[]⟩),(.lit (.int .u32 0)),(S ⟨#[]⟩)] [(0,1,(S ⟨#[101,95,108,98,122]⟩)),(1,1,(.lit (.int .u32 805306368))),(2,1,(S ⟨#[68,32,83,49,54,32,65]⟩))] fun t50=>
 ax [(S ⟨#[]⟩),(.lit (.int .u32 0)),(S ⟨#[]⟩)] [(0,1,(S ⟨#[101,95,115,116,98]⟩)),(1,1,(.lit (.int .u32 872415232))),(2,1,(S ⟨#[68,32,83,49,54,32,65]⟩))] fun t51=>
 ax [(S ⟨#[]⟩),(.lit (.int .u32 0)),(S ⟨#[]⟩)] [(0,1,(S ⟨#[101,95,108,104,97]⟩)),(1,1,(.lit (.int .u32 939524096))),(2,1,(S ⟨#[68,32,83,49,54,32,65]⟩))] fun t52=>
 ax [(S ⟨#[]⟩),(.lit (.int .u32 0)),(S ⟨#[]⟩)] [(0,1,(S ⟨#[101,95,108,119,122]⟩)),(1,1,(.lit (.int .u32 1342177280))),(2,1,(S ⟨#[68,32,83,49,54,32,65]⟩))] fun t53=>
 ax [(S ⟨#[]⟩),(.lit (.int .u32 0)),(S ⟨#[]⟩)] [(0,1,(S ⟨#[101,95,115,116,119]⟩)),(1,1,(.lit (.int .u32 1409286144))),(2,1,(S ⟨#[68,32,83,49,54,32,65]⟩))] fun t54=>
 ax [(S ⟨#[]⟩),(.lit (.int .u32 0)),(S ⟨#[]⟩)] [(0,1,(S ⟨#[101,95,108,104,122]⟩)),(1,1,(.lit (.int .u32 1476395008))),(2,1,(S ⟨#[68,32,83,49,54,32,65]⟩))] fun t55=>
 ax [(S ⟨#[]⟩),(.lit (.int .u32 0)),(S ⟨#[]⟩)] [(0,1,(S ⟨#[101,95,115,116,104]⟩)),(1,1,(.lit (.int .u32 1543503872))),(2,1,(S ⟨#[68,32,83,49,54,32,65]⟩))] fun t56=>
 ax [(S ⟨#[]⟩),(.lit (.int .u32 0)),(S ⟨#[]⟩)] [(0,1,(S ⟨#[101,95,98]⟩)),(1,1,(.lit (.int .u32 2013265920))),(2,1,(S ⟨#[84,50,52]⟩))] fun t57=>
 ax [(S ⟨#[]⟩),(.lit (.int .u32 0)),(S ⟨#[]⟩)] [(0,1,(S ⟨#[101,95,98,108]⟩)),(1,1,(.lit (.int .u32 2013265921))),(2,1,(S ⟨#[84,50,52]⟩))] fun t58=>
 ax [(S ⟨#[]⟩),(.lit (.int .u32 0)),(S ⟨#[]⟩)] [(0,1,(S ⟨#[101,95,98,99]⟩)),(1,1,(.lit (.int .u32 2046820352))),(2,1,(S ⟨#[79,50,32,73,52,32,84,49,53]⟩))] fun t59=>
 ax [(S ⟨#[]⟩),(.lit (.int .u32 0)),(S ⟨#[]⟩)] [(0,1,(S ⟨#[101,95,98,99,108]⟩)),(1,1,(.lit (.int .u32 2046820353))),(2,1,(S ⟨#[79,50,32,73,52,32,84,49,53]⟩))] fun t60=>
 ax [(S ⟨#[]⟩),(.lit (.int .u32 0)),(S ⟨#[]⟩)] [(0,1,(S ⟨#[97,100,100]⟩)),(1,1,(.lit (.int .u32 2080375316))),(2,1,(S ⟨#[68,32,65,32,66]⟩))] fun t61=>
 ax [(S ⟨#[]⟩),(.lit (.int .u32 0)),(S ⟨#[]⟩)] [(0,1,(S ⟨#[115,117,98,102]⟩)),(1,1,(.lit (.int .u32 2080374864))),(2,1,(S ⟨#[68,32,65,32,66]⟩))] fun t62=>
 ax [(S ⟨#[]⟩),(.lit (.int .u32 0)),(S ⟨#[]⟩)] [(0,1,(S ⟨#[109,117,108,108,119]⟩)),(1,1,(.lit (.int .u32 2080375254))),(2,1,(S ⟨#[68,32,65,32,66]⟩))] fun t63=>
 ax [(S ⟨#[]⟩),(.lit (.int .u32 0)),(S ⟨#[]⟩)] [(0,1,(S ⟨#[97,110,100]⟩)),(1,1,(.lit (.int .u32 2080374840))),(2,1,(S ⟨#[65,32,68,32,66]⟩))] fun t64=>
 ax [(S ⟨#[]⟩),(.lit (.int .u32 0)),(S ⟨#[]⟩)] [(0,1,(S ⟨#[111,114]⟩)),(1,1,(.lit (.int .u32 2080375672))),(2,1,(S ⟨#[65,32,68,32,66]⟩))] fun t65=>
 ax [(S ⟨#[]⟩),(.lit (.int .u32 0)),(S ⟨#[]⟩)] [(0,1,(S ⟨#[120,111,114]⟩)),(1,1,(.lit (.int .u32 2080375416))),(2,1,(S ⟨#[65,32,68,32,66]⟩))] fun t66=>
 am 66 3 [t1,t2,t3,t4,t5,t6,t7,t8,t9,t10,t11,t12,t13,t14,t15,t16,t17,t18,t19,t20,t21,t22,t23,t24,t25,t26,t27,t28,t29,t30,t31,t32,t33,t34,t35,t36,t37,t38,t39,t40,t41,t42,t43,t44,t45,t46,t47,t48,t49,t50,t51,t52,t53,t54,t55,t56,t57,t58,t59,t60,t61,t62,t63,t64,t65,t66] fun t67=>
 Q t67 h
theorem JQ (h:ae) (Q:QT) (k:Jv  h Q):C jx [] h Q:=
 okF (pl:=[]) Tryz.func119 Tryz.ntmps119 (by kernel_rfl) rfl (by kernel_rfl) k
def tB (a0:AV) (h:ae) (Q:QT):Prop:=
 ai .eql a0 (S ⟨#[84,56]⟩) fun t5=>
 ifB t5 (
 Q (I 9) h) (
 ai .eql a0 (S ⟨#[84,50,52]⟩) fun t7=>
 ifB t7 (
 Q (I 25) h) (
 Q (I 16) h))
theorem nC (a0:AV) (h:ae) (Q:QT) (k:tB a0 h Q):C wR [a0] h Q:=
 okF (pl:=[]) Tryz.func126 Tryz.ntmps126 (by kernel_rfl) rfl (by kernel_rfl) k
def gM (a0:AV) (h:ae) (Q:QT):Prop:=
 lQ .eql a0 fun t4=>
 ifB t4 (
 Q (.full 0 []) h) (
 am 0 5 [] fun t5=>
 bl 5 64 t5 a0 h fun t7 h0=>
 Q t7 h0)
theorem lM (a0:AV) (h:ae) (Q:QT) (k:gM a0 h Q):C dA [a0] h Q:=
 okF (pl:=[]) Tryz.func114 Tryz.ntmps114 (by kernel_rfl) rfl (by kernel_rfl) k
def fV (a0:AV) (h:ae) (Q:QT):Prop:=
 lQ .eql a0 fun t4=>
 ifB t4 (
 Q (.full 0 []) h) (
 am 0 3 [] fun t5=>
 bl 3 32 t5 a0 h fun t7 h0=>
 Q t7 h0)
theorem kY (a0:AV) (h:ae) (Q:QT) (k:fV a0 h Q):C c7 [a0] h Q:=
 okF (pl:=[]) Tryz.func19 Tryz.ntmps19 (by kernel_rfl) rfl (by kernel_rfl) k
def fU (a0:AV) (h:ae) (Q:QT):Prop:=
 lQ .eql a0 fun t4=>
 ifB t4 (
 Q (.full 0 []) h) (
 am 0 6 [] fun t5=>
 bl 6 80 t5 a0 h fun t7 h0=>
 Q t7 h0)
theorem kS (a0:AV) (h:ae) (Q:QT) (k:fU a0 h Q):C cZ [a0] h Q:=
 okF (pl:=[]) Tryz.func74 Tryz.ntmps74 (by kernel_rfl) rfl (by kernel_rfl) k
def lh (a0:AV) (h:ae) (Q:QT):Prop:=
 lQ .eql a0 fun t4=>
 ifB t4 (
 Q (.full 0 []) h) (
 am 0 1 [] fun t5=>
 bl 1 1 t5 a0 h fun t7 h0=>
 Q t7 h0)
theorem qg (a0:AV) (h:ae) (Q:QT) (k:lh a0 h Q):C du [a0] h Q:=
 okF (pl:=[]) Tryz.func21 Tryz.ntmps21 (by kernel_rfl) rfl (by kernel_rfl) k
def mC (a0:AV) (h:ae) (Q:QT):Prop:=
 lQ .eql a0 fun t4=>
 ifB t4 (
 Q (.full 0 []) h) (
 am 0 1 [] fun t5=>
 bl 1 8 t5 a0 h fun t7 h0=>
 Q t7 h0)
theorem rT (a0:AV) (h:ae) (Q:QT) (k:mC a0 h Q):C dV [a0] h Q:=
 okF (pl:=[]) Tryz.func23 Tryz.ntmps23 (by kernel_rfl) rfl (by kernel_rfl) k
def im (a0:AV) (h:ae) (Q:QT):Prop:=
 lQ .eql a0 fun t4=>
 ifB t4 (
 Q (.full 0 []) h) (
 am 0 1 [] fun t5=>
 bl 1 16 t5 a0 h fun t7 h0=>
 Q t7 h0)
theorem m3 (a0:AV) (h:ae) (Q:QT) (k:im a0 h Q):C dR [a0] h Q:=
 okF (pl:=[]) Tryz.func95 Tryz.ntmps95 (by kernel_rfl) rfl (by kernel_rfl) k
def dZ (a0 a1:AV) (h:ae) (Q:QT):Prop:=
 C cC [a0,a1] h fun t7 h0=>
 ai .geq t7 (I 0) fun t8=>
 Q t8 h0
theorem ib (a0 a1:AV) (h:ae) (Q:QT) (k:dZ a0 a1 h Q):C bH [a0,a1] h Q:=
 okF (pl:=[]) Tryz.func76 Tryz.ntmps76 (by kernel_rfl) rfl (by kernel_rfl) k
def dN (a0 a1:AV) (h:ae) (Q:QT):Prop:=
 C cx [a0,a1] h fun t7 h0=>
 ai .geq t7 (I 0) fun t8=>
 Q t8 h0
theorem gG (a0 a1:AV) (h:ae) (Q:QT) (k:dN a0 a1 h Q):C cb [a0,a1] h Q:=
 okF (pl:=[]) Tryz.func117 Tryz.ntmps117 (by kernel_rfl) rfl (by kernel_rfl) k
def ku (a0 a1:AV) (h:ae) (Q:QT):Prop:=
 C fT [a0,a1] h fun t7 h0=>
 ai .geq t7 (I 0) fun t8=>
 Q t8 h0
theorem ph (a0 a1:AV) (h:ae) (Q:QT) (k:ku a0 a1 h Q):C bg [a0,a1] h Q:=
 okF (pl:=[]) Tryz.func52 Tryz.ntmps52 (by kernel_rfl) rfl (by kernel_rfl) k
def gk (a0 a1:AV) (h:ae) (Q:QT):Prop:=
 C bG [a0,a1] h fun t7 h0=>
 ai .geq t7 (I 0) fun t8=>
 Q t8 h0
theorem lu (a0 a1:AV) (h:ae) (Q:QT) (k:gk a0 a1 h Q):C dh [a0,a1] h Q:=
 okF (pl:=[]) Tryz.func94 Tryz.ntmps94 (by kernel_rfl) rfl (by kernel_rfl) k
def dY (s7 s0 s1:AV) (Q:QT) (vs0:List AV) (h:ae) (next0:NT):Prop:=
 ai .lss (ap vs0 1) s7 fun t9=>
 ifB t9 (
 ak 4 s0 (ap vs0 1) fun t14=>
 aq 4 t14 h fun t15=>
 CV s1 [t15] h fun t16 h1=>
 ifB t16 (
 Q (ap vs0 1) h1) (
 ai .add (ap vs0 1) (I 1) fun t18=>
 next0 [(ap vs0 0),t18] h1)) (
 Q (I (-1)) h)
def eJ (a0 a1:AV) (h:ae) (Q:QT):Prop:=
 aW a0 fun t7=>
 bZ [(I 0),(I 0)] h fun vs0 h next0=>dY t7 a0 a1 Q vs0 h next0
theorem iY (a0 a1:AV) (h:ae) (Q:QT) (k:eJ a0 a1 h Q):C cC [a0,a1] h Q:=
 okF (pl:=[(3,[4,5,8,9,10,11,12,13,14,15,16,17,18],[4,8])]) Tryz.func115 Tryz.ntmps115 (by kernel_rfl) rfl (by kernel_rfl) k
def ez (s7 s0 s1:AV) (Q:QT) (vs0:List AV) (h:ae) (next0:NT):Prop:=
 ai .lss (ap vs0 1) s7 fun t9=>
 ifB t9 (
 ak 2 s0 (ap vs0 1) fun t14=>
 aq 2 t14 h fun t15=>
 CV s1 [t15] h fun t16 h1=>
 ifB t16 (
 Q (ap vs0 1) h1) (
 ai .add (ap vs0 1) (I 1) fun t18=>
 next0 [(ap vs0 0),t18] h1)) (
 Q (I (-1)) h)
def fe (a0 a1:AV) (h:ae) (Q:QT):Prop:=
 aW a0 fun t7=>
 bZ [(I 0),(I 0)] h fun vs0 h next0=>ez t7 a0 a1 Q vs0 h next0
theorem jU (a0 a1:AV) (h:ae) (Q:QT) (k:fe a0 a1 h Q):C cO [a0,a1] h Q:=
 okF (pl:=[(3,[4,5,8,9,10,11,12,13,14,15,16,17,18],[4,8])]) Tryz.func97 Tryz.ntmps97 (by kernel_rfl) rfl (by kernel_rfl) k
def dP (s7 s0 s1:AV) (Q:QT) (vs0:List AV) (h:ae) (next0:NT):Prop:=
 ai .lss (ap vs0 1) s7 fun t9=>
 ifB t9 (
 ak 1 s0 (ap vs0 1) fun t14=>
 ag t14 h fun t15=>
 CV s1 [t15] h fun t16 h1=>
 ifB t16 (
 Q (ap vs0 1) h1) (
 ai .add (ap vs0 1) (I 1) fun t18=>
 next0 [(ap vs0 0),t18] h1)) (
 Q (I (-1)) h)
def ea (a0 a1:AV) (h:ae) (Q:QT):Prop:=
 aW a0 fun t7=>
 bZ [(I 0),(I 0)] h fun vs0 h next0=>dP t7 a0 a1 Q vs0 h next0
theorem ii (a0 a1:AV) (h:ae) (Q:QT) (k:ea a0 a1 h Q):C cx [a0,a1] h Q:=
 okF (pl:=[(3,[4,5,8,9,10,11,12,13,14,15,16,17,18],[4,8])]) Tryz.func153 Tryz.ntmps153 (by kernel_rfl) rfl (by kernel_rfl) k
def eB (s7 s0 s1:AV) (Q:QT) (vs0:List AV) (h:ae) (next0:NT):Prop:=
 ai .lss (ap vs0 1) s7 fun t9=>
 ifB t9 (
 ak 3 s0 (ap vs0 1) fun t14=>
 aq 3 t14 h fun t15=>
 CV s1 [t15] h fun t16 h1=>
 ifB t16 (
 Q (ap vs0 1) h1) (
 ai .add (ap vs0 1) (I 1) fun t18=>
 next0 [(ap vs0 0),t18] h1)) (
 Q (I (-1)) h)
def ff (a0 a1:AV) (h:ae) (Q:QT):Prop:=
 aW a0 fun t7=>
 bZ [(I 0),(I 0)] h fun vs0 h next0=>eB t7 a0 a1 Q vs0 h next0
theorem jM (a0 a1:AV) (h:ae) (Q:QT) (k:ff a0 a1 h Q):C cM [a0,a1] h Q:=
 okF (pl:=[(3,[4,5,8,9,10,11,12,13,14,15,16,17,18],[4,8])]) Tryz.func173 Tryz.ntmps173 (by kernel_rfl) rfl (by kernel_rfl) k
def j0 (s7 s0 s1:AV) (Q:QT) (vs0:List AV) (h:ae) (next0:NT):Prop:=
 ai .lss (ap vs0 1) s7 fun t9=>
 ifB t9 (
 ak 1 s0 (ap vs0 1) fun t14=>
 ag t14 h fun t15=>
 ai .eql s1 t15 fun t16=>
 ifB t16 (
 Q (ap vs0 1) h) (
 ai .add (ap vs0 1) (I 1) fun t18=>
 next0 [(ap vs0 0),t18] h)) (
 Q (I (-1)) h)
def mD (a0 a1:AV) (h:ae) (Q:QT):Prop:=
 aW a0 fun t7=>
 bZ [(I 0),(I 0)] h fun vs0 h next0=>j0 t7 a0 a1 Q vs0 h next0
theorem sF (a0 a1:AV) (h:ae) (Q:QT) (k:mD a0 a1 h Q):C fT [a0,a1] h Q:=
 okF (pl:=[(3,[4,5,8,9,10,11,12,13,14,15,16,17,18],[4,8])]) Tryz.func75 Tryz.ntmps75 (by kernel_rfl) rfl (by kernel_rfl) k
def gh (s7 s0 s1:AV) (Q:QT) (vs0:List AV) (h:ae) (next0:NT):Prop:=
 ai .lss (ap vs0 1) s7 fun t9=>
 ifB t9 (
 ak 1 s0 (ap vs0 1) fun t14=>
 ag t14 h fun t15=>
 ai .eql s1 t15 fun t16=>
 ifB t16 (
 Q (ap vs0 1) h) (
 ai .add (ap vs0 1) (I 1) fun t18=>
 next0 [(ap vs0 0),t18] h)) (
 Q (I (-1)) h)
def iM (a0 a1:AV) (h:ae) (Q:QT):Prop:=
 aW a0 fun t7=>
 bZ [(I 0),(I 0)] h fun vs0 h next0=>gh t7 a0 a1 Q vs0 h next0
theorem mQ (a0 a1:AV) (h:ae) (Q:QT) (k:iM a0 a1 h Q):C bG [a0,a1] h Q:=
 okF (pl:=[(3,[4,5,8,9,10,11,12,13,14,15,16,17,18],[4,8])]) Tryz.func128 Tryz.ntmps128 (by kernel_rfl) rfl (by kernel_rfl) k
def l9 (s0:AV) (Q:QT) (vs0:List AV) (h:ae) (next0:NT):Prop:=
 aW s0 fun t14=>
 ai .lss (ap vs0 1) t14 fun t15=>
 ifB t15 (
 ak 1 s0 (ap vs0 1) fun t21=>
 ag t21 h fun t22=>
 B0 (ap vs0 0) t22 fun t23=>
 ai .add (ap vs0 1) (I 1) fun t17=>
 next0 [t23,t17] h) (
 Q (ap vs0 0) h)
def lL (s0:AV) (h:ae) (Q:QT):Prop:=
 ak 1 s0 (I 0) fun t10=>
 ag t10 h fun t11=>
 bZ [t11,(I 1)] h fun vs0 h next0=>l9 s0 Q vs0 h next0
def oS (a0:AV) (h:ae) (Q:QT):Prop:=
 aW a0 fun t6=>
 ai .lss t6 (I 1) fun t7=>
 ifB t7 (
 vN 9 (S ⟨#[115,108,105,99,101,115,46,77,97,120,58,32,101,109,112,116,121,32,108,105,115,116]⟩) fun t8=>
 False) (
 lL a0 h Q)
theorem un (a0:AV) (h:ae) (Q:QT) (k:oS a0 h Q):C gO [a0] h Q:=
 okF (pl:=[(6,[3,4,12,13,14,15,16,17,18,19,20,21,22,23],[3,4])]) Tryz.func82 Tryz.ntmps82 (by kernel_rfl) rfl (by kernel_rfl) k
def lx (s0:AV) (Q:QT) (vs0:List AV) (h:ae) (next0:NT):Prop:=
 aW s0 fun t14=>
 ai .lss (ap vs0 1) t14 fun t15=>
 ifB t15 (
 ak 1 s0 (ap vs0 1) fun t21=>
 ag t21 h fun t22=>
 Ey (ap vs0 0) t22 fun t23=>
 ai .add (ap vs0 1) (I 1) fun t17=>
 next0 [t23,t17] h) (
 Q (ap vs0 0) h)
def lw (s0:AV) (h:ae) (Q:QT):Prop:=
 ak 1 s0 (I 0) fun t10=>
 ag t10 h fun t11=>
 bZ [t11,(I 1)] h fun vs0 h next0=>lx s0 Q vs0 h next0
def oP (a0:AV) (h:ae) (Q:QT):Prop:=
 aW a0 fun t6=>
 ai .lss t6 (I 1) fun t7=>
 ifB t7 (
 vN 9 (S ⟨#[115,108,105,99,101,115,46,77,105,110,58,32,101,109,112,116,121,32,108,105,115,116]⟩) fun t8=>
 False) (
 lw a0 h Q)
theorem ua (a0:AV) (h:ae) (Q:QT) (k:oP a0 h Q):C gP [a0] h Q:=
 okF (pl:=[(6,[3,4,12,13,14,15,16,17,18,19,20,21,22,23],[3,4])]) Tryz.func81 Tryz.ntmps81 (by kernel_rfl) rfl (by kernel_rfl) k
def tA (a0 a1:AV) (h:ae) (Q:QT):Prop:=
 C jE [a0,a1] h fun t7 h0=>
 ai .geq t7 (I 0) fun t8=>
 Q t8 h0
theorem xV (a0 a1:AV) (h:ae) (Q:QT) (k:tA a0 a1 h Q):C jQ [a0,a1] h Q:=
 okF (pl:=[]) Tryz.func175 Tryz.ntmps175 (by kernel_rfl) rfl (by kernel_rfl) k
def Cx (s1:AV) (Q:QT) (vs1:List AV) (h:ae) (next1:NT):Prop:=
 C jE [(ap vs1 0),s1] h fun t22 h2=>
 ai .eql t22 (I (-1)) fun t24=>
 ifB t24 (
 Q (ap vs1 2) h2) (
 ai .add (ap vs1 2) (I 1) fun t27=>
 bK s1 fun t31=>
 ai .add t22 t31 fun t32=>
 bo (ap vs1 0) (some t32) none fun t33=>
 next1 [t33,(ap vs1 1),t27] h2)
def yw (a0 a1:AV) (h:ae) (Q:QT):Prop:=
 bK a1 fun t8=>
 ai .eql t8 (I 0) fun t9=>
 ifB t9 (
 C lr [a0] h fun t11 h0=>
 ai .add t11 (I 1) fun t12=>
 Q t12 h0) (
 bK a1 fun t14=>
 ai .eql t14 (I 1) fun t15=>
 ifB t15 (
 bk a1 (I 0) fun t18=>
 Xr .count [a0,t18] fun t19=>
 Q t19 h) (
 bZ [a0,(I 0),(I 0)] h fun vs1 h next1=>Cx a1 Q vs1 h next1))
theorem Cr (a0 a1:AV) (h:ae) (Q:QT) (k:yw a0 a1 h Q):C sI [a0,a1] h Q:=
 okF (pl:=[(7,[0,4,5,6,20,21,22,23,24,25,26,27,28,29,30,31,32,33],[0,4,5])]) Tryz.func133 Tryz.ntmps133 (by kernel_rfl) rfl (by kernel_rfl) k
def qA (a0 a1:AV) (h:ae) (Q:QT):Prop:=
 C ky [a0,a1] h fun t7 h0=>
 Q t7 h0
theorem wb (a0 a1:AV) (h:ae) (Q:QT) (k:qA a0 a1 h Q):C fw [a0,a1] h Q:=
 okF (pl:=[]) Tryz.func214 Tryz.ntmps214 (by kernel_rfl) rfl (by kernel_rfl) k
def qx (a0 a1:AV) (h:ae) (Q:QT):Prop:=
 C kD [a0,a1] h fun t7 h0=>
 Q t7 h0
theorem xj (a0 a1:AV) (h:ae) (Q:QT) (k:qx a0 a1 h Q):C jd [a0,a1] h Q:=
 okF (pl:=[]) Tryz.func106 Tryz.ntmps106 (by kernel_rfl) rfl (by kernel_rfl) k
def yD (a0 a1:AV) (h:ae) (Q:QT):Prop:=
 C oC [a0,a1,(I 0),(I (-1))] h fun t7 h0=>
 Q t7 h0
theorem Cq (a0 a1:AV) (h:ae) (Q:QT) (k:yD a0 a1 h Q):C gu [a0,a1] h Q:=
 okF (pl:=[]) Tryz.func72 Tryz.ntmps72 (by kernel_rfl) rfl (by kernel_rfl) k
def Ak (a0 a1:AV) (h:ae) (Q:QT):Prop:=
 ai .eql a0 (S ⟨#[]⟩) fun t8=>
 ifB t8 (Q a0 h) (
 ai .eql a1 (S ⟨#[]⟩) fun t11=>
 ifB t11 (
 Q a0 h) (
 bK a1 fun t15=>
 ai .eql t15 (I 1) fun t16=>
 ifB t16 (bk a1 (I 0) fun t19=>
 ai .lss t19 (.lit (.int .u8 128)) fun t20=>
 ifB t20 (
 bk a1 (I 0) fun t24=>
 bk a1 (I 0) fun t27=>
 C rU [a0,t24] h fun t25 h0=>
 C ej [t25,t27] h0 fun t28 h1=>
 Q t28 h1) (
 C cz [a1] h fun t31 h2=>
 ao 0 t31 fun t32=>
 ao 1 t31 fun t33=>
 cP (List.replicate 256 (B false)) h2 fun t5 h3=>
 an 256 t5 t32 h3 fun h4=>
 ifB t33 (
 C dK [a0,t5] h4 fun t36 h5=>
 C cj [t36,t5] h5 fun t37 h6=>
 Q t37 h6) (
 C iI [a0,a1] h4 fun t40 h7=>
 C dC [t40,a1] h7 fun t42 h8=>
 Q t42 h8))) (
 C cz [a1] h fun t31 h9=>
 ao 0 t31 fun t32=>
 ao 1 t31 fun t33=>
 cP (List.replicate 256 (B false)) h9 fun t5 h10=>
 an 256 t5 t32 h10 fun h11=>
 ifB t33 (
 C dK [a0,t5] h11 fun t36 h12=>
 C cj [t36,t5] h12 fun t37 h13=>
 Q t37 h13) (
 C iI [a0,a1] h11 fun t40 h14=>
 C dC [t40,a1] h14 fun t42 h15=>
 Q t42 h15))))
theorem DG (a0 a1:AV) (h:ae) (Q:QT) (k:Ak a0 a1 h Q):C ft [a0,a1] h Q:=
 okF (pl:=[(1000004,[0,1,2,4,5,3,6,7],[])]) Tryz.func111 Tryz.ntmps111 (by kernel_rfl) rfl (by kernel_rfl) k
def ti (a0 a1:AV) (h:ae) (Q:QT):Prop:=
 ai .eql a0 (S ⟨#[]⟩) fun t8=>
 ifB t8 (Q a0 h) (
 ai .eql a1 (S ⟨#[]⟩) fun t11=>
 ifB t11 (
 Q a0 h) (
 bK a1 fun t15=>
 ai .eql t15 (I 1) fun t16=>
 ifB t16 (bk a1 (I 0) fun t19=>
 ai .lss t19 (.lit (.int .u8 128)) fun t20=>
 ifB t20 (
 bk a1 (I 0) fun t24=>
 C ej [a0,t24] h fun t25 h0=>
 Q t25 h0) (
 C cz [a1] h fun t28 h1=>
 ao 0 t28 fun t29=>
 ao 1 t28 fun t30=>
 cP (List.replicate 256 (B false)) h1 fun t5 h2=>
 an 256 t5 t29 h2 fun h3=>
 ifB t30 (
 C cj [a0,t5] h3 fun t33 h4=>
 Q t33 h4) (
 C dC [a0,a1] h3 fun t36 h5=>
 Q t36 h5))) (
 C cz [a1] h fun t28 h6=>
 ao 0 t28 fun t29=>
 ao 1 t28 fun t30=>
 cP (List.replicate 256 (B false)) h6 fun t5 h7=>
 an 256 t5 t29 h7 fun h8=>
 ifB t30 (
 C cj [a0,t5] h8 fun t33 h9=>
 Q t33 h9) (
 C dC [a0,a1] h8 fun t36 h10=>
 Q t36 h10))))
theorem xU (a0 a1:AV) (h:ae) (Q:QT) (k:ti a0 a1 h Q):C jO [a0,a1] h Q:=
 okF (pl:=[]) Tryz.func206 Tryz.ntmps206 (by kernel_rfl) rfl (by kernel_rfl) k
def jG (a0 a1:AV) (h:ae) (Q:QT):Prop:=
 aF a0 fun t7=>
 ce 256 1 t7 a1 fun t8=>
 ag t8 h fun t9=>
 Q t9 h
theorem ou (a0 a1:AV) (h:ae) (Q:QT) (k:jG a0 a1 h Q):C cY [a0,a1] h Q:=
 okF (pl:=[]) Tryz.func170 Tryz.ntmps170 (by kernel_rfl) rfl (by kernel_rfl) k
def oH (s0 s10 s9:AV) (h:ae) (Q:QT):Prop:=
 ak 1 s9 s10 fun t61=>
 an 1 t61 s0 h fun h5=>
 ai .add s10 (I 1) fun t64=>
 nk 1 s9 none (some t64) fun t65=>
 Q t65 h5
def fX (s0 s10 s9:AV) (h:ae) (Q:QT):Prop:=
 oH s0 s10 s9 h Q
def oO (s3 s9 s1 s2:AV) (Q:QT) (vs3:List AV) (h:ae) (next3:NT):Prop:=
 ai .lss (ap vs3 1) s3 fun t36=>
 ifB t36 (
 C jE [(ap vs3 0),s1] h fun t39 h4=>
 ai .lss t39 (I 0) fun t41=>
 ifB t41 (
 fX (ap vs3 0) (ap vs3 1) s9 h4 Q) (
 ai .add t39 s2 fun t47=>
 bo (ap vs3 0) none (some t47) fun t48=>
 ak 1 s9 (ap vs3 1) fun t49=>
 an 1 t49 t48 h4 fun h8=>
 bK s1 fun t53=>
 ai .add t39 t53 fun t54=>
 bo (ap vs3 0) (some t54) none fun t55=>
 ai .add (ap vs3 1) (I 1) fun t57=>
 next3 [t55,t57] h8)) (
 fX (ap vs3 0) (ap vs3 1) s9 h Q)
def n7 (s3 s0 s1 s2:AV) (h:ae) (Q:QT):Prop:=
 bK s0 fun t27=>
 ai .add t27 (I 1) fun t28=>
 Ey s3 t28 fun t29=>
 kL 16 (S ⟨#[]⟩) t29 t29 h fun t31 h2=>
 ai .sub t29 (I 1) fun t33=>
 bZ [s0,(I 0)] h2 fun vs3 h next3=>oO t33 t31 s1 s2 Q vs3 h next3
def sW (a0 a1 a2 a3:AV) (h:ae) (Q:QT):Prop:=
 ai .eql a3 (I 0) fun t13=>
 ifB t13 (
 Q (.full 0 []) h) (
 ai .eql a1 (S ⟨#[]⟩) fun t15=>
 ifB t15 (
 C zv [a0,a3] h fun t18 h0=>
 Q t18 h0) (
 ai .lss a3 (I 0) fun t20=>
 ifB t20 (
 C sI [a0,a1] h fun t23 h1=>
 ai .add t23 (I 1) fun t24=>
 n7 t24 a0 a1 a2 h1 Q) (
 n7 a3 a0 a1 a2 h Q)))
theorem xW (a0 a1 a2 a3:AV) (h:ae) (Q:QT) (k:sW a0 a1 a2 a3 h Q):C oC [a0,a1,a2,a3] h Q:=
 okF (pl:=[(12,[0,10,11,34,35,36,37,38,39,40,41,42,43,44,45,46,47,48,49,50,51,52,53,54,55,56,57],[0,10])]) Tryz.func105 Tryz.ntmps105 (by kernel_rfl) rfl (by kernel_rfl) k
def lm (s2 s0:AV) (Q:QT) (vs1:List AV) (h:ae) (next1:NT):Prop:=
 bK s0 fun t8=>
 ai .lss (ap vs1 1) t8 fun t9=>
 ifB t9 (
 bk s0 (ap vs1 1) fun t14=>
 ai .geq t14 (.lit (.int .u8 128)) fun t16=>
 ifB t16 (
 aq 256 s2 h fun t17=>
 an 256 s2 t17 h fun h2=>
 aq 256 s2 h2 fun r3=>
 Q (.tup [r3,(B false)]) h2) (
 ce 256 1 s2 t14 fun t19=>
 an 1 t19 (B true) h fun h4=>
 ai .add (ap vs1 1) (I 1) fun t11=>
 next1 [(ap vs1 0),t11] h4)) (
 aq 256 s2 h fun t20=>
 an 256 s2 t20 h fun h5=>
 aq 256 s2 h5 fun r6=>
 Q (.tup [r6,(B true)]) h5)
def nF (a0:AV) (h:ae) (Q:QT):Prop:=
 cP (List.replicate 256 (B false)) h fun t2 h0=>
 bZ [(B false),(I 0)] h0 fun vs1 h next1=>lm t2 a0 Q vs1 h next1
theorem to (a0:AV) (h:ae) (Q:QT) (k:nF a0 h Q):C cz [a0] h Q:=
 okF (pl:=[(3,[3,4,5,6,7,8,9,10,11,12,13,14,15,16,17,18,19],[3,4])]) Tryz.func139 Tryz.ntmps139 (by kernel_rfl) rfl (by kernel_rfl) k
def ki (s0:AV) (h:ae) (Q:QT):Prop:=
 Q s0 h
def fM (s0:AV) (h:ae) (Q:QT):Prop:=
 ki s0 h Q
def kB (s1:AV) (Q:QT) (vs0:List AV) (h:ae) (next0:NT):Prop:=
 bK (ap vs0 0) fun t6=>
 ai .gtr t6 (I 0) fun t7=>
 ifB t7 (
 bk (ap vs0 0) (I 0) fun t10=>
 C cY [s1,t10] h fun t11 h1=>
 qUn .not t11 fun t12=>
 ifB t12 (
 fM (ap vs0 0) h1 Q) (
 bo (ap vs0 0) (some (I 1)) none fun t14=>
 next0 [t14] h1)) (
 fM (ap vs0 0) h Q)
def mA (a0 a1:AV) (h:ae) (Q:QT):Prop:=
 bZ [a0] h fun vs0 h next0=>kB a1 Q vs0 h next0
theorem rQ (a0 a1:AV) (h:ae) (Q:QT) (k:mA a0 a1 h Q):C cj [a0,a1] h Q:=
 okF (pl:=[(2,[0,5,6,7,8,9,10,11,12,13,14],[0])]) Tryz.func140 Tryz.ntmps140 (by kernel_rfl) rfl (by kernel_rfl) k
def lk (s1:AV) (Q:QT) (vs0:List AV) (h:ae) (next0:NT):Prop:=
 bK (ap vs0 0) fun t6=>
 ai .gtr t6 (I 0) fun t7=>
 ifB t7 (bk (ap vs0 0) (I 0) fun t10=>
 ai .eql t10 s1 fun t12=>
 ifB t12 (
 bo (ap vs0 0) (some (I 1)) none fun t15=>
 next0 [t15] h) (
 Q (ap vs0 0) h)) (
 Q (ap vs0 0) h)
def nL (a0 a1:AV) (h:ae) (Q:QT):Prop:=
 bZ [a0] h fun vs0 h next0=>lk a1 Q vs0 h next0
theorem sV (a0 a1:AV) (h:ae) (Q:QT) (k:nL a0 a1 h Q):C ej [a0,a1] h Q:=
 okF (pl:=[(2,[0,5,6,7,8,9,10,11,12,13,14,15],[0])]) Tryz.func137 Tryz.ntmps137 (by kernel_rfl) rfl (by kernel_rfl) k
def jJ (s0:AV) (h:ae) (Q:QT):Prop:=
 Q s0 h
def fo (s0:AV) (h:ae) (Q:QT):Prop:=
 jJ s0 h Q
def jF (s1:AV) (Q:QT) (vs0:List AV) (h:ae) (next0:NT):Prop:=
 bK (ap vs0 0) fun t6=>
 ai .gtr t6 (I 0) fun t7=>
 ifB t7 (
 bK (ap vs0 0) fun t11=>
 ai .sub t11 (I 1) fun t12=>
 bk (ap vs0 0) t12 fun t13=>
 C cY [s1,t13] h fun t14 h1=>
 qUn .not t14 fun t15=>
 ifB t15 (
 fo (ap vs0 0) h1 Q) (
 bK (ap vs0 0) fun t18=>
 ai .sub t18 (I 1) fun t19=>
 bo (ap vs0 0) none (some t19) fun t20=>
 next0 [t20] h1)) (
 fo (ap vs0 0) h Q)
def md (a0 a1:AV) (h:ae) (Q:QT):Prop:=
 bZ [a0] h fun vs0 h next0=>jF a1 Q vs0 h next0
theorem qq (a0 a1:AV) (h:ae) (Q:QT) (k:md a0 a1 h Q):C dK [a0,a1] h Q:=
 okF (pl:=[(2,[0,5,6,7,8,9,10,11,12,13,14,15,16,17,18,19,20],[0])]) Tryz.func141 Tryz.ntmps141 (by kernel_rfl) rfl (by kernel_rfl) k
def mw (a0 a1:AV) (h:ae) (Q:QT):Prop:=
 bK a0 fun t6=>
 bK a1 fun t8=>
 ai .geq t6 t8 fun t9=>
 ifB t9 (bK a1 fun t13=>
 bo a0 none (some t13) fun t14=>
 ai .eql t14 a1 fun t16=>
 Q t16 h) (
 Q (B false) h)
theorem su (a0 a1:AV) (h:ae) (Q:QT) (k:mw a0 a1 h Q):C ky [a0,a1] h Q:=
 okF (pl:=[]) Tryz.func229 Tryz.ntmps229 (by kernel_rfl) rfl (by kernel_rfl) k
def my (a0 a1:AV) (h:ae) (Q:QT):Prop:=
 Xr .index [a0,a1] fun t7=>
 Q t7 h
theorem rK (a0 a1:AV) (h:ae) (Q:QT) (k:my a0 a1 h Q):C kD [a0,a1] h Q:=
 okF (pl:=[]) Tryz.func135 Tryz.ntmps135 (by kernel_rfl) rfl (by kernel_rfl) k
end
end Go.Proofs.YtbhphjpgjgigpaaGreatDoor.AL
