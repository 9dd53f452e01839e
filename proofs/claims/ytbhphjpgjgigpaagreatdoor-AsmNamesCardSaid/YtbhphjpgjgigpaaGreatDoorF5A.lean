import Derived.Test.YtbhphjpgjgigpaaGreatDoorAM4toAM6
import Derived.Test.YtbhphjpgjgigpaaGreatDoorAL33
import Derived.Test.YtbhphjpgjgigpaaGreatDoorProg
import Derived.KernelRfl
set_option linter.all false
set_option autoImplicit true
set_option relaxedAutoImplicit true
set_option maxRecDepth 100000
namespace Go.Proofs.YtbhphjpgjgigpaaGreatDoor.AL
noncomputable section
open Go.Proofs
variable [Tabs]
noncomputable abbrev Pg:Program:=Tryz.prog
abbrev C:=ACall Pg
abbrev CV:=qP Pg
def qD (fn:Func):Code:=fn.body.getD .skip
def UV (fn : Func) : Bool := fn.body.isSome && !(fn.name == "runtime.NumGoroutine")
theorem okF {f:FuncId}{fn:Func}{m:Nat}{l:List AV}{h:ab}{Q:QT}{pl:E9}{p:Prop}(hf:Pg.funcs[f]?=some fn) (hm:fn.ntmps=m) (hb:UV fn=true) (hl:Nat.ble l.length m=true) (he:UW Pg pl fn (qD fn) l h Q=p) (k:p):ACall Pg f l h Q:=by
 simp only[UV,Bool.and_eq_true,Bool.not_eq_true']at hb
 have h1:fn.body=some (qD fn):=by
  have h:=hb.1
  unfold qD
  cases hc:fn.body with
  | none=>rw[hc]at h;cases h
  | some c=>rfl
 exact FN hf h1 hb.2 (by rw[hm];exact Nat.le_of_ble_eq_true hl) (by rw[he];exact k)
abbrev d4:Nat:=9
abbrev qn:Nat:=14
abbrev gA:Nat:=37
abbrev kC:Nat:=58
abbrev bo:Nat:=40
abbrev eX:Nat:=39
abbrev qH:Nat:=88
abbrev em:Nat:=53
abbrev nT:Nat:=18
abbrev ue:Nat:=116
abbrev tk:Nat:=30
abbrev mW:Nat:=78
abbrev iH:Nat:=20
abbrev cc:Nat:=34
abbrev gc:Nat:=79
abbrev fc:Nat:=118
abbrev jy:Nat:=55
abbrev gH:Nat:=54
abbrev ey:Nat:=22
abbrev bT:Nat:=33
abbrev ce:Nat:=32
abbrev aQ:Nat:=51
abbrev cf:Nat:=31
abbrev eV:Nat:=35
abbrev iO:Nat:=56
abbrev pn:Nat:=80
abbrev jY:Nat:=63
abbrev nw:Nat:=98
abbrev jb:Nat:=62
abbrev pr:Nat:=177
abbrev cF:Nat:=215
abbrev qk:Nat:=99
abbrev cx:Nat:=96
abbrev cK:Nat:=219
abbrev jH:Nat:=216
abbrev dJ:Nat:=220
abbrev gV:Nat:=203
abbrev cr:Nat:=217
abbrev eH:Nat:=191
abbrev bP:Nat:=222
abbrev eT:Nat:=212
abbrev d9:Nat:=205
abbrev eZ:Nat:=213
abbrev cg:Nat:=218
abbrev cN:Nat:=204
abbrev cd:Nat:=210
abbrev cq:Nat:=190
abbrev cI:Nat:=211
abbrev o9:Nat:=223
abbrev o8:Nat:=230
abbrev lw:Nat:=129
abbrev j4:Nat:=221
abbrev tO:Nat:=181
abbrev l0:Nat:=124
abbrev tg:Nat:=125
abbrev tQ:Nat:=199
abbrev qZ:Nat:=123
abbrev g0:Nat:=157
abbrev qp:Nat:=155
abbrev ri:Nat:=156
abbrev pm:Nat:=36
abbrev oI:Nat:=145
abbrev oO:Nat:=174
abbrev mR:Nat:=60
abbrev ox:Nat:=61
abbrev mT:Nat:=77
abbrev nS:Nat:=38
abbrev nV:Nat:=57
abbrev lz:Nat:=84
abbrev j6:Nat:=85
abbrev ii:Nat:=91
abbrev kQ:Nat:=83
abbrev gk:Nat:=122
abbrev ld:Nat:=121
abbrev uF:Nat:=120
abbrev bw:Nat:=87
abbrev je:Nat:=86
abbrev iI:Nat:=92
abbrev kY:Nat:=93
abbrev ib:Nat:=119
abbrev rO:Nat:=126
abbrev kM:Nat:=5
abbrev qM:Nat:=10
abbrev lq:Nat:=6
abbrev cL:Nat:=11
abbrev sT:Nat:=73
abbrev lF:Nat:=112
abbrev pi:Nat:=50
abbrev mV:Nat:=110
abbrev eU:Nat:=148
abbrev qz:Nat:=107
abbrev dK:Nat:=136
abbrev ej:Nat:=108
abbrev oW:Nat:=147
abbrev iV:Nat:=109
abbrev kX:Nat:=144
abbrev gZ:Nat:=151
abbrev ed:Nat:=178
abbrev ez:Nat:=146
abbrev dY:Nat:=176
abbrev fl:Nat:=113
abbrev bB:Nat:=150
abbrev fx:Nat:=152
abbrev kN:Nat:=189
abbrev ia:Nat:=149
abbrev pt:Nat:=154
abbrev dR:Nat:=13
abbrev df:Nat:=114
abbrev cP:Nat:=19
abbrev cR:Nat:=74
abbrev c6:Nat:=21
abbrev dI:Nat:=23
abbrev dC:Nat:=95
abbrev bF:Nat:=76
abbrev bS:Nat:=117
abbrev be:Nat:=52
abbrev cX:Nat:=94
abbrev cw:Nat:=115
abbrev cB:Nat:=97
abbrev ci:Nat:=153
abbrev cD:Nat:=173
abbrev fo:Nat:=75
abbrev bC:Nat:=128
abbrev fW:Nat:=82
abbrev gb:Nat:=81
abbrev d7:Nat:=202
abbrev iz:Nat:=175
abbrev pw:Nat:=133
abbrev dX:Nat:=59
abbrev eR:Nat:=214
abbrev ig:Nat:=134
abbrev g7:Nat:=106
abbrev fG:Nat:=72
abbrev eN:Nat:=111
abbrev iK:Nat:=206
abbrev cM:Nat:=170
abbrev vL:Nat:=132
abbrev mG:Nat:=105
abbrev cn:Nat:=139
abbrev bX:Nat:=140
abbrev dU:Nat:=137
abbrev c9:Nat:=142
abbrev dr:Nat:=141
abbrev pk:Nat:=138
abbrev gC:Nat:=143
abbrev jc:Nat:=229
abbrev i6:Nat:=135
abbrev jS:Nat:=165
def ol (s9 s7 s8:AV) (h:ab) (next0:NT):Prop:=
 ah .shl s7 (.lit (.int .u64 8)) fun t22=>
 ah .or t22 s9 fun t24=>
 ah .sub s8 (I 1) fun t13=>
 next0 [t24,t13] h
def ow (s9 s7 s8 s1 s2:AV) (h:ab) (next0:NT):Prop:=
 ah .eql s8 s1 fun t18=>
 ifB t18 (
 ah .and s2 (I 255) fun t20=>
 ol t20 s7 s8 h next0) (
 ol s9 s7 s8 h next0)
def oJ (s0 s1 s2:AV) (Q:QT) (vs0:List AV) (h:ab) (next0:NT):Prop:=
 ah .geq (af vs0 1) (I 0) fun t11=>
 ifB t11 (
 ah .eql s0 (I 1) fun t15=>
 ifB t15 (
 ow (I 255) (af vs0 0) (af vs0 1) s1 s2 h next0) (
 ow (I 0) (af vs0 0) (af vs0 1) s1 s2 h next0)) (
 C tQ [(af vs0 0),(I 32)] h fun t26 h3=>
 Q t26 h3)
def G8 (a0 a1 a2:AV) (h:ab) (Q:QT):Prop:=
 bG [(I 0),(I 3)] h fun vs0 h next0=>oJ a0 a1 a2 Q vs0 h next0
theorem GW (a0 a1 a2:AV) (h:ab) (Q:QT) (k:G8 a0 a1 a2 h Q):C tO [a0,a1,a2] h Q:=
 okF (pl:=[(4,[7,8,9,10,11,12,13,14,15,16,17,18,19,20,21,22,23,24],[7,8])]) Tryz.func181 Tryz.ntmps181 (by kernel_rfl) rfl (by kernel_rfl) k
def Iy (a0 a1:AV) (h:ab) (Q:QT):Prop:=
 ah .sub a1 (I 1) fun t7=>
 C pt [(.lit (.float .f64 4607182418800017408)),t7] h fun t8 h0=>
 oo .f64 a0 fun t10=>
 qUn .neg t8 fun t12=>
 ah .geq t10 t12 fun t13=>
 ifB t13 (oo .f64 a0 fun t16=>
 ah .lss t16 t8 fun t18=>
 Q t18 h0) (
 Q (B false) h0)
theorem GX (a0 a1:AV) (h:ab) (Q:QT) (k:Iy a0 a1 h Q):C l0 [a0,a1] h Q:=
 okF (pl:=[]) Tryz.func124 Tryz.ntmps124 (by kernel_rfl) rfl (by kernel_rfl) k
def yW (s9 s8 s0:AV) (Q:QT) (vs1:List AV) (h:ab) (next1:NT):Prop:=
 ah .lss (af vs1 4) s9 fun t11=>
 ifB t11 (
 ao 2 s8 (af vs1 4) fun t12=>
 aD 2 t12 h fun t13=>
 gR [(I 0),(I 0)] h fun t7 h2=>
 aw 2 t7 t13 h2 fun h3=>
 aD 2 t7 h3 fun t15=>
 C ri [s0,(.fn (.func g0) [t15] [])] h3 fun t17 h4=>
 ah .geq t17 (I 0) fun t19=>
 ifB t19 (
 ae 0 t7 fun t20=>
 ai t20 h4 fun t21=>
 ae 1 t7 fun t22=>
 ai t22 h4 fun t23=>
 Q (.tup [t21,t23,t17,(B true)]) h4) (
 ah .add (af vs1 4) (I 1) fun t25=>
 next1 [(af vs1 0),(af vs1 1),t17,(af vs1 3),t25] h4)) (
 Q (.tup [(I 0),(I 0),(I 0),(B false)]) h)
def IG (a0:AV) (h:ab) (Q:QT):Prop:=
 C qp [] h fun t8 h0=>
 bh t8 fun t9=>
 bG [(I 0),(I 0),(I 0),(B false),(I 0)] h0 fun vs1 h next1=>yW t9 t8 a0 Q vs1 h next1
theorem H0 (a0:AV) (h:ab) (Q:QT) (k:IG a0 h Q):C tg [a0] h Q:=
 okF (pl:=[(3,[2,3,4,5,7,10,11,12,13,14,15,16,17,18,19,20,21,22,23,24,25],[2,3,4,5,10]),(1000006,[0,1,2,3,4,5,6,7,8],[])]) Tryz.func125 Tryz.ntmps125 (by kernel_rfl) rfl (by kernel_rfl) k
def HD (a0 a1:AV) (h:ab) (Q:QT):Prop:=
 x3 a1 (I 1) fun t7=>
 BE t7 (I 64) fun t8=>
 ah .sub (I 64) t8 fun t9=>
 ah .shl a0 t9 fun t12=>
 ah .shr t12 t9 fun t14=>
 Q t14 h
theorem G7 (a0 a1:AV) (h:ab) (Q:QT) (k:HD a0 a1 h Q):C tQ [a0,a1] h Q:=
 okF (pl:=[]) Tryz.func199 Tryz.ntmps199 (by kernel_rfl) rfl (by kernel_rfl) k
def DD (a0:AV) (h:ab) (Q:QT):Prop:=
 ah .shr a0 (.lit (.int .u64 16)) fun t6=>
 ah .and t6 (I 15) fun t7=>
 ah .shr a0 (.lit (.int .u64 11)) fun t9=>
 ah .and t9 (I 31) fun t10=>
 ah .and a0 (I 2047) fun t12=>
 Q (.tup [t7,t10,t12]) h
theorem Gv (a0:AV) (h:ab) (Q:QT) (k:DD a0 h Q):C qZ [a0] h Q:=
 okF (pl:=[]) Tryz.func123 Tryz.ntmps123 (by kernel_rfl) rfl (by kernel_rfl) k
def yA (a0 a1:AV) (h:ab) (Q:QT):Prop:=
 lP a0 h fun t2 h0=>
 ae 0 t2 fun t5=>
 ai t5 h0 fun t6=>
 ae 1 t2 fun t7=>
 ai t7 h0 fun t8=>
 C tO [t6,t8,a1] h0 fun t10 h1=>
 Q t10 h1
theorem Az (a0 a1:AV) (h:ab) (Q:QT) (k:yA a0 a1 h Q):C g0 [a0,a1] h Q:=
 okF (pl:=[]) Tryz.func157 Tryz.ntmps157 (by kernel_rfl) rfl (by kernel_rfl) k
def Ey (h:ab) (Q:QT):Prop:=
 au [(I 0),(I 0)] [(0,1,(I 0)),(1,1,(I 0))] fun t1=>
 au [(I 0),(I 0)] [(0,1,(I 0)),(1,1,(I 1))] fun t2=>
 au [(I 0),(I 0)] [(0,1,(I 0)),(1,1,(I 2))] fun t3=>
 au [(I 0),(I 0)] [(0,1,(I 0)),(1,1,(I 3))] fun t4=>
 au [(I 0),(I 0)] [(0,1,(I 1)),(1,1,(I 0))] fun t5=>
 au [(I 0),(I 0)] [(0,1,(I 1)),(1,1,(I 1))] fun t6=>
 au [(I 0),(I 0)] [(0,1,(I 1)),(1,1,(I 2))] fun t7=>
 au [(I 0),(I 0)] [(0,1,(I 1)),(1,1,(I 3))] fun t8=>
 ap 8 2 [t1,t2,t3,t4,t5,t6,t7,t8] fun t9=>
 Q t9 h
theorem E8 (h:ab) (Q:QT) (k:Ey  h Q):C qp [] h Q:=
 okF (pl:=[]) Tryz.func155 Tryz.ntmps155 (by kernel_rfl) rfl (by kernel_rfl) k
def w8 (s0 s1:AV) (Q:QT) (vs0:List AV) (h:ab) (next0:NT):Prop:=
 ah .lss (af vs0 1) (I 256) fun t7=>
 ifB t7 (
 CV s1 [(af vs0 1)] h fun t11 h1=>
 ah .eql t11 s0 fun t13=>
 ifB t13 (
 Q (af vs0 1) h1) (
 ah .add (af vs0 1) (I 1) fun t15=>
 next0 [(af vs0 0),t15] h1)) (
 Q (I (-1)) h)
def D0 (a0 a1:AV) (h:ab) (Q:QT):Prop:=
 bG [(I 0),(I 0)] h fun vs0 h next0=>w8 a0 a1 Q vs0 h next0
theorem FV (a0 a1:AV) (h:ab) (Q:QT) (k:D0 a0 a1 h Q):C ri [a0,a1] h Q:=
 okF (pl:=[(3,[4,5,6,7,8,9,10,11,12,13,14,15],[4,6])]) Tryz.func156 Tryz.ntmps156 (by kernel_rfl) rfl (by kernel_rfl) k
def Ay (a0:AV) (h:ab) (Q:QT):Prop:=
 lP a0 h fun t1 h0=>
 aD 2 t1 h0 fun t8=>
 C nV [t8] h0 fun t9 h1=>
 am 0 t9 fun t10=>
 am 1 t9 fun t11=>
 qUn .not t11 fun t13=>
 ifB t13 (
 Q (.tup [(.full 0 []),(B false)]) h1) (
 ah .shr t10 (.lit (.int .u64 24)) fun t15=>
 cz .u8 t15 fun t16=>
 ah .shr t10 (.lit (.int .u64 16)) fun t18=>
 cz .u8 t18 fun t19=>
 ah .shr t10 (.lit (.int .u64 8)) fun t21=>
 cz .u8 t21 fun t22=>
 cz .u8 t10 fun t24=>
 ap 4 1 [t16,t19,t22,t24] fun t25=>
 ae 0 t1 fun t27=>
 ai t27 h1 fun t28=>
 C nS [t28] h1 fun t29 h2=>
 ah .sub (I 4) t29 fun t30=>
 lC 1 t25 (some t30) none fun t31=>
 C c6 [t31] h2 fun t32 h3=>
 Q (.tup [t32,(B true)]) h3)
theorem CU (a0:AV) (h:ab) (Q:QT) (k:Ay a0 h Q):C pm [a0] h Q:=
 okF (pl:=[]) Tryz.func36 Tryz.ntmps36 (by kernel_rfl) rfl (by kernel_rfl) k
def HU (a0:AV) (h:ab) (Q:QT):Prop:=
 lP a0 h fun t1 h0=>
 C ib [] h0 fun t5 h1=>
 C cD [t5,(.fn (.func oO) [] [t1])] h1 fun t7 h2=>
 x3 t7 (I 0) fun t9=>
 ah .geq t7 (I 0) fun t11=>
 Q (.tup [t9,t11]) h2
theorem HM (a0:AV) (h:ab) (Q:QT) (k:HU a0 h Q):C oI [a0] h Q:=
 okF (pl:=[]) Tryz.func145 Tryz.ntmps145 (by kernel_rfl) rfl (by kernel_rfl) k
def Cm (a0 a1:AV) (h:ab) (Q:QT):Prop:=
 lP a0 h fun t2 h0=>
 ae 0 t2 fun t4=>
 ai t4 h0 fun t5=>
 ai a1 h0 fun t6=>
 ah .eql t5 t6 fun t7=>
 Q t7 h0
theorem CX (a0 a1:AV) (h:ab) (Q:QT) (k:Cm a0 a1 h Q):C oO [a0,a1] h Q:=
 okF (pl:=[]) Tryz.func174 Tryz.ntmps174 (by kernel_rfl) rfl (by kernel_rfl) k
def Ef (a0:AV) (h:ab) (Q:QT):Prop:=
 C ii [a0,(.fn (.func iI) [] [])] h fun t4 h0=>
 Q t4 h0
theorem EF (a0:AV) (h:ab) (Q:QT) (k:Ef a0 h Q):C mR [a0] h Q:=
 okF (pl:=[]) Tryz.func60 Tryz.ntmps60 (by kernel_rfl) rfl (by kernel_rfl) k
def GR (a0:AV) (h:ab) (Q:QT):Prop:=
 C ii [a0,(.fn (.func kY) [] [])] h fun t4 h0=>
 Q t4 h0
theorem I7 (a0:AV) (h:ab) (Q:QT) (k:GR a0 h Q):C ox [a0] h Q:=
 okF (pl:=[]) Tryz.func61 Tryz.ntmps61 (by kernel_rfl) rfl (by kernel_rfl) k
def Ep (a0:AV) (h:ab) (Q:QT):Prop:=
 lP a0 h fun t1 h0=>
 aD 2 t1 h0 fun t6=>
 C nV [t6] h0 fun t7 h1=>
 am 0 t7 fun t8=>
 am 1 t7 fun t9=>
 Q t9 h1
theorem Fd (a0:AV) (h:ab) (Q:QT) (k:Ep a0 h Q):C mT [a0] h Q:=
 okF (pl:=[]) Tryz.func77 Tryz.ntmps77 (by kernel_rfl) rfl (by kernel_rfl) k
def GJ (a0:AV) (h:ab) (Q:QT):Prop:=
 C ox [a0] h fun t5 h0=>
 ah .eql t5 (S ⟨#[]⟩) fun t6=>
 ifB t6 (
 Q (I 0) h0) (
 ah .lss a0 (I 43) fun t9=>
 ifB t9 (
 Q (I 2) h0) (
 Q (I 4) h0))
theorem I6 (a0:AV) (h:ab) (Q:QT) (k:GJ a0 h Q):C nS [a0] h Q:=
 okF (pl:=[]) Tryz.func38 Tryz.ntmps38 (by kernel_rfl) rfl (by kernel_rfl) k
def yK (s27 s26 s1:AV) (Q:QT) (vs4:List AV) (h:ab) (next4:NT):Prop:=
 ah .lss (af vs4 3) s27 fun t29=>
 ifB t29 (
 ao 1 s26 (af vs4 3) fun t31=>
 ai t31 h fun t32=>
 ae 1 s1 fun t35=>
 ai t35 h fun t36=>
 ao 1 t36 (af vs4 3) fun t38=>
 ai t38 h fun t39=>
 C bw [t32,t39] h fun t40 h5=>
 am 0 t40 fun t41=>
 am 1 t40 fun t42=>
 qUn .not t42 fun t44=>
 ifB t44 (
 Q (.tup [(.lit (.int .u32 0)),(B false)]) h5) (
 ah .or (af vs4 2) t41 fun t47=>
 ah .add (af vs4 3) (I 1) fun t48=>
 next4 [(af vs4 0),(af vs4 1),t47,t48] h5)) (
 Q (.tup [(af vs4 2),(B true)]) h)
def Jr (a0:AV) (h:ab) (Q:QT):Prop:=
 lP a0 h fun t1 h0=>
 ae 0 t1 fun t10=>
 ai t10 h0 fun t11=>
 C ox [t11] h0 fun t12 h1=>
 ah .eql t12 (S ⟨#[]⟩) fun t13=>
 ifB t13 (
 Q (.tup [(.lit (.int .u32 0)),(B false)]) h1) (
 ae 0 t1 fun t14=>
 ai t14 h1 fun t15=>
 ae 0 t1 fun t17=>
 ai t17 h1 fun t18=>
 C kQ [t15,(.fn (.func lz) [] [])] h1 fun t16 h2=>
 (ai t17 h2 fun _t=>
 _t=t18)∧
 C j6 [t18,(.fn (.func je) [] [])] h2 fun t19 h3=>
 bh t19 fun t21=>
 ae 1 t1 fun t22=>
 ai t22 h3 fun t23=>
 bh t23 fun t24=>
 ah .neq t21 t24 fun t25=>
 ifB t25 (
 Q (.tup [(.lit (.int .u32 0)),(B false)]) h3) (
 bh t19 fun t27=>
 bG [(.lit (.int .u32 0)),(B false),t16,(I 0)] h3 fun vs4 h next4=>yK t27 t19 t1 Q vs4 h next4))
theorem H4 (a0:AV) (h:ab) (Q:QT) (k:Jr a0 h Q):C nV [a0] h Q:=
 okF (pl:=[(1000003,[0,1,3,4,2,5,6,7],[]),(8,[2,3,4,6,7,8,9,28,29,30,31,32,33,34,35,36,37,38,39,40,41,42,43,44,45,46,47,48],[2,3,4,28])]) Tryz.func57 Tryz.ntmps57 (by kernel_rfl) rfl (by kernel_rfl) k
def BA (a0:AV) (h:ab) (Q:QT):Prop:=
 lP a0 h fun t1 h0=>
 ae 1 t1 fun t3=>
 ai t3 h0 fun t4=>
 Q t4 h0
theorem CS (a0:AV) (h:ab) (Q:QT) (k:BA a0 h Q):C lz [a0] h Q:=
 okF (pl:=[]) Tryz.func84 Tryz.ntmps84 (by kernel_rfl) rfl (by kernel_rfl) k
def ka (s4:AV) (h:ab) (Q:QT):Prop:=
 Q s4 h
def td (a0 a1:AV) (h:ab) (Q:QT):Prop:=
 C ib [] h fun t6 h0=>
 ah .geq a0 (I 0) fun t8=>
 ifB t8 (bh t6 fun t12=>
 ah .lss a0 t12 fun t13=>
 ifB t13 (
 ao 3 t6 a0 fun t18=>
 aD 3 t18 h0 fun t19=>
 CV a1 [t19] h0 fun t20 h1=>
 ka t20 h1 Q) (
 ka (.full 0 []) h0 Q)) (
 ka (.full 0 []) h0 Q)
theorem v6 (a0 a1:AV) (h:ab) (Q:QT) (k:td a0 a1 h Q):C j6 [a0,a1] h Q:=
 okF (pl:=[]) Tryz.func85 Tryz.ntmps85 (by kernel_rfl) rfl (by kernel_rfl) k
def lc (s4:AV) (h:ab) (Q:QT):Prop:=
 Q s4 h
def uN (a0 a1:AV) (h:ab) (Q:QT):Prop:=
 C ib [] h fun t6 h0=>
 ah .geq a0 (I 0) fun t8=>
 ifB t8 (bh t6 fun t12=>
 ah .lss a0 t12 fun t13=>
 ifB t13 (
 ao 3 t6 a0 fun t18=>
 aD 3 t18 h0 fun t19=>
 CV a1 [t19] h0 fun t20 h1=>
 lc t20 h1 Q) (
 lc (S ⟨#[]⟩) h0 Q)) (
 lc (S ⟨#[]⟩) h0 Q)
theorem xN (a0 a1:AV) (h:ab) (Q:QT) (k:uN a0 a1 h Q):C ii [a0,a1] h Q:=
 okF (pl:=[]) Tryz.func91 Tryz.ntmps91 (by kernel_rfl) rfl (by kernel_rfl) k
def k7 (s4:AV) (h:ab) (Q:QT):Prop:=
 Q s4 h
def uZ (a0 a1:AV) (h:ab) (Q:QT):Prop:=
 C ib [] h fun t6 h0=>
 ah .geq a0 (I 0) fun t8=>
 ifB t8 (bh t6 fun t12=>
 ah .lss a0 t12 fun t13=>
 ifB t13 (
 ao 3 t6 a0 fun t18=>
 aD 3 t18 h0 fun t19=>
 CV a1 [t19] h0 fun t20 h1=>
 k7 t20 h1 Q) (
 k7 (.lit (.int .u32 0)) h0 Q)) (
 k7 (.lit (.int .u32 0)) h0 Q)
theorem xC (a0 a1:AV) (h:ab) (Q:QT) (k:uZ a0 a1 h Q):C kQ [a0,a1] h Q:=
 okF (pl:=[]) Tryz.func83 Tryz.ntmps83 (by kernel_rfl) rfl (by kernel_rfl) k
def DL (a0:AV) (h:ab) (Q:QT):Prop:=
 ah .eql a0 (S ⟨#[89]⟩) fun t4=>
 ifB t4 (
 Q (.lit (.int .u64 4)) h) (
 Q (.lit (.int .u64 0)) h)
theorem EU (a0:AV) (h:ab) (Q:QT) (k:DL a0 h Q):C gk [a0] h Q:=
 okF (pl:=[]) Tryz.func122 Tryz.ntmps122 (by kernel_rfl) rfl (by kernel_rfl) k
def uL (a0 a1:AV) (h:ab) (Q:QT):Prop:=
 lP a0 h fun t2 h0=>
 ae 3 t2 fun t7=>
 ai t7 h0 fun t8=>
 ah .lss a1 t8 fun t9=>
 ifB t9 (Q (.tup [(.lit (.int .u32 0)),(B false)]) h0) (
 ae 3 t2 fun t12=>
 ai t12 h0 fun t13=>
 ah .sub a1 t13 fun t14=>
 ae 2 t2 fun t15=>
 ai t15 h0 fun t16=>
 ae 1 t2 fun t17=>
 ai t17 h0 fun t18=>
 ah .shl t16 t18 fun t19=>
 ah .geq t14 t19 fun t20=>
 ifB t20 (Q (.tup [(.lit (.int .u32 0)),(B false)]) h0) (
 ae 3 t2 fun t24=>
 ai t24 h0 fun t25=>
 ah .sub a1 t25 fun t26=>
 ae 2 t2 fun t27=>
 ai t27 h0 fun t28=>
 ah .rem t26 t28 fun t29=>
 ah .neq t29 (I 0) fun t30=>
 ifB t30 (
 Q (.tup [(.lit (.int .u32 0)),(B false)]) h0) (
 ae 3 t2 fun t33=>
 ai t33 h0 fun t34=>
 ah .sub a1 t34 fun t35=>
 ae 2 t2 fun t36=>
 ai t36 h0 fun t37=>
 ah .quo t35 t37 fun t38=>
 cz .u32 t38 fun t39=>
 ae 0 t2 fun t40=>
 ai t40 h0 fun t41=>
 ah .shl t39 t41 fun t42=>
 Q (.tup [t42,(B true)]) h0)))
theorem x8 (a0 a1:AV) (h:ab) (Q:QT) (k:uL a0 a1 h Q):C ld [a0,a1] h Q:=
 okF (pl:=[(1000003,[0,1,2,3,4,5,6,7,8,9,10,11,12],[])]) Tryz.func121 Tryz.ntmps121 (by kernel_rfl) rfl (by kernel_rfl) k
def bJ (a0:AV) (h:ab) (Q:QT):Prop:=
 gR [(.lit (.int .u64 0)),(.lit (.int .u64 0)),(I 0),(I 0)] h fun t2 h0=>
 ah .eql a0 (S ⟨#[85,53]⟩) fun t6=>
 ifB t6 (
 au [(.lit (.int .u64 0)),(.lit (.int .u64 0)),(I 0),(I 0)] [(0,1,(.lit (.int .u64 4))),(1,1,(.lit (.int .u64 5))),(2,1,(I 1)),(3,1,(I 0))] fun t7=>
 aw 4 t2 t7 h0 fun h1=>
 aD 4 t2 h1 fun r2=>
 Q (.tup [r2,(B true)]) h1) (
 ah .eql a0 (S ⟨#[85,55]⟩) fun t9=>
 ifB t9 (
 au [(.lit (.int .u64 0)),(.lit (.int .u64 0)),(I 0),(I 0)] [(0,1,(.lit (.int .u64 4))),(1,1,(.lit (.int .u64 7))),(2,1,(I 1)),(3,1,(I 0))] fun t10=>
 aw 4 t2 t10 h0 fun h3=>
 aD 4 t2 h3 fun r4=>
 Q (.tup [r4,(B true)]) h3) (
 ah .eql a0 (S ⟨#[79,53]⟩) fun t12=>
 ifB t12 (
 au [(.lit (.int .u64 0)),(.lit (.int .u64 0)),(I 0),(I 0)] [(0,1,(.lit (.int .u64 4))),(1,1,(.lit (.int .u64 5))),(2,1,(I 1)),(3,1,(I 1))] fun t13=>
 aw 4 t2 t13 h0 fun h5=>
 aD 4 t2 h5 fun r6=>
 Q (.tup [r6,(B true)]) h5) (
 ah .eql a0 (S ⟨#[77,49]⟩) fun t15=>
 ifB t15 (
 au [(.lit (.int .u64 0)),(.lit (.int .u64 0)),(I 0),(I 0)] [(0,1,(.lit (.int .u64 8))),(1,1,(.lit (.int .u64 4))),(2,1,(I 1)),(3,1,(I 0))] fun t16=>
 aw 4 t2 t16 h0 fun h7=>
 aD 4 t2 h7 fun r8=>
 Q (.tup [r8,(B true)]) h7) (
 ah .eql a0 (S ⟨#[77,50]⟩) fun t18=>
 ifB t18 (
 au [(.lit (.int .u64 0)),(.lit (.int .u64 0)),(I 0),(I 0)] [(0,1,(.lit (.int .u64 8))),(1,1,(.lit (.int .u64 4))),(2,1,(I 2)),(3,1,(I 0))] fun t19=>
 aw 4 t2 t19 h0 fun h9=>
 aD 4 t2 h9 fun r10=>
 Q (.tup [r10,(B true)]) h9) (
 ah .eql a0 (S ⟨#[77,52]⟩) fun t21=>
 ifB t21 (
 au [(.lit (.int .u64 0)),(.lit (.int .u64 0)),(I 0),(I 0)] [(0,1,(.lit (.int .u64 8))),(1,1,(.lit (.int .u64 4))),(2,1,(I 4)),(3,1,(I 0))] fun t22=>
 aw 4 t2 t22 h0 fun h11=>
 aD 4 t2 h11 fun r12=>
 Q (.tup [r12,(B true)]) h11) (
 ah .eql a0 (S ⟨#[79,49]⟩) fun t24=>
 ifB t24 (
 au [(.lit (.int .u64 0)),(.lit (.int .u64 0)),(I 0),(I 0)] [(0,1,(.lit (.int .u64 10))),(1,1,(.lit (.int .u64 1))),(2,1,(I 1)),(3,1,(I 0))] fun t25=>
 aw 4 t2 t25 h0 fun h13=>
 aD 4 t2 h13 fun r14=>
 Q (.tup [r14,(B true)]) h13) (
 ah .eql a0 (S ⟨#[73,50]⟩) fun t27=>
 ifB t27 (
 au [(.lit (.int .u64 0)),(.lit (.int .u64 0)),(I 0),(I 0)] [(0,1,(.lit (.int .u64 8))),(1,1,(.lit (.int .u64 2))),(2,1,(I 1)),(3,1,(I 0))] fun t28=>
 aw 4 t2 t28 h0 fun h15=>
 aD 4 t2 h15 fun r16=>
 Q (.tup [r16,(B true)]) h15) (
 ah .eql a0 (S ⟨#[68]⟩) fun t30=>
 ifB t30 (
 au [(.lit (.int .u64 0)),(.lit (.int .u64 0)),(I 0),(I 0)] [(0,1,(.lit (.int .u64 21))),(1,1,(.lit (.int .u64 5))),(2,1,(I 1)),(3,1,(I 0))] fun t31=>
 aw 4 t2 t31 h0 fun h17=>
 aD 4 t2 h17 fun r18=>
 Q (.tup [r18,(B true)]) h17) (
 ah .eql a0 (S ⟨#[65]⟩) fun t33=>
 ifB t33 (
 au [(.lit (.int .u64 0)),(.lit (.int .u64 0)),(I 0),(I 0)] [(0,1,(.lit (.int .u64 16))),(1,1,(.lit (.int .u64 5))),(2,1,(I 1)),(3,1,(I 0))] fun t34=>
 aw 4 t2 t34 h0 fun h19=>
 aD 4 t2 h19 fun r20=>
 Q (.tup [r20,(B true)]) h19) (
 ah .eql a0 (S ⟨#[66]⟩) fun t36=>
 ifB t36 (
 au [(.lit (.int .u64 0)),(.lit (.int .u64 0)),(I 0),(I 0)] [(0,1,(.lit (.int .u64 11))),(1,1,(.lit (.int .u64 5))),(2,1,(I 1)),(3,1,(I 0))] fun t37=>
 aw 4 t2 t37 h0 fun h21=>
 aD 4 t2 h21 fun r22=>
 Q (.tup [r22,(B true)]) h21) (
 ah .eql a0 (S ⟨#[79,50]⟩) fun t39=>
 ifB t39 (
 au [(.lit (.int .u64 0)),(.lit (.int .u64 0)),(I 0),(I 0)] [(0,1,(.lit (.int .u64 20))),(1,1,(.lit (.int .u64 2))),(2,1,(I 1)),(3,1,(I 0))] fun t40=>
 aw 4 t2 t40 h0 fun h23=>
 aD 4 t2 h23 fun r24=>
 Q (.tup [r24,(B true)]) h23) (
 ah .eql a0 (S ⟨#[73,52]⟩) fun t42=>
 ifB t42 (
 au [(.lit (.int .u64 0)),(.lit (.int .u64 0)),(I 0),(I 0)] [(0,1,(.lit (.int .u64 16))),(1,1,(.lit (.int .u64 4))),(2,1,(I 1)),(3,1,(I 0))] fun t43=>
 aw 4 t2 t43 h0 fun h25=>
 aD 4 t2 h25 fun r26=>
 Q (.tup [r26,(B true)]) h25) (
 au [(.lit (.int .u64 0)),(.lit (.int .u64 0)),(I 0),(I 0)] [] fun t44=>
 aw 4 t2 t44 h0 fun h27=>
 aD 4 t2 h27 fun r28=>
 Q (.tup [r28,(B false)]) h27)))))))))))))
theorem bf (a0:AV) (h:ab) (Q:QT) (k:bJ a0 h Q):C uF [a0] h Q:=
 okF (pl:=[]) Tryz.func120 Tryz.ntmps120 (by kernel_rfl) rfl (by kernel_rfl) k
def yC (s27 s26 s0 s1:AV) (h:ab) (Q:QT):Prop:=
 ifB s27 (
 ah .lss s1 (I 0) fun t31=>
 ifB t31 (Q (.tup [(.lit (.int .u32 0)),(B false)]) h) (
 ah .gtr s1 (I 7) fun t34=>
 ifT t34 (ah .lss s1 (I 24) fun t37=>
 ifB t37 (Q (.tup [(.lit (.int .u32 0)),(B false)]) h) (
 ah .gtr s1 (I 31) fun t42=>
 ifB t42 (
 Q (.tup [(.lit (.int .u32 0)),(B false)]) h) (
 ah .quo s1 (I 24) fun t46=>
 ah .mul t46 (I 16) fun t47=>
 ah .sub s1 t47 fun t48=>
 cz .u32 t48 fun t49=>
 C gk [s0] h fun t51 h4=>
 ah .shl t49 t51 fun t52=>
 Q (.tup [t52,(B true)]) h4))) (
 ah .gtr s1 (I 31) fun t42=>
 ifB t42 (
 Q (.tup [(.lit (.int .u32 0)),(B false)]) h) (
 ah .quo s1 (I 24) fun t46=>
 ah .mul t46 (I 16) fun t47=>
 ah .sub s1 t47 fun t48=>
 cz .u32 t48 fun t49=>
 C gk [s0] h fun t51 h5=>
 ah .shl t49 t51 fun t52=>
 Q (.tup [t52,(B true)]) h5)) (
 ifB (.tup []) (ifB (.tup []) (Q (.tup [(.lit (.int .u32 0)),(B false)]) h) (ifB (.tup []) (
 Q (.tup [(.lit (.int .u32 0)),(B false)]) h) (
 ah .quo s1 (I 24) fun t46=>
 ah .mul t46 (I 16) fun t47=>
 ah .sub s1 t47 fun t48=>
 cz .u32 t48 fun t49=>
 C gk [s0] h fun t51 h6=>
 ah .shl t49 t51 fun t52=>
 Q (.tup [t52,(B true)]) h6))) (ah .gtr s1 (I 31) fun t42=>
 ifB t42 (
 Q (.tup [(.lit (.int .u32 0)),(B false)]) h) (
 ah .quo s1 (I 24) fun t46=>
 ah .mul t46 (I 16) fun t47=>
 ah .sub s1 t47 fun t48=>
 cz .u32 t48 fun t49=>
 C gk [s0] h fun t51 h7=>
 ah .shl t49 t51 fun t52=>
 Q (.tup [t52,(B true)]) h7))))) (
 ah .eql s26 (S ⟨#[76,50,48]⟩) fun t54=>
 ifB t54 (
 C qZ [s1] h fun t57 h8=>
 am 0 t57 fun t58=>
 am 1 t57 fun t59=>
 am 2 t57 fun t60=>
 ah .shl t58 (.lit (.int .u64 11)) fun t62=>
 ah .shl t59 (.lit (.int .u64 16)) fun t64=>
 ah .or t62 t64 fun t65=>
 ah .or t65 t60 fun t67=>
 cz .u32 t67 fun t68=>
 C l0 [s1,(I 20)] h8 fun t70 h9=>
 Q (.tup [t68,t70]) h9) (
 ah .eql s26 (S ⟨#[67,56]⟩) fun t72=>
 ifB t72 (
 C tg [s1] h fun t75 h10=>
 am 0 t75 fun t76=>
 am 1 t75 fun t77=>
 am 2 t75 fun t78=>
 am 3 t75 fun t79=>
 ah .shl t76 (.lit (.int .u64 10)) fun t81=>
 ah .shl t77 (.lit (.int .u64 8)) fun t83=>
 ah .or t81 t83 fun t84=>
 ah .or t84 t78 fun t86=>
 cz .u32 t86 fun t87=>
 Q (.tup [t87,t79]) h10) (
 ah .eql s26 (S ⟨#[83,49,54]⟩) fun t90=>
 ifB t90 (
 ah .and s1 (I 65535) fun t92=>
 cz .u32 t92 fun t93=>
 C l0 [s1,(I 16)] h fun t95 h11=>
 Q (.tup [t93,t95]) h11) (
 ah .rem s1 (I 2) fun t97=>
 ah .neq t97 (I 0) fun t98=>
 ifB t98 (Q (.tup [(.lit (.int .u32 0)),(B false)]) h) (
 C rO [s0] h fun t102 h12=>
 C l0 [s1,t102] h12 fun t103 h13=>
 qUn .not t103 fun t104=>
 ifB t104 (
 Q (.tup [(.lit (.int .u32 0)),(B false)]) h13) (
 ah .eql s0 (S ⟨#[84,56]⟩) fun t107=>
 ifB t107 (
 ah .quo s1 (I 2) fun t109=>
 ah .and t109 (I 255) fun t110=>
 cz .u32 t110 fun t111=>
 Q (.tup [t111,(B true)]) h13) (
 C rO [s0] h13 fun t114 h14=>
 ah .shl (I 1) t114 fun t115=>
 ah .sub t115 (I 1) fun t116=>
 ah .and s1 t116 fun t117=>
 cz .u32 t117 fun t118=>
 Q (.tup [t118,(B true)]) h14)))))))
def dp (a0 a1:AV) (h:ab) (Q:QT):Prop:=
 C uF [a0] h fun t17 h0=>
 am 0 t17 fun t18=>
 am 1 t17 fun t19=>
 gR [(.lit (.int .u64 0)),(.lit (.int .u64 0)),(I 0),(I 0)] h0 fun t6 h1=>
 aw 4 t6 t18 h1 fun h2=>
 ifB t19 (
 aD 4 t6 h2 fun t21=>
 C ld [t21,a1] h2 fun t23 h3=>
 am 0 t23 fun t24=>
 am 1 t23 fun t25=>
 Q (.tup [t24,t25]) h3) (
 ah .eql a0 (S ⟨#[88]⟩) fun t28=>
 ifB t28 (
 yC t28 a0 a0 a1 h2 Q) (
 ah .eql a0 (S ⟨#[89]⟩) fun t29=>
 yC t29 a0 a0 a1 h2 Q))
theorem bN (a0 a1:AV) (h:ab) (Q:QT) (k:dp a0 a1 h Q):C bw [a0,a1] h Q:=
 okF (pl:=[]) Tryz.func87 Tryz.ntmps87 (by kernel_rfl) rfl (by kernel_rfl) k
def wZ (a0:AV) (h:ab) (Q:QT):Prop:=
 lP a0 h fun t1 h0=>
 ae 2 t1 fun t3=>
 ai t3 h0 fun t4=>
 C dX [t4] h0 fun t5 h1=>
 Q t5 h1
theorem zD (a0:AV) (h:ab) (Q:QT) (k:wZ a0 h Q):C je [a0] h Q:=
 okF (pl:=[]) Tryz.func86 Tryz.ntmps86 (by kernel_rfl) rfl (by kernel_rfl) k
def pS (a0:AV) (h:ab) (Q:QT):Prop:=
 lP a0 h fun t1 h0=>
 ae 2 t1 fun t3=>
 ai t3 h0 fun t4=>
 Q t4 h0
theorem uo (a0:AV) (h:ab) (Q:QT) (k:pS a0 h Q):C iI [a0] h Q:=
 okF (pl:=[]) Tryz.func92 Tryz.ntmps92 (by kernel_rfl) rfl (by kernel_rfl) k
def va (a0:AV) (h:ab) (Q:QT):Prop:=
 lP a0 h fun t1 h0=>
 ae 0 t1 fun t3=>
 ai t3 h0 fun t4=>
 Q t4 h0
theorem xH (a0:AV) (h:ab) (Q:QT) (k:va a0 h Q):C kY [a0] h Q:=
 okF (pl:=[]) Tryz.func93 Tryz.ntmps93 (by kernel_rfl) rfl (by kernel_rfl) k
def Dt (h:ab) (Q:QT):Prop:=
 au [(S ⟨#[]⟩),(.lit (.int .u32 0)),(S ⟨#[]⟩)] [(0,1,(S ⟨#[115,101,95,105,108,108,101,103,97,108]⟩)),(1,1,(.lit (.int .u32 0))),(2,1,(S ⟨#[]⟩))] fun t1=>
 au [(S ⟨#[]⟩),(.lit (.int .u32 0)),(S ⟨#[]⟩)] [(0,1,(S ⟨#[115,101,95,105,115,121,110,99]⟩)),(1,1,(.lit (.int .u32 1))),(2,1,(S ⟨#[]⟩))] fun t2=>
 au [(S ⟨#[]⟩),(.lit (.int .u32 0)),(S ⟨#[]⟩)] [(0,1,(S ⟨#[115,101,95,115,99]⟩)),(1,1,(.lit (.int .u32 2))),(2,1,(S ⟨#[]⟩))] fun t3=>
 au [(S ⟨#[]⟩),(.lit (.int .u32 0)),(S ⟨#[]⟩)] [(0,1,(S ⟨#[115,101,95,98,108,114]⟩)),(1,1,(.lit (.int .u32 4))),(2,1,(S ⟨#[]⟩))] fun t4=>
 au [(S ⟨#[]⟩),(.lit (.int .u32 0)),(S ⟨#[]⟩)] [(0,1,(S ⟨#[115,101,95,98,99,116,114]⟩)),(1,1,(.lit (.int .u32 6))),(2,1,(S ⟨#[]⟩))] fun t5=>
 au [(S ⟨#[]⟩),(.lit (.int .u32 0)),(S ⟨#[]⟩)] [(0,1,(S ⟨#[115,101,95,110,111,116]⟩)),(1,1,(.lit (.int .u32 32))),(2,1,(S ⟨#[88]⟩))] fun t6=>
 au [(S ⟨#[]⟩),(.lit (.int .u32 0)),(S ⟨#[]⟩)] [(0,1,(S ⟨#[115,101,95,110,101,103]⟩)),(1,1,(.lit (.int .u32 48))),(2,1,(S ⟨#[88]⟩))] fun t7=>
 au [(S ⟨#[]⟩),(.lit (.int .u32 0)),(S ⟨#[]⟩)] [(0,1,(S ⟨#[115,101,95,109,102,108,114]⟩)),(1,1,(.lit (.int .u32 128))),(2,1,(S ⟨#[88]⟩))] fun t8=>
 au [(S ⟨#[]⟩),(.lit (.int .u32 0)),(S ⟨#[]⟩)] [(0,1,(S ⟨#[115,101,95,109,116,108,114]⟩)),(1,1,(.lit (.int .u32 144))),(2,1,(S ⟨#[88]⟩))] fun t9=>
 au [(S ⟨#[]⟩),(.lit (.int .u32 0)),(S ⟨#[]⟩)] [(0,1,(S ⟨#[115,101,95,109,102,99,116,114]⟩)),(1,1,(.lit (.int .u32 160))),(2,1,(S ⟨#[88]⟩))] fun t10=>
 au [(S ⟨#[]⟩),(.lit (.int .u32 0)),(S ⟨#[]⟩)] [(0,1,(S ⟨#[115,101,95,109,116,99,116,114]⟩)),(1,1,(.lit (.int .u32 176))),(2,1,(S ⟨#[88]⟩))] fun t11=>
 au [(S ⟨#[]⟩),(.lit (.int .u32 0)),(S ⟨#[]⟩)] [(0,1,(S ⟨#[115,101,95,101,120,116,122,98]⟩)),(1,1,(.lit (.int .u32 192))),(2,1,(S ⟨#[88]⟩))] fun t12=>
 au [(S ⟨#[]⟩),(.lit (.int .u32 0)),(S ⟨#[]⟩)] [(0,1,(S ⟨#[115,101,95,101,120,116,115,98]⟩)),(1,1,(.lit (.int .u32 208))),(2,1,(S ⟨#[88]⟩))] fun t13=>
 au [(S ⟨#[]⟩),(.lit (.int .u32 0)),(S ⟨#[]⟩)] [(0,1,(S ⟨#[115,101,95,101,120,116,122,104]⟩)),(1,1,(.lit (.int .u32 224))),(2,1,(S ⟨#[88]⟩))] fun t14=>
 au [(S ⟨#[]⟩),(.lit (.int .u32 0)),(S ⟨#[]⟩)] [(0,1,(S ⟨#[115,101,95,101,120,116,115,104]⟩)),(1,1,(.lit (.int .u32 240))),(2,1,(S ⟨#[88]⟩))] fun t15=>
 au [(S ⟨#[]⟩),(.lit (.int .u32 0)),(S ⟨#[]⟩)] [(0,1,(S ⟨#[115,101,95,109,114]⟩)),(1,1,(.lit (.int .u32 256))),(2,1,(S ⟨#[88,32,89]⟩))] fun t16=>
 au [(S ⟨#[]⟩),(.lit (.int .u32 0)),(S ⟨#[]⟩)] [(0,1,(S ⟨#[115,101,95,97,100,100]⟩)),(1,1,(.lit (.int .u32 1024))),(2,1,(S ⟨#[88,32,89]⟩))] fun t17=>
 au [(S ⟨#[]⟩),(.lit (.int .u32 0)),(S ⟨#[]⟩)] [(0,1,(S ⟨#[115,101,95,109,117,108,108,119]⟩)),(1,1,(.lit (.int .u32 1280))),(2,1,(S ⟨#[88,32,89]⟩))] fun t18=>
 au [(S ⟨#[]⟩),(.lit (.int .u32 0)),(S ⟨#[]⟩)] [(0,1,(S ⟨#[115,101,95,115,117,98]⟩)),(1,1,(.lit (.int .u32 1536))),(2,1,(S ⟨#[88,32,89]⟩))] fun t19=>
 au [(S ⟨#[]⟩),(.lit (.int .u32 0)),(S ⟨#[]⟩)] [(0,1,(S ⟨#[115,101,95,99,109,112]⟩)),(1,1,(.lit (.int .u32 3072))),(2,1,(S ⟨#[88,32,89]⟩))] fun t20=>
 au [(S ⟨#[]⟩),(.lit (.int .u32 0)),(S ⟨#[]⟩)] [(0,1,(S ⟨#[115,101,95,99,109,112,108]⟩)),(1,1,(.lit (.int .u32 3328))),(2,1,(S ⟨#[88,32,89]⟩))] fun t21=>
 au [(S ⟨#[]⟩),(.lit (.int .u32 0)),(S ⟨#[]⟩)] [(0,1,(S ⟨#[115,101,95,97,100,100,105]⟩)),(1,1,(.lit (.int .u32 8192))),(2,1,(S ⟨#[88,32,79,53]⟩))] fun t22=>
 au [(S ⟨#[]⟩),(.lit (.int .u32 0)),(S ⟨#[]⟩)] [(0,1,(S ⟨#[115,101,95,99,109,112,108,105]⟩)),(1,1,(.lit (.int .u32 8704))),(2,1,(S ⟨#[88,32,79,53]⟩))] fun t23=>
 au [(S ⟨#[]⟩),(.lit (.int .u32 0)),(S ⟨#[]⟩)] [(0,1,(S ⟨#[115,101,95,115,117,98,105]⟩)),(1,1,(.lit (.int .u32 9216))),(2,1,(S ⟨#[88,32,79,53]⟩))] fun t24=>
 au [(S ⟨#[]⟩),(.lit (.int .u32 0)),(S ⟨#[]⟩)] [(0,1,(S ⟨#[115,101,95,99,109,112,105]⟩)),(1,1,(.lit (.int .u32 10752))),(2,1,(S ⟨#[88,32,85,53]⟩))] fun t25=>
 au [(S ⟨#[]⟩),(.lit (.int .u32 0)),(S ⟨#[]⟩)] [(0,1,(S ⟨#[115,101,95,111,114]⟩)),(1,1,(.lit (.int .u32 17408))),(2,1,(S ⟨#[88,32,89]⟩))] fun t26=>
 au [(S ⟨#[]⟩),(.lit (.int .u32 0)),(S ⟨#[]⟩)] [(0,1,(S ⟨#[115,101,95,97,110,100,99]⟩)),(1,1,(.lit (.int .u32 17664))),(2,1,(S ⟨#[88,32,89]⟩))] fun t27=>
 au [(S ⟨#[]⟩),(.lit (.int .u32 0)),(S ⟨#[]⟩)] [(0,1,(S ⟨#[115,101,95,97,110,100]⟩)),(1,1,(.lit (.int .u32 17920))),(2,1,(S ⟨#[88,32,89]⟩))] fun t28=>
 au [(S ⟨#[]⟩),(.lit (.int .u32 0)),(S ⟨#[]⟩)] [(0,1,(S ⟨#[115,101,95,108,105]⟩)),(1,1,(.lit (.int .u32 18432))),(2,1,(S ⟨#[88,32,85,55]⟩))] fun t29=>
 au [(S ⟨#[]⟩),(.lit (.int .u32 0)),(S ⟨#[]⟩)] [(0,1,(S ⟨#[115,101,95,98,99,108,114,105]⟩)),(1,1,(.lit (.int .u32 24576))),(2,1,(S ⟨#[88,32,85,53]⟩))] fun t30=>
 au [(S ⟨#[]⟩),(.lit (.int .u32 0)),(S ⟨#[]⟩)] [(0,1,(S ⟨#[115,101,95,98,115,101,116,105]⟩)),(1,1,(.lit (.int .u32 25600))),(2,1,(S ⟨#[88,32,85,53]⟩))] fun t31=>
 au [(S ⟨#[]⟩),(.lit (.int .u32 0)),(S ⟨#[]⟩)] [(0,1,(S ⟨#[115,101,95,98,116,115,116,105]⟩)),(1,1,(.lit (.int .u32 26112))),(2,1,(S ⟨#[88,32,85,53]⟩))] fun t32=>
 au [(S ⟨#[]⟩),(.lit (.int .u32 0)),(S ⟨#[]⟩)] [(0,1,(S ⟨#[115,101,95,115,114,119,105]⟩)),(1,1,(.lit (.int .u32 26624))),(2,1,(S ⟨#[88,32,85,53]⟩))] fun t33=>
 au [(S ⟨#[]⟩),(.lit (.int .u32 0)),(S ⟨#[]⟩)] [(0,1,(S ⟨#[115,101,95,115,108,119,105]⟩)),(1,1,(.lit (.int .u32 27648))),(2,1,(S ⟨#[88,32,85,53]⟩))] fun t34=>
 au [(S ⟨#[]⟩),(.lit (.int .u32 0)),(S ⟨#[]⟩)] [(0,1,(S ⟨#[115,101,95,108,98,122]⟩)),(1,1,(.lit (.int .u32 32768))),(2,1,(S ⟨#[89,32,77,49,32,88]⟩))] fun t35=>
 au [(S ⟨#[]⟩),(.lit (.int .u32 0)),(S ⟨#[]⟩)] [(0,1,(S ⟨#[115,101,95,115,116,98]⟩)),(1,1,(.lit (.int .u32 36864))),(2,1,(S ⟨#[89,32,77,49,32,88]⟩))] fun t36=>
 au [(S ⟨#[]⟩),(.lit (.int .u32 0)),(S ⟨#[]⟩)] [(0,1,(S ⟨#[115,101,95,108,104,122]⟩)),(1,1,(.lit (.int .u32 40960))),(2,1,(S ⟨#[89,32,77,50,32,88]⟩))] fun t37=>
 au [(S ⟨#[]⟩),(.lit (.int .u32 0)),(S ⟨#[]⟩)] [(0,1,(S ⟨#[115,101,95,115,116,104]⟩)),(1,1,(.lit (.int .u32 45056))),(2,1,(S ⟨#[89,32,77,50,32,88]⟩))] fun t38=>
 au [(S ⟨#[]⟩),(.lit (.int .u32 0)),(S ⟨#[]⟩)] [(0,1,(S ⟨#[115,101,95,108,119,122]⟩)),(1,1,(.lit (.int .u32 49152))),(2,1,(S ⟨#[89,32,77,52,32,88]⟩))] fun t39=>
 au [(S ⟨#[]⟩),(.lit (.int .u32 0)),(S ⟨#[]⟩)] [(0,1,(S ⟨#[115,101,95,115,116,119]⟩)),(1,1,(.lit (.int .u32 53248))),(2,1,(S ⟨#[89,32,77,52,32,88]⟩))] fun t40=>
 au [(S ⟨#[]⟩),(.lit (.int .u32 0)),(S ⟨#[]⟩)] [(0,1,(S ⟨#[115,101,95,98,99]⟩)),(1,1,(.lit (.int .u32 57344))),(2,1,(S ⟨#[79,49,32,73,50,32,84,56]⟩))] fun t41=>
 au [(S ⟨#[]⟩),(.lit (.int .u32 0)),(S ⟨#[]⟩)] [(0,1,(S ⟨#[115,101,95,98]⟩)),(1,1,(.lit (.int .u32 59392))),(2,1,(S ⟨#[84,56]⟩))] fun t42=>
 au [(S ⟨#[]⟩),(.lit (.int .u32 0)),(S ⟨#[]⟩)] [(0,1,(S ⟨#[115,101,95,98,108]⟩)),(1,1,(.lit (.int .u32 59648))),(2,1,(S ⟨#[84,56]⟩))] fun t43=>
 au [(S ⟨#[]⟩),(.lit (.int .u32 0)),(S ⟨#[]⟩)] [(0,1,(S ⟨#[101,95,97,100,100,49,54,105]⟩)),(1,1,(.lit (.int .u32 469762048))),(2,1,(S ⟨#[68,32,65,32,83,49,54]⟩))] fun t44=>
 au [(S ⟨#[]⟩),(.lit (.int .u32 0)),(S ⟨#[]⟩)] [(0,1,(S ⟨#[101,95,97,100,100,105]⟩)),(1,1,(.lit (.int .u32 402685952))),(2,1,(S ⟨#[68,32,65,32,67,56]⟩))] fun t45=>
 au [(S ⟨#[]⟩),(.lit (.int .u32 0)),(S ⟨#[]⟩)] [(0,1,(S ⟨#[101,95,97,110,100,105]⟩)),(1,1,(.lit (.int .u32 402702336))),(2,1,(S ⟨#[65,32,68,32,67,56]⟩))] fun t46=>
 au [(S ⟨#[]⟩),(.lit (.int .u32 0)),(S ⟨#[]⟩)] [(0,1,(S ⟨#[101,95,111,114,105]⟩)),(1,1,(.lit (.int .u32 402706432))),(2,1,(S ⟨#[65,32,68,32,67,56]⟩))] fun t47=>
 au [(S ⟨#[]⟩),(.lit (.int .u32 0)),(S ⟨#[]⟩)] [(0,1,(S ⟨#[101,95,120,111,114,105]⟩)),(1,1,(.lit (.int .u32 402710528))),(2,1,(S ⟨#[65,32,68,32,67,56]⟩))] fun t48=>
 au [(S ⟨#[]⟩),(.lit (.int .u32 0)),(S ⟨#[]⟩)] [(0,1,(S ⟨#[101,95,108,105]⟩)),(1,1,(.lit (.int .u32 1879048192))),(2,1,(S ⟨#[68,32,76,50,48]⟩))] fun t49=>
 au [(S ⟨#[]⟩),(.lit (.int .u32 0)),(S ⟨#[]⟩)] [(0,1,(S ⟨#[101,95,108,98,122]⟩)),(1,1,(.lit (.int .u32 805306368))),(2,1,(S ⟨#[68,32,83,49,54,32,65]⟩))] fun t50=>
 au [(S ⟨#[]⟩),(.lit (.int .u32 0)),(S ⟨#[]⟩)] [(0,1,(S ⟨#[101,95,115,116,98]⟩)),(1,1,(.lit (.int .u32 872415232))),(2,1,(S ⟨#[68,32,83,49,54,32,65]⟩))] fun t51=>
 au [(S ⟨#[]⟩),(.lit (.int .u32 0)),(S ⟨#[]⟩)] [(0,1,(S ⟨#[101,95,108,104,97]⟩)),(1,1,(.lit (.int .u32 939524096))),(2,1,(S ⟨#[68,32,83,49,54,32,65]⟩))] fun t52=>
 au [(S ⟨#[]⟩),(.lit (.int .u32 0)),(S ⟨#[]⟩)] [(0,1,(S ⟨#[101,95,108,119,122]⟩)),(1,1,(.lit (.int .u32 1342177280))),(2,1,(S ⟨#[68,32,83,49,54,32,65]⟩))] fun t53=>
 au [(S ⟨#[]⟩),(.lit (.int .u32 0)),(S ⟨#[]⟩)] [(0,1,(S ⟨#[101,95,115,116,119]⟩)),(1,1,(.lit (.int .u32 1409286144))),(2,1,(S ⟨#[68,32,83,49,54,32,65]⟩))] fun t54=>
 au [(S ⟨#[]⟩),(.lit (.int .u32 0)),(S ⟨#[]⟩)] [(0,1,(S ⟨#[101,95,108,104,122]⟩)),(1,1,(.lit (.int .u32 1476395008))),(2,1,(S ⟨#[68,32,83,49,54,32,65]⟩))] fun t55=>
 au [(S ⟨#[]⟩),(.lit (.int .u32 0)),(S ⟨#[]⟩)] [(0,1,(S ⟨#[101,95,115,116,104]⟩)),(1,1,(.lit (.int .u32 1543503872))),(2,1,(S ⟨#[68,32,83,49,54,32,65]⟩))] fun t56=>
 au [(S ⟨#[]⟩),(.lit (.int .u32 0)),(S ⟨#[]⟩)] [(0,1,(S ⟨#[101,95,98]⟩)),(1,1,(.lit (.int .u32 2013265920))),(2,1,(S ⟨#[84,50,52]⟩))] fun t57=>
 au [(S ⟨#[]⟩),(.lit (.int .u32 0)),(S ⟨#[]⟩)] [(0,1,(S ⟨#[101,95,98,108]⟩)),(1,1,(.lit (.int .u32 2013265921))),(2,1,(S ⟨#[84,50,52]⟩))] fun t58=>
 au [(S ⟨#[]⟩),(.lit (.int .u32 0)),(S ⟨#[]⟩)] [(0,1,(S ⟨#[101,95,98,99]⟩)),(1,1,(.lit (.int .u32 2046820352))),(2,1,(S ⟨#[79,50,32,73,52,32,84,49,53]⟩))] fun t59=>
 au [(S ⟨#[]⟩),(.lit (.int .u32 0)),(S ⟨#[]⟩)] [(0,1,(S ⟨#[101,95,98,99,108]⟩)),(1,1,(.lit (.int .u32 2046820353))),(2,1,(S ⟨#[79,50,32,73,52,32,84,49,53]⟩))] fun t60=>
 au [(S ⟨#[]⟩),(.lit (.int .u32 0)),(S ⟨#[]⟩)] [(0,1,(S ⟨#[97,100,100]⟩)),(1,1,(.lit (.int .u32 2080375316))),(2,1,(S ⟨#[68,32,65,32,66]⟩))] fun t61=>
 au [(S ⟨#[]⟩),(.lit (.int .u32 0)),(S ⟨#[]⟩)] [(0,1,(S ⟨#[115,117,98,102]⟩)),(1,1,(.lit (.int .u32 2080374864))),(2,1,(S ⟨#[68,32,65,32,66]⟩))] fun t62=>
 au [(S ⟨#[]⟩),(.lit (.int .u32 0)),(S ⟨#[]⟩)] [(0,1,(S ⟨#[109,117,108,108,119]⟩)),(1,1,(.lit (.int .u32 2080375254))),(2,1,(S ⟨#[68,32,65,32,66]⟩))] fun t63=>
 au [(S ⟨#[]⟩),(.lit (.int .u32 0)),(S ⟨#[]⟩)] [(0,1,(S ⟨#[97,110,100]⟩)),(1,1,(.lit (.int .u32 2080374840))),(2,1,(S ⟨#[65,32,68,32,66]⟩))] fun t64=>
 au [(S ⟨#[]⟩),(.lit (.int .u32 0)),(S ⟨#[]⟩)] [(0,1,(S ⟨#[111,114]⟩)),(1,1,(.lit (.int .u32 2080375672))),(2,1,(S ⟨#[65,32,68,32,66]⟩))] fun t65=>
 au [(S ⟨#[]⟩),(.lit (.int .u32 0)),(S ⟨#[]⟩)] [(0,1,(S ⟨#[120,111,114]⟩)),(1,1,(.lit (.int .u32 2080375416))),(2,1,(S ⟨#[65,32,68,32,66]⟩))] fun t66=>
 ap 66 3 [t1,t2,t3,t4,t5,t6,t7,t8,t9,t10,t11,t12,t13,t14,t15,t16,t17,t18,t19,t20,t21,t22,t23,t24,t25,t26,t27,t28,t29,t30,t31,t32,t33,t34,t35,t36,t37,t38,t39,t40,t41,t42,t43,t44,t45,t46,t47,t48,t49,t50,t51,t52,t53,t54,t55,t56,t57,t58,t59,t60,t61,t62,t63,t64,t65,t66] fun t67=>
 Q t67 h
theorem FZ (h:ab) (Q:QT) (k:Dt  h Q):C ib [] h Q:=
 okF (pl:=[]) Tryz.func119 Tryz.ntmps119 (by kernel_rfl) rfl (by kernel_rfl) k
def pT (a0:AV) (h:ab) (Q:QT):Prop:=
 ah .eql a0 (S ⟨#[84,56]⟩) fun t5=>
 ifB t5 (
 Q (I 9) h) (
 ah .eql a0 (S ⟨#[84,50,52]⟩) fun t7=>
 ifB t7 (
 Q (I 25) h) (
 Q (I 16) h))
theorem lN (a0:AV) (h:ab) (Q:QT) (k:pT a0 h Q):C rO [a0] h Q:=
 okF (pl:=[]) Tryz.func126 Tryz.ntmps126 (by kernel_rfl) rfl (by kernel_rfl) k
def fP (a0:AV) (h:ab) (Q:QT):Prop:=
 j7 .eql a0 fun t4=>
 ifB t4 (
 Q (.full 0 []) h) (
 ap 0 5 [] fun t5=>
 bL 5 64 t5 a0 h fun t7 h0=>
 Q t7 h0)
theorem ku (a0:AV) (h:ab) (Q:QT) (k:fP a0 h Q):C df [a0] h Q:=
 okF (pl:=[]) Tryz.func114 Tryz.ntmps114 (by kernel_rfl) rfl (by kernel_rfl) k
def fp (a0:AV) (h:ab) (Q:QT):Prop:=
 j7 .eql a0 fun t4=>
 ifB t4 (
 Q (.full 0 []) h) (
 ap 0 3 [] fun t5=>
 bL 3 32 t5 a0 h fun t7 h0=>
 Q t7 h0)
theorem jw (a0:AV) (h:ab) (Q:QT) (k:fp a0 h Q):C cP [a0] h Q:=
 okF (pl:=[]) Tryz.func19 Tryz.ntmps19 (by kernel_rfl) rfl (by kernel_rfl) k
def fq (a0:AV) (h:ab) (Q:QT):Prop:=
 j7 .eql a0 fun t4=>
 ifB t4 (
 Q (.full 0 []) h) (
 ap 0 6 [] fun t5=>
 bL 6 80 t5 a0 h fun t7 h0=>
 Q t7 h0)
theorem jz (a0:AV) (h:ab) (Q:QT) (k:fq a0 h Q):C cR [a0] h Q:=
 okF (pl:=[]) Tryz.func74 Tryz.ntmps74 (by kernel_rfl) rfl (by kernel_rfl) k
def jJ (a0:AV) (h:ab) (Q:QT):Prop:=
 j7 .eql a0 fun t4=>
 ifB t4 (
 Q (.full 0 []) h) (
 ap 0 1 [] fun t5=>
 bL 1 1 t5 a0 h fun t7 h0=>
 Q t7 h0)
theorem nc (a0:AV) (h:ab) (Q:QT) (k:jJ a0 h Q):C c6 [a0] h Q:=
 okF (pl:=[]) Tryz.func21 Tryz.ntmps21 (by kernel_rfl) rfl (by kernel_rfl) k
def kE (a0:AV) (h:ab) (Q:QT):Prop:=
 j7 .eql a0 fun t4=>
 ifB t4 (
 Q (.full 0 []) h) (
 ap 0 1 [] fun t5=>
 bL 1 8 t5 a0 h fun t7 h0=>
 Q t7 h0)
theorem oX (a0:AV) (h:ab) (Q:QT) (k:kE a0 h Q):C dI [a0] h Q:=
 okF (pl:=[]) Tryz.func23 Tryz.ntmps23 (by kernel_rfl) rfl (by kernel_rfl) k
def gF (a0:AV) (h:ab) (Q:QT):Prop:=
 j7 .eql a0 fun t4=>
 ifB t4 (
 Q (.full 0 []) h) (
 ap 0 1 [] fun t5=>
 bL 1 16 t5 a0 h fun t7 h0=>
 Q t7 h0)
theorem kZ (a0:AV) (h:ab) (Q:QT) (k:gF a0 h Q):C dC [a0] h Q:=
 okF (pl:=[]) Tryz.func95 Tryz.ntmps95 (by kernel_rfl) rfl (by kernel_rfl) k
def dM (a0 a1:AV) (h:ab) (Q:QT):Prop:=
 C cw [a0,a1] h fun t7 h0=>
 ah .geq t7 (I 0) fun t8=>
 Q t8 h0
theorem gp (a0 a1:AV) (h:ab) (Q:QT) (k:dM a0 a1 h Q):C bF [a0,a1] h Q:=
 okF (pl:=[]) Tryz.func76 Tryz.ntmps76 (by kernel_rfl) rfl (by kernel_rfl) k
def dw (a0 a1:AV) (h:ab) (Q:QT):Prop:=
 C ci [a0,a1] h fun t7 h0=>
 ah .geq t7 (I 0) fun t8=>
 Q t8 h0
theorem fO (a0 a1:AV) (h:ab) (Q:QT) (k:dw a0 a1 h Q):C bS [a0,a1] h Q:=
 okF (pl:=[]) Tryz.func117 Tryz.ntmps117 (by kernel_rfl) rfl (by kernel_rfl) k
def jd (a0 a1:AV) (h:ab) (Q:QT):Prop:=
 C fo [a0,a1] h fun t7 h0=>
 ah .geq t7 (I 0) fun t8=>
 Q t8 h0
theorem mO (a0 a1:AV) (h:ab) (Q:QT) (k:jd a0 a1 h Q):C be [a0,a1] h Q:=
 okF (pl:=[]) Tryz.func52 Tryz.ntmps52 (by kernel_rfl) rfl (by kernel_rfl) k
def fH (a0 a1:AV) (h:ab) (Q:QT):Prop:=
 C bC [a0,a1] h fun t7 h0=>
 ah .geq t7 (I 0) fun t8=>
 Q t8 h0
theorem jR (a0 a1:AV) (h:ab) (Q:QT) (k:fH a0 a1 h Q):C cX [a0,a1] h Q:=
 okF (pl:=[]) Tryz.func94 Tryz.ntmps94 (by kernel_rfl) rfl (by kernel_rfl) k
def dP (s7 s0 s1:AV) (Q:QT) (vs0:List AV) (h:ab) (next0:NT):Prop:=
 ah .lss (af vs0 1) s7 fun t9=>
 ifB t9 (
 ao 4 s0 (af vs0 1) fun t14=>
 aD 4 t14 h fun t15=>
 CV s1 [t15] h fun t16 h1=>
 ifB t16 (
 Q (af vs0 1) h1) (
 ah .add (af vs0 1) (I 1) fun t18=>
 next0 [(af vs0 0),t18] h1)) (
 Q (I (-1)) h)
def ef (a0 a1:AV) (h:ab) (Q:QT):Prop:=
 bh a0 fun t7=>
 bG [(I 0),(I 0)] h fun vs0 h next0=>dP t7 a0 a1 Q vs0 h next0
theorem gW (a0 a1:AV) (h:ab) (Q:QT) (k:ef a0 a1 h Q):C cw [a0,a1] h Q:=
 okF (pl:=[(3,[4,5,8,9,10,11,12,13,14,15,16,17,18],[4,8])]) Tryz.func115 Tryz.ntmps115 (by kernel_rfl) rfl (by kernel_rfl) k
def ec (s7 s0 s1:AV) (Q:QT) (vs0:List AV) (h:ab) (next0:NT):Prop:=
 ah .lss (af vs0 1) s7 fun t9=>
 ifB t9 (
 ao 2 s0 (af vs0 1) fun t14=>
 aD 2 t14 h fun t15=>
 CV s1 [t15] h fun t16 h1=>
 ifB t16 (
 Q (af vs0 1) h1) (
 ah .add (af vs0 1) (I 1) fun t18=>
 next0 [(af vs0 0),t18] h1)) (
 Q (I (-1)) h)
def eJ (a0 a1:AV) (h:ab) (Q:QT):Prop:=
 bh a0 fun t7=>
 bG [(I 0),(I 0)] h fun vs0 h next0=>ec t7 a0 a1 Q vs0 h next0
theorem iB (a0 a1:AV) (h:ab) (Q:QT) (k:eJ a0 a1 h Q):C cB [a0,a1] h Q:=
 okF (pl:=[(3,[4,5,8,9,10,11,12,13,14,15,16,17,18],[4,8])]) Tryz.func97 Tryz.ntmps97 (by kernel_rfl) rfl (by kernel_rfl) k
def du (s7 s0 s1:AV) (Q:QT) (vs0:List AV) (h:ab) (next0:NT):Prop:=
 ah .lss (af vs0 1) s7 fun t9=>
 ifB t9 (
 ao 1 s0 (af vs0 1) fun t14=>
 ai t14 h fun t15=>
 CV s1 [t15] h fun t16 h1=>
 ifB t16 (
 Q (af vs0 1) h1) (
 ah .add (af vs0 1) (I 1) fun t18=>
 next0 [(af vs0 0),t18] h1)) (
 Q (I (-1)) h)
def dV (a0 a1:AV) (h:ab) (Q:QT):Prop:=
 bh a0 fun t7=>
 bG [(I 0),(I 0)] h fun vs0 h next0=>du t7 a0 a1 Q vs0 h next0
theorem gy (a0 a1:AV) (h:ab) (Q:QT) (k:dV a0 a1 h Q):C ci [a0,a1] h Q:=
 okF (pl:=[(3,[4,5,8,9,10,11,12,13,14,15,16,17,18],[4,8])]) Tryz.func153 Tryz.ntmps153 (by kernel_rfl) rfl (by kernel_rfl) k
def eb (s7 s0 s1:AV) (Q:QT) (vs0:List AV) (h:ab) (next0:NT):Prop:=
 ah .lss (af vs0 1) s7 fun t9=>
 ifB t9 (
 ao 3 s0 (af vs0 1) fun t14=>
 aD 3 t14 h fun t15=>
 CV s1 [t15] h fun t16 h1=>
 ifB t16 (
 Q (af vs0 1) h1) (
 ah .add (af vs0 1) (I 1) fun t18=>
 next0 [(af vs0 0),t18] h1)) (
 Q (I (-1)) h)
def eK (a0 a1:AV) (h:ab) (Q:QT):Prop:=
 bh a0 fun t7=>
 bG [(I 0),(I 0)] h fun vs0 h next0=>eb t7 a0 a1 Q vs0 h next0
theorem iC (a0 a1:AV) (h:ab) (Q:QT) (k:eK a0 a1 h Q):C cD [a0,a1] h Q:=
 okF (pl:=[(3,[4,5,8,9,10,11,12,13,14,15,16,17,18],[4,8])]) Tryz.func173 Tryz.ntmps173 (by kernel_rfl) rfl (by kernel_rfl) k
def iU (s7 s0 s1:AV) (Q:QT) (vs0:List AV) (h:ab) (next0:NT):Prop:=
 ah .lss (af vs0 1) s7 fun t9=>
 ifB t9 (
 ao 1 s0 (af vs0 1) fun t14=>
 ai t14 h fun t15=>
 ah .eql s1 t15 fun t16=>
 ifB t16 (
 Q (af vs0 1) h) (
 ah .add (af vs0 1) (I 1) fun t18=>
 next0 [(af vs0 0),t18] h)) (
 Q (I (-1)) h)
def kJ (a0 a1:AV) (h:ab) (Q:QT):Prop:=
 bh a0 fun t7=>
 bG [(I 0),(I 0)] h fun vs0 h next0=>iU t7 a0 a1 Q vs0 h next0
theorem pc (a0 a1:AV) (h:ab) (Q:QT) (k:kJ a0 a1 h Q):C fo [a0,a1] h Q:=
 okF (pl:=[(3,[4,5,8,9,10,11,12,13,14,15,16,17,18],[4,8])]) Tryz.func75 Tryz.ntmps75 (by kernel_rfl) rfl (by kernel_rfl) k
def fL (s7 s0 s1:AV) (Q:QT) (vs0:List AV) (h:ab) (next0:NT):Prop:=
 ah .lss (af vs0 1) s7 fun t9=>
 ifB t9 (
 ao 1 s0 (af vs0 1) fun t14=>
 ai t14 h fun t15=>
 ah .eql s1 t15 fun t16=>
 ifB t16 (
 Q (af vs0 1) h) (
 ah .add (af vs0 1) (I 1) fun t18=>
 next0 [(af vs0 0),t18] h)) (
 Q (I (-1)) h)
def gP (a0 a1:AV) (h:ab) (Q:QT):Prop:=
 bh a0 fun t7=>
 bG [(I 0),(I 0)] h fun vs0 h next0=>fL t7 a0 a1 Q vs0 h next0
theorem kT (a0 a1:AV) (h:ab) (Q:QT) (k:gP a0 a1 h Q):C bC [a0,a1] h Q:=
 okF (pl:=[(3,[4,5,8,9,10,11,12,13,14,15,16,17,18],[4,8])]) Tryz.func128 Tryz.ntmps128 (by kernel_rfl) rfl (by kernel_rfl) k
def kf (s0:AV) (Q:QT) (vs0:List AV) (h:ab) (next0:NT):Prop:=
 bh s0 fun t14=>
 ah .lss (af vs0 1) t14 fun t15=>
 ifB t15 (
 ao 1 s0 (af vs0 1) fun t21=>
 ai t21 h fun t22=>
 x3 (af vs0 0) t22 fun t23=>
 ah .add (af vs0 1) (I 1) fun t17=>
 next0 [t23,t17] h) (
 Q (af vs0 0) h)
def jV (s0:AV) (h:ab) (Q:QT):Prop:=
 ao 1 s0 (I 0) fun t10=>
 ai t10 h fun t11=>
 bG [t11,(I 1)] h fun vs0 h next0=>kf s0 Q vs0 h next0
def mF (a0:AV) (h:ab) (Q:QT):Prop:=
 bh a0 fun t6=>
 ah .lss t6 (I 1) fun t7=>
 ifB t7 (
 tJ 9 (S ⟨#[115,108,105,99,101,115,46,77,97,120,58,32,101,109,112,116,121,32,108,105,115,116]⟩) fun t8=>
 False) (
 jV a0 h Q)
theorem qG (a0:AV) (h:ab) (Q:QT) (k:mF a0 h Q):C fW [a0] h Q:=
 okF (pl:=[(6,[3,4,12,13,14,15,16,17,18,19,20,21,22,23],[3,4])]) Tryz.func82 Tryz.ntmps82 (by kernel_rfl) rfl (by kernel_rfl) k
def ki (s0:AV) (Q:QT) (vs0:List AV) (h:ab) (next0:NT):Prop:=
 bh s0 fun t14=>
 ah .lss (af vs0 1) t14 fun t15=>
 ifB t15 (
 ao 1 s0 (af vs0 1) fun t21=>
 ai t21 h fun t22=>
 BE (af vs0 0) t22 fun t23=>
 ah .add (af vs0 1) (I 1) fun t17=>
 next0 [t23,t17] h) (
 Q (af vs0 0) h)
def jX (s0:AV) (h:ab) (Q:QT):Prop:=
 ao 1 s0 (I 0) fun t10=>
 ai t10 h fun t11=>
 bG [t11,(I 1)] h fun vs0 h next0=>ki s0 Q vs0 h next0
def mq (a0:AV) (h:ab) (Q:QT):Prop:=
 bh a0 fun t6=>
 ah .lss t6 (I 1) fun t7=>
 ifB t7 (
 tJ 9 (S ⟨#[115,108,105,99,101,115,46,77,105,110,58,32,101,109,112,116,121,32,108,105,115,116]⟩) fun t8=>
 False) (
 jX a0 h Q)
theorem qo (a0:AV) (h:ab) (Q:QT) (k:mq a0 h Q):C gb [a0] h Q:=
 okF (pl:=[(6,[3,4,12,13,14,15,16,17,18,19,20,21,22,23],[3,4])]) Tryz.func81 Tryz.ntmps81 (by kernel_rfl) rfl (by kernel_rfl) k
def pM (a0 a1:AV) (h:ab) (Q:QT):Prop:=
 C ig [a0,a1] h fun t7 h0=>
 ah .geq t7 (I 0) fun t8=>
 Q t8 h0
theorem ux (a0 a1:AV) (h:ab) (Q:QT) (k:pM a0 a1 h Q):C iz [a0,a1] h Q:=
 okF (pl:=[]) Tryz.func175 Tryz.ntmps175 (by kernel_rfl) rfl (by kernel_rfl) k
def xV (s1:AV) (Q:QT) (vs1:List AV) (h:ab) (next1:NT):Prop:=
 C ig [(af vs1 0),s1] h fun t22 h2=>
 ah .eql t22 (I (-1)) fun t24=>
 ifB t24 (
 Q (af vs1 2) h2) (
 ah .add (af vs1 2) (I 1) fun t27=>
 bZ s1 fun t31=>
 ah .add t22 t31 fun t32=>
 aM (af vs1 0) (some t32) none fun t33=>
 next1 [t33,(af vs1 1),t27] h2)
def uK (a0 a1:AV) (h:ab) (Q:QT):Prop:=
 bZ a1 fun t8=>
 ah .eql t8 (I 0) fun t9=>
 ifB t9 (
 C jS [a0] h fun t11 h0=>
 ah .add t11 (I 1) fun t12=>
 Q t12 h0) (
 bZ a1 fun t14=>
 ah .eql t14 (I 1) fun t15=>
 ifB t15 (
 aV a1 (I 0) fun t18=>
 OY .count [a0,t18] fun t19=>
 Q t19 h) (
 bG [a0,(I 0),(I 0)] h fun vs1 h next1=>xV a1 Q vs1 h next1))
theorem xd (a0 a1:AV) (h:ab) (Q:QT) (k:uK a0 a1 h Q):C pw [a0,a1] h Q:=
 okF (pl:=[(7,[0,4,5,6,20,21,22,23,24,25,26,27,28,29,30,31,32,33],[0,4,5])]) Tryz.func133 Tryz.ntmps133 (by kernel_rfl) rfl (by kernel_rfl) k
def oz (a0 a1:AV) (h:ab) (Q:QT):Prop:=
 C jc [a0,a1] h fun t7 h0=>
 Q t7 h0
theorem sY (a0 a1:AV) (h:ab) (Q:QT) (k:oz a0 a1 h Q):C eR [a0,a1] h Q:=
 okF (pl:=[]) Tryz.func214 Tryz.ntmps214 (by kernel_rfl) rfl (by kernel_rfl) k
def og (a0 a1:AV) (h:ab) (Q:QT):Prop:=
 C i6 [a0,a1] h fun t7 h0=>
 Q t7 h0
theorem so (a0 a1:AV) (h:ab) (Q:QT) (k:og a0 a1 h Q):C g7 [a0,a1] h Q:=
 okF (pl:=[]) Tryz.func106 Tryz.ntmps106 (by kernel_rfl) rfl (by kernel_rfl) k
def u5 (a0 a1:AV) (h:ab) (Q:QT):Prop:=
 C mG [a0,a1,(I 0),(I (-1))] h fun t7 h0=>
 Q t7 h0
theorem yg (a0 a1:AV) (h:ab) (Q:QT) (k:u5 a0 a1 h Q):C fG [a0,a1] h Q:=
 okF (pl:=[]) Tryz.func72 Tryz.ntmps72 (by kernel_rfl) rfl (by kernel_rfl) k
def xa (a0 a1:AV) (h:ab) (Q:QT):Prop:=
 ah .eql a0 (S ⟨#[]⟩) fun t8=>
 ifB t8 (Q a0 h) (
 ah .eql a1 (S ⟨#[]⟩) fun t11=>
 ifB t11 (
 Q a0 h) (
 bZ a1 fun t15=>
 ah .eql t15 (I 1) fun t16=>
 ifB t16 (aV a1 (I 0) fun t19=>
 ah .lss t19 (.lit (.int .u8 128)) fun t20=>
 ifB t20 (
 aV a1 (I 0) fun t24=>
 aV a1 (I 0) fun t27=>
 C pk [a0,t24] h fun t25 h0=>
 C dU [t25,t27] h0 fun t28 h1=>
 Q t28 h1) (
 C cn [a1] h fun t31 h2=>
 am 0 t31 fun t32=>
 am 1 t31 fun t33=>
 gR (List.replicate 256 (B false)) h2 fun t5 h3=>
 aw 256 t5 t32 h3 fun h4=>
 ifB t33 (
 C dr [a0,t5] h4 fun t36 h5=>
 C bX [t36,t5] h5 fun t37 h6=>
 Q t37 h6) (
 C gC [a0,a1] h4 fun t40 h7=>
 C c9 [t40,a1] h7 fun t42 h8=>
 Q t42 h8))) (
 C cn [a1] h fun t31 h9=>
 am 0 t31 fun t32=>
 am 1 t31 fun t33=>
 gR (List.replicate 256 (B false)) h9 fun t5 h10=>
 aw 256 t5 t32 h10 fun h11=>
 ifB t33 (
 C dr [a0,t5] h11 fun t36 h12=>
 C bX [t36,t5] h12 fun t37 h13=>
 Q t37 h13) (
 C gC [a0,a1] h11 fun t40 h14=>
 C c9 [t40,a1] h14 fun t42 h15=>
 Q t42 h15))))
theorem zm (a0 a1:AV) (h:ab) (Q:QT) (k:xa a0 a1 h Q):C eN [a0,a1] h Q:=
 okF (pl:=[(1000004,[0,1,2,4,5,3,6,7],[])]) Tryz.func111 Tryz.ntmps111 (by kernel_rfl) rfl (by kernel_rfl) k
def qe (a0 a1:AV) (h:ab) (Q:QT):Prop:=
 ah .eql a0 (S ⟨#[]⟩) fun t8=>
 ifB t8 (Q a0 h) (
 ah .eql a1 (S ⟨#[]⟩) fun t11=>
 ifB t11 (
 Q a0 h) (
 bZ a1 fun t15=>
 ah .eql t15 (I 1) fun t16=>
 ifB t16 (aV a1 (I 0) fun t19=>
 ah .lss t19 (.lit (.int .u8 128)) fun t20=>
 ifB t20 (
 aV a1 (I 0) fun t24=>
 C dU [a0,t24] h fun t25 h0=>
 Q t25 h0) (
 C cn [a1] h fun t28 h1=>
 am 0 t28 fun t29=>
 am 1 t28 fun t30=>
 gR (List.replicate 256 (B false)) h1 fun t5 h2=>
 aw 256 t5 t29 h2 fun h3=>
 ifB t30 (
 C bX [a0,t5] h3 fun t33 h4=>
 Q t33 h4) (
 C c9 [a0,a1] h3 fun t36 h5=>
 Q t36 h5))) (
 C cn [a1] h fun t28 h6=>
 am 0 t28 fun t29=>
 am 1 t28 fun t30=>
 gR (List.replicate 256 (B false)) h6 fun t5 h7=>
 aw 256 t5 t29 h7 fun h8=>
 ifB t30 (
 C bX [a0,t5] h8 fun t33 h9=>
 Q t33 h9) (
 C c9 [a0,a1] h8 fun t36 h10=>
 Q t36 h10))))
theorem uq (a0 a1:AV) (h:ab) (Q:QT) (k:qe a0 a1 h Q):C iK [a0,a1] h Q:=
 okF (pl:=[]) Tryz.func206 Tryz.ntmps206 (by kernel_rfl) rfl (by kernel_rfl) k
def ir (a0 a1:AV) (h:ab) (Q:QT):Prop:=
 aJ a0 fun t7=>
 dN 256 1 t7 a1 fun t8=>
 ai t8 h fun t9=>
 Q t9 h
theorem mn (a0 a1:AV) (h:ab) (Q:QT) (k:ir a0 a1 h Q):C cM [a0,a1] h Q:=
 okF (pl:=[]) Tryz.func170 Tryz.ntmps170 (by kernel_rfl) rfl (by kernel_rfl) k
def mp (s0 s10 s9:AV) (h:ab) (Q:QT):Prop:=
 ao 1 s9 s10 fun t61=>
 aw 1 t61 s0 h fun h5=>
 ah .add s10 (I 1) fun t64=>
 lC 1 s9 none (some t64) fun t65=>
 Q t65 h5
def fA (s0 s10 s9:AV) (h:ab) (Q:QT):Prop:=
 mp s0 s10 s9 h Q
def mr (s3 s9 s1 s2:AV) (Q:QT) (vs3:List AV) (h:ab) (next3:NT):Prop:=
 ah .lss (af vs3 1) s3 fun t36=>
 ifB t36 (
 C ig [(af vs3 0),s1] h fun t39 h4=>
 ah .lss t39 (I 0) fun t41=>
 ifB t41 (
 fA (af vs3 0) (af vs3 1) s9 h4 Q) (
 ah .add t39 s2 fun t47=>
 aM (af vs3 0) none (some t47) fun t48=>
 ao 1 s9 (af vs3 1) fun t49=>
 aw 1 t49 t48 h4 fun h8=>
 bZ s1 fun t53=>
 ah .add t39 t53 fun t54=>
 aM (af vs3 0) (some t54) none fun t55=>
 ah .add (af vs3 1) (I 1) fun t57=>
 next3 [t55,t57] h8)) (
 fA (af vs3 0) (af vs3 1) s9 h Q)
def ma (s3 s0 s1 s2:AV) (h:ab) (Q:QT):Prop:=
 bZ s0 fun t27=>
 ah .add t27 (I 1) fun t28=>
 BE s3 t28 fun t29=>
 jq 16 (S ⟨#[]⟩) t29 t29 h fun t31 h2=>
 ah .sub t29 (I 1) fun t33=>
 bG [s0,(I 0)] h2 fun vs3 h next3=>mr t33 t31 s1 s2 Q vs3 h next3
def pI (a0 a1 a2 a3:AV) (h:ab) (Q:QT):Prop:=
 ah .eql a3 (I 0) fun t13=>
 ifB t13 (
 Q (.full 0 []) h) (
 ah .eql a1 (S ⟨#[]⟩) fun t15=>
 ifB t15 (
 C vL [a0,a3] h fun t18 h0=>
 Q t18 h0) (
 ah .lss a3 (I 0) fun t20=>
 ifB t20 (
 C pw [a0,a1] h fun t23 h1=>
 ah .add t23 (I 1) fun t24=>
 ma t24 a0 a1 a2 h1 Q) (
 ma a3 a0 a1 a2 h Q)))
theorem uB (a0 a1 a2 a3:AV) (h:ab) (Q:QT) (k:pI a0 a1 a2 a3 h Q):C mG [a0,a1,a2,a3] h Q:=
 okF (pl:=[(12,[0,10,11,34,35,36,37,38,39,40,41,42,43,44,45,46,47,48,49,50,51,52,53,54,55,56,57],[0,10])]) Tryz.func105 Tryz.ntmps105 (by kernel_rfl) rfl (by kernel_rfl) k
def jO (s2 s0:AV) (Q:QT) (vs1:List AV) (h:ab) (next1:NT):Prop:=
 bZ s0 fun t8=>
 ah .lss (af vs1 1) t8 fun t9=>
 ifB t9 (
 aV s0 (af vs1 1) fun t14=>
 ah .geq t14 (.lit (.int .u8 128)) fun t16=>
 ifB t16 (
 aD 256 s2 h fun t17=>
 aw 256 s2 t17 h fun h2=>
 aD 256 s2 h2 fun r3=>
 Q (.tup [r3,(B false)]) h2) (
 dN 256 1 s2 t14 fun t19=>
 aw 1 t19 (B true) h fun h4=>
 ah .add (af vs1 1) (I 1) fun t11=>
 next1 [(af vs1 0),t11] h4)) (
 aD 256 s2 h fun t20=>
 aw 256 s2 t20 h fun h5=>
 aD 256 s2 h5 fun r6=>
 Q (.tup [r6,(B true)]) h5)
def l9 (a0:AV) (h:ab) (Q:QT):Prop:=
 gR (List.replicate 256 (B false)) h fun t2 h0=>
 bG [(B false),(I 0)] h0 fun vs1 h next1=>jO t2 a0 Q vs1 h next1
theorem pF (a0:AV) (h:ab) (Q:QT) (k:l9 a0 h Q):C cn [a0] h Q:=
 okF (pl:=[(3,[3,4,5,6,7,8,9,10,11,12,13,14,15,16,17,18,19],[3,4])]) Tryz.func139 Tryz.ntmps139 (by kernel_rfl) rfl (by kernel_rfl) k
def iY (s0:AV) (h:ab) (Q:QT):Prop:=
 Q s0 h
def fm (s0:AV) (h:ab) (Q:QT):Prop:=
 iY s0 h Q
def i5 (s1:AV) (Q:QT) (vs0:List AV) (h:ab) (next0:NT):Prop:=
 bZ (af vs0 0) fun t6=>
 ah .gtr t6 (I 0) fun t7=>
 ifB t7 (
 aV (af vs0 0) (I 0) fun t10=>
 C cM [s1,t10] h fun t11 h1=>
 qUn .not t11 fun t12=>
 ifB t12 (
 fm (af vs0 0) h1 Q) (
 aM (af vs0 0) (some (I 1)) none fun t14=>
 next0 [t14] h1)) (
 fm (af vs0 0) h Q)
def kK (a0 a1:AV) (h:ab) (Q:QT):Prop:=
 bG [a0] h fun vs0 h next0=>i5 a1 Q vs0 h next0
theorem oT (a0 a1:AV) (h:ab) (Q:QT) (k:kK a0 a1 h Q):C bX [a0,a1] h Q:=
 okF (pl:=[(2,[0,5,6,7,8,9,10,11,12,13,14],[0])]) Tryz.func140 Tryz.ntmps140 (by kernel_rfl) rfl (by kernel_rfl) k
def jP (s1:AV) (Q:QT) (vs0:List AV) (h:ab) (next0:NT):Prop:=
 bZ (af vs0 0) fun t6=>
 ah .gtr t6 (I 0) fun t7=>
 ifB t7 (aV (af vs0 0) (I 0) fun t10=>
 ah .eql t10 s1 fun t12=>
 ifB t12 (
 aM (af vs0 0) (some (I 1)) none fun t15=>
 next0 [t15] h) (
 Q (af vs0 0) h)) (
 Q (af vs0 0) h)
def l7 (a0 a1:AV) (h:ab) (Q:QT):Prop:=
 bG [a0] h fun vs0 h next0=>jP a1 Q vs0 h next0
theorem pY (a0 a1:AV) (h:ab) (Q:QT) (k:l7 a0 a1 h Q):C dU [a0,a1] h Q:=
 okF (pl:=[(2,[0,5,6,7,8,9,10,11,12,13,14,15],[0])]) Tryz.func137 Tryz.ntmps137 (by kernel_rfl) rfl (by kernel_rfl) k
def iu (s0:AV) (h:ab) (Q:QT):Prop:=
 Q s0 h
def eM (s0:AV) (h:ab) (Q:QT):Prop:=
 iu s0 h Q
def iy (s1:AV) (Q:QT) (vs0:List AV) (h:ab) (next0:NT):Prop:=
 bZ (af vs0 0) fun t6=>
 ah .gtr t6 (I 0) fun t7=>
 ifB t7 (
 bZ (af vs0 0) fun t11=>
 ah .sub t11 (I 1) fun t12=>
 aV (af vs0 0) t12 fun t13=>
 C cM [s1,t13] h fun t14 h1=>
 qUn .not t14 fun t15=>
 ifB t15 (
 eM (af vs0 0) h1 Q) (
 bZ (af vs0 0) fun t18=>
 ah .sub t18 (I 1) fun t19=>
 aM (af vs0 0) none (some t19) fun t20=>
 next0 [t20] h1)) (
 eM (af vs0 0) h Q)
def kj (a0 a1:AV) (h:ab) (Q:QT):Prop:=
 bG [a0] h fun vs0 h next0=>iy a1 Q vs0 h next0
theorem nP (a0 a1:AV) (h:ab) (Q:QT) (k:kj a0 a1 h Q):C dr [a0,a1] h Q:=
 okF (pl:=[(2,[0,5,6,7,8,9,10,11,12,13,14,15,16,17,18,19,20],[0])]) Tryz.func141 Tryz.ntmps141 (by kernel_rfl) rfl (by kernel_rfl) k
def kH (a0 a1:AV) (h:ab) (Q:QT):Prop:=
 bZ a0 fun t6=>
 bZ a1 fun t8=>
 ah .geq t6 t8 fun t9=>
 ifB t9 (bZ a1 fun t13=>
 aM a0 none (some t13) fun t14=>
 ah .eql t14 a1 fun t16=>
 Q t16 h) (
 Q (B false) h)
theorem pg (a0 a1:AV) (h:ab) (Q:QT) (k:kH a0 a1 h Q):C jc [a0,a1] h Q:=
 okF (pl:=[]) Tryz.func229 Tryz.ntmps229 (by kernel_rfl) rfl (by kernel_rfl) k
def kF (a0 a1:AV) (h:ab) (Q:QT):Prop:=
 OY .index [a0,a1] fun t7=>
 Q t7 h
theorem oP (a0 a1:AV) (h:ab) (Q:QT) (k:kF a0 a1 h Q):C i6 [a0,a1] h Q:=
 okF (pl:=[]) Tryz.func135 Tryz.ntmps135 (by kernel_rfl) rfl (by kernel_rfl) k
