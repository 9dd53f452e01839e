import Derived.Test.YtgkmmcdhhkllnaaGreatDoorF5A
set_option linter.all false
set_option autoImplicit true
set_option relaxedAutoImplicit true
set_option maxRecDepth 100000
namespace Go.Proofs.YtgkmmcdhhkllnaaGreatDoor.AL
noncomputable section
open Go.Proofs
variable [Tabs]
def vZ (s27 s26 s6:AV) (Q:QT) (vs2:List AV) (h:ae) (next2:NT):Prop:=
 ai .lss (aq vs2 1) s27 fun t29=>
 ifB t29 (
 an 1 s26 (aq vs2 1) fun t30=>
 af t30 h fun t31=>
 C kJ [s6,t31] h fun t35 h3=>
 bg 1 1 (aq vs2 0) t35 h3 fun t36 h4=>
 ai .add (aq vs2 1) (I 1) fun t37=>
 next2 [t36,t37] h4) (
 C dw [(aq vs2 0)] h fun t39 h5=>
 Q (.tup [t39,(.full 0 [])]) h5)
def Bs (a0 a1:AV) (h:ae) (Q:QT):Prop:=
 C wQ [a0,a1] h fun t11 h0=>
 aE t11 fun t13=>
 ab 3 t13 fun t14=>
 af t14 h0 fun t15=>
 aX t15 fun t16=>
 ai .gtr t16 (I 0) fun t17=>
 ifB t17 (
 aE t11 fun t19=>
 ab 3 t19 fun t20=>
 af t20 h0 fun t21=>
 C c9 [t21] h0 fun t22 h1=>
 Q (.tup [(.full 0 []),t22]) h1) (
 aE t11 fun t24=>
 ab 0 t24 fun t25=>
 af t25 h0 fun t26=>
 aX t26 fun t27=>
 cc [(.full 0 []),(I 0)] h0 fun vs2 h next2=>vZ t27 t26 t11 Q vs2 h next2)
theorem Fq (a0 a1:AV) (h:ae) (Q:QT) (k:Bs a0 a1 h Q):C pc [a0,a1] h Q:=
 okF (pl:=[(6,[4,8,28,29,30,31,32,33,34,35,36,37],[4,28])]) Tryz.func28 Tryz.ntmps28 (by kernel_rfl) rfl (by kernel_rfl) k
def i5 (s8 s16 s5:AV) (h:ae) (next6:NT):Prop:=
 ab 1 s5 fun t34=>
 af t34 h fun t35=>
 ao 1 1 [s8] fun t37=>
 bg 1 8 t35 t37 h fun t38 h7=>
 ab 1 s5 fun t39=>
 ak 1 t39 t38 h7 fun h8=>
 ai .add s16 (I 1) fun t40=>
 next6 [t40] h8
def qS (s15 s14 s5 s4 s0 s1:AV) (Q:QT) (vs6:List AV) (h:ae) (next6:NT):Prop:=
 ai .lss (aq vs6 0) s15 fun t17=>
 ifB t17 (
 an 1 s14 (aq vs6 0) fun t19=>
 af t19 h fun t20=>
 an 1 s1 (aq vs6 0) fun t23=>
 af t23 h fun t24=>
 bj t20 (I 0) fun t26=>
 ai .eql t26 (.lit (.int .u8 84)) fun t27=>
 ifB t27 (
 aE s0 fun t30=>
 ab 7 t30 fun t31=>
 af t31 h fun t32=>
 ai .sub t24 t32 fun t33=>
 i5 t33 (aq vs6 0) s5 h next6) (
 i5 t24 (aq vs6 0) s5 h next6)) (
 ap 2 s5 h fun t41=>
 ak 2 s4 t41 h fun h10=>
 ap 2 s4 h10 fun r11=>
 Q r11 h10)
def xG (a0 a1:AV) (h:ae) (Q:QT):Prop:=
 cu [(I 0),(.full 0 [])] h fun t4 h0=>
 C m9 [a0] h0 fun t10 h1=>
 cu [(I 0),(.full 0 [])] h1 fun t5 h2=>
 ak 2 t5 t10 h2 fun h3=>
 ab 0 t5 fun t11=>
 af t11 h3 fun t12=>
 C qc [t12] h3 fun t13 h4=>
 C ez [t13] h4 fun t14 h5=>
 aX t14 fun t15=>
 cc [(I 0)] h5 fun vs6 h next6=>qS t15 t14 t5 t4 a0 a1 Q vs6 h next6
theorem BE (a0 a1:AV) (h:ae) (Q:QT) (k:xG a0 a1 h Q):C jg [a0,a1] h Q:=
 okF (pl:=[(4,[6,7,8,16,17,18,19,20,21,22,23,24,25,26,27,28,29,30,31,32,33,34,35,36,37,38,39,40],[16])]) Tryz.func89 Tryz.ntmps89 (by kernel_rfl) rfl (by kernel_rfl) k
def yg (a0:AV) (h:ae) (Q:QT):Prop:=
 cu [(I 0),(.full 0 [])] h fun t2 h0=>
 aE a0 fun t5=>
 ab 1 t5 fun t6=>
 ab 2 t6 fun t7=>
 af t7 h0 fun t8=>
 ai .eql t8 (I 1) fun t9=>
 ifB t9 (
 aE a0 fun t11=>
 ab 1 t11 fun t12=>
 ab 3 t12 fun t13=>
 af t13 h0 fun t14=>
 ay [(I 0),(.full 0 [])] [(0,1,t14)] fun t15=>
 ak 2 t2 t15 h0 fun h1=>
 ap 2 t2 h1 fun r2=>
 Q r2 h1) (
 aE a0 fun t18=>
 ab 8 t18 fun t19=>
 af t19 h0 fun t20=>
 ifB t20 (
 aE a0 fun t22=>
 ab 1 t22 fun t23=>
 ab 3 t23 fun t24=>
 af t24 h0 fun t25=>
 C vo [t25] h0 fun t26 h3=>
 ay [(I 0),(.full 0 [])] [(0,1,t26)] fun t27=>
 ak 2 t2 t27 h3 fun h4=>
 ap 2 t2 h4 fun r5=>
 Q r5 h4) (
 aE a0 fun t29=>
 ab 1 t29 fun t30=>
 ab 3 t30 fun t31=>
 af t31 h0 fun t32=>
 C p8 [t32] h0 fun t33 h6=>
 ay [(I 0),(.full 0 [])] [(0,1,t33)] fun t34=>
 ak 2 t2 t34 h6 fun h7=>
 ap 2 t2 h7 fun r8=>
 Q r8 h7))
theorem Bx (a0:AV) (h:ae) (Q:QT) (k:yg a0 h Q):C m9 [a0] h Q:=
 okF (pl:=[]) Tryz.func124 Tryz.ntmps124 (by kernel_rfl) rfl (by kernel_rfl) k
def wM (a0:AV) (h:ae) (Q:QT):Prop:=
 cu [(I 0),(I 0),(S ⟨#[]⟩),(.full 0 [])] h fun t2 h0=>
 aE a0 fun t4=>
 ab 1 t4 fun t5=>
 ab 5 t5 fun t6=>
 af t6 h0 fun t7=>
 aE a0 fun t9=>
 ab 1 t9 fun t10=>
 ab 5 t10 fun t11=>
 af t11 h0 fun t12=>
 aX t12 fun t13=>
 ai .sub t13 (I 1) fun t14=>
 an 5 t7 t14 fun t15=>
 ab 1 t15 fun t16=>
 ap 4 t16 h0 fun t17=>
 ak 4 t2 t17 h0 fun h1=>
 ap 4 t2 h1 fun r2=>
 Q r2 h1
theorem Bn (a0:AV) (h:ae) (Q:QT) (k:wM a0 h Q):C bt [a0] h Q:=
 okF (pl:=[(1000001,[0,1,2,3,4,5,6,7,8,9,10,11,12,13,14,15],[])]) Tryz.func116 Tryz.ntmps116 (by kernel_rfl) rfl (by kernel_rfl) k
def x6 (s8 s16:AV) (h:ae) (next2:NT):Prop:=
 ai .add s16 (I 1) fun t33=>
 next2 [s8,t33] h
def sC (s8 s16:AV) (h:ae) (next2:NT):Prop:=
 x6 s8 s16 h next2
def E9 (s15 s14 s3 s1 s2:AV) (Q:QT) (vs2:List AV) (h:ae) (next2:NT):Prop:=
 ai .lss (aq vs2 1) s15 fun t17=>
 ifB t17 (
 an 1 s14 (aq vs2 1) fun t18=>
 af t18 h fun t19=>
 c6 .string true (I 0) s2 t19 h fun t23=>
 am 0 t23 fun t24=>
 am 1 t23 fun t25=>
 ifB t25 (
 ay [(S ⟨#[]⟩),(I 0)] [(0,1,t19),(1,1,t24)] fun t30=>
 ao 1 2 [t30] fun t31=>
 bg 2 24 (aq vs2 0) t31 h fun t32 h3=>
 sC t32 (aq vs2 1) h3 next2) (
 sC (aq vs2 0) (aq vs2 1) h next2)) (
 ap 4 s3 h fun t34=>
 C mX [t34,s1,(aq vs2 0)] h fun t37 h6=>
 am 0 t37 fun t38=>
 am 1 t37 fun t39=>
 Q (.tup [t38,t39]) h6)
def Qf (a0 a1 a2:AV) (h:ae) (Q:QT):Prop:=
 fe a0 h fun t3 h0=>
 ap 4 t3 h0 fun t13=>
 C lf [t13] h0 fun t14 h1=>
 aX t14 fun t15=>
 cc [(.full 0 []),(I 0)] h1 fun vs2 h next2=>E9 t15 t14 t3 a1 a2 Q vs2 h next2
theorem N8 (a0 a1 a2:AV) (h:ae) (Q:QT) (k:Qf a0 a1 a2 h Q):C gg [a0,a1,a2] h Q:=
 okF (pl:=[(4,[8,10,11,12,16,17,18,19,20,21,22,23,24,25,26,27,28,29,30,31,32,33],[8,16])]) Tryz.func115 Tryz.ntmps115 (by kernel_rfl) rfl (by kernel_rfl) k
def KO (a0:AV) (h:ae) (Q:QT):Prop:=
 ao 3 1 [(S ⟨#[101,95,98]⟩),(S ⟨#[101,95,98,108]⟩),(S ⟨#[101,95,98,99]⟩)] fun t3=>
 an 1 t3 a0 fun t5=>
 af t5 h fun t6=>
 C yM [t6] h fun t7 h0=>
 Q t7 h0
theorem Nc (a0:AV) (h:ae) (Q:QT) (k:KO a0 h Q):C vo [a0] h Q:=
 okF (pl:=[]) Tryz.func170 Tryz.ntmps170 (by kernel_rfl) rfl (by kernel_rfl) k
def Po (a0:AV) (h:ae) (Q:QT):Prop:=
 fe a0 h fun t1 h0=>
 ab 0 t1 fun t3=>
 af t3 h0 fun t4=>
 ai .eql t4 (I 3) fun t5=>
 ifB t5 (Q (B true) h0) (
 ab 3 t1 fun t7=>
 af t7 h0 fun t8=>
 C bL [t8,(.fn (.func eY) [] [])] h0 fun t9 h1=>
 Q t9 h1)
theorem Qz (a0:AV) (h:ae) (Q:QT) (k:Po a0 h Q):C eY [a0] h Q:=
 okF (pl:=[]) Tryz.func118 Tryz.ntmps118 (by kernel_rfl) rfl (by kernel_rfl) k
def lX (s5:AV) (h:ae) (Q:QT):Prop:=
 Q s5 h
def jw (s5:AV) (h:ae) (Q:QT):Prop:=
 lX s5 h Q
def EQ (s20 s19 s5:AV) (Q:QT) (vs1:List AV) (h:ae) (next1:NT):Prop:=
 ai .lss (aq vs1 0) s20 fun t22=>
 ifB t22 (
 an 1 s19 (aq vs1 0) fun t23=>
 af t23 h fun t24=>
 aE s5 fun t26=>
 ab 3 t26 fun t27=>
 af t27 h fun t28=>
 aX t28 fun t29=>
 ai .gtr t29 (I 0) fun t30=>
 ifB t30 (
 jw s5 h Q) (
 CV t24 [] h fun t32 h4=>
 ai .add (aq vs1 0) (I 1) fun t33=>
 next1 [t33] h4)) (
 jw s5 h Q)
def Qs (a0 a1:AV) (h:ae) (Q:QT):Prop:=
 C yl [a0,a1] h fun t10 h0=>
 ao 4 1 [(.fn (.func cq) [t10] []),(.fn (.func co) [t10] []),(.fn (.func cf) [t10] []),(.fn (.func cp) [t10] [])] fun t19=>
 aX t19 fun t20=>
 cc [(I 0)] h0 fun vs1 h next1=>EQ t20 t19 t10 Q vs1 h next1
theorem NK (a0 a1:AV) (h:ae) (Q:QT) (k:Qs a0 a1 h Q):C wQ [a0,a1] h Q:=
 okF (pl:=[(4,[7,21,22,23,24,25,26,27,28,29,30,31,32,33],[21])]) Tryz.func46 Tryz.ntmps46 (by kernel_rfl) rfl (by kernel_rfl) k
def ZB (a0:AV) (h:ae) (Q:QT):Prop:=
 C rv [a0] h fun t7 h0=>
 am 0 t7 fun t8=>
 am 1 t7 fun t9=>
 Q t8 h0
theorem Vl (a0:AV) (h:ae) (Q:QT) (k:ZB a0 h Q):C yM [a0] h Q:=
 okF (pl:=[]) Tryz.func208 Tryz.ntmps208 (by kernel_rfl) rfl (by kernel_rfl) k
def BW (s68 s67 s9 s36 s5:AV) (next6:NT) (vs16:List AV) (h:ae) (next16:NT):Prop:=
 ai .lss (aq vs16 0) s68 fun t70=>
 ifB t70 (
 an 1 s67 (aq vs16 0) fun t71=>
 af t71 h fun t72=>
 ab 0 s9 fun t74=>
 af t74 h fun t75=>
 C aR [s5,t75,t72,(I 1)] h fun t77 h17=>
 ai .add (aq vs16 0) (I 1) fun t78=>
 next16 [t78] h17) (
 ai .add s36 (I 1) fun t79=>
 next6 [t79] h)
def Bq (s47 s46 s11 s9 s36 s5:AV) (next6:NT) (vs10:List AV) (h:ae) (next10:NT):Prop:=
 ai .lss (aq vs10 0) s47 fun t49=>
 ifB t49 (
 an 6 s46 (aq vs10 0) fun t50=>
 ap 6 t50 h fun t51=>
 cu [(I 0),(S ⟨#[]⟩),(I 0),(I 0),(S ⟨#[]⟩),(.full 0 [])] h fun t13 h11=>
 ak 6 t13 t51 h11 fun h12=>
 aE s5 fun t54=>
 ab 0 t54 fun t55=>
 af t55 h12 fun t56=>
 ab 0 s9 fun t57=>
 af t57 h12 fun t58=>
 ap 6 t13 h12 fun t59=>
 ay [(S ⟨#[]⟩),(I 0),(S ⟨#[]⟩),(I 0),(I 0),(S ⟨#[]⟩),(.full 0 []),(I 0),(B false)] [(0,1,t58),(1,6,t59)] fun t60=>
 fe t60 h12 fun t61 h13=>
 (af t55 h13 fun _t=>
 _t=t56)∧
 ao 1 1 [t61] fun t62=>
 bg 1 8 t56 t62 h13 fun t63 h14=>
 aE s5 fun t64=>
 ab 0 t64 fun t65=>
 ak 1 t65 t63 h14 fun h15=>
 ai .add (aq vs10 0) (I 1) fun t66=>
 next10 [t66] h15) (
 aX s11 fun t68=>
 cc [(I 0)] h fun vs16 h next16=>BW t68 s11 s9 s36 s5 next6 vs16 h next16)
def Cx (s35 s34 s5:AV) (Q:QT) (vs6:List AV) (h:ae) (next6:NT):Prop:=
 ai .lss (aq vs6 0) s35 fun t37=>
 ifB t37 (
 an 2 s34 (aq vs6 0) fun t38=>
 ap 2 t38 h fun t39=>
 cu [(S ⟨#[]⟩),(S ⟨#[]⟩)] h fun t9 h7=>
 ak 2 t9 t39 h7 fun h8=>
 ab 1 t9 fun t41=>
 af t41 h8 fun t42=>
 C tu [t42] h8 fun t43 h9=>
 am 0 t43 fun t44=>
 am 1 t43 fun t45=>
 aX t44 fun t47=>
 cc [(I 0)] h9 fun vs10 h next10=>Bq t47 t44 t45 t9 (aq vs6 0) s5 next6 vs10 h next10) (
 Q s5 h)
def Cw (s20 s19 s5 s0:AV) (Q:QT) (vs2:List AV) (h:ae) (next2:NT):Prop:=
 ai .lss (aq vs2 0) s20 fun t22=>
 ifB t22 (
 an 2 s19 (aq vs2 0) fun t23=>
 ap 2 t23 h fun t24=>
 cu [(S ⟨#[]⟩),(I 0)] h fun t7 h3=>
 ak 2 t7 t24 h3 fun h4=>
 aE s5 fun t26=>
 ab 1 t26 fun t27=>
 af t27 h4 fun t28=>
 ab 0 t7 fun t29=>
 af t29 h4 fun t30=>
 ab 1 t7 fun t31=>
 af t31 h4 fun t32=>
 bV .string t28 t30 t32 h4 fun h5=>
 ai .add (aq vs2 0) (I 1) fun t33=>
 next2 [t33] h5) (
 aX s0 fun t35=>
 cc [(I 0)] h fun vs6 h next6=>Cx t35 s0 s5 Q vs6 h next6)
def N9 (a0 a1:AV) (h:ae) (Q:QT):Prop:=
 mM h fun t16 h0=>
 ay [(.full 0 []),(.lit (.map none)),(.lit (.map none)),(.full 0 []),(I 0)] [(1,1,t16)] fun t17=>
 fe t17 h0 fun t18 h1=>
 aX a1 fun t20=>
 cc [(I 0)] h1 fun vs2 h next2=>Cw t20 a1 t18 a0 Q vs2 h next2
theorem Oy (a0 a1:AV) (h:ae) (Q:QT) (k:N9 a0 a1 h Q):C yl [a0,a1] h Q:=
 okF (pl:=[(4,[7,21,22,23,24,25,26,27,28,29,30,31,32,33],[21]),(1000005,[0,1,2,3,4,5,6,7,8],[]),(9,[9,10,11,13,15,36,37,38,39,40,41,42,43,44,45,46,47,48,49,50,51,52,53,54,55,56,57,58,59,60,61,62,63,64,65,66,67,68,69,70,71,72,73,74,75,76,77,78,79],[36]),(13,[13,48,49,50,51,52,53,54,55,56,57,58,59,60,61,62,63,64,65,66],[48]),(1000014,[0,1,2,3,4,5,6,7,8,9,10,11,12,13,14],[]),(18,[15,69,70,71,72,73,74,75,76,77,78],[69])]) Tryz.func82 Tryz.ntmps82 (by kernel_rfl) rfl (by kernel_rfl) k
def KN (a0:AV) (h:ae) (Q:QT):Prop:=
 ao 3 1 [(S ⟨#[115,101,95,98]⟩),(S ⟨#[115,101,95,98,108]⟩),(S ⟨#[115,101,95,98,99]⟩)] fun t3=>
 an 1 t3 a0 fun t5=>
 af t5 h fun t6=>
 C yM [t6] h fun t7 h0=>
 Q t7 h0
theorem MA (a0:AV) (h:ae) (Q:QT) (k:KN a0 h Q):C p8 [a0] h Q:=
 okF (pl:=[]) Tryz.func159 Tryz.ntmps159 (by kernel_rfl) rfl (by kernel_rfl) k
def pN (s11 s41:AV) (next3:NT) (vs4:List AV) (h:ae) (next4:NT):Prop:=
 ai .geq (aq vs4 1) (I 0) fun t54=>
 ifB t54 (
 ai .shr s11 (aq vs4 1) fun t60=>
 ck .u8 t60 fun t61=>
 ao 1 1 [t61] fun t62=>
 bg 1 1 (aq vs4 0) t62 h fun t63 h5=>
 ai .sub (aq vs4 1) (I 8) fun t56=>
 next4 [t63,t56] h5) (
 ai .add s41 (I 1) fun t64=>
 next3 [(aq vs4 0),t64] h)
def pD (s40 s39 s1:AV) (Q:QT) (vs3:List AV) (h:ae) (next3:NT):Prop:=
 ai .lss (aq vs3 1) s40 fun t42=>
 ifB t42 (
 an 1 s39 (aq vs3 1) fun t43=>
 af t43 h fun t44=>
 aE s1 fun t46=>
 ab 1 t46 fun t47=>
 ab 2 t47 fun t48=>
 af t48 h fun t49=>
 ai .sub t49 (I 3) fun t50=>
 ai .shl (I 8) t50 fun t51=>
 ai .sub t51 (I 8) fun t52=>
 cc [(aq vs3 0),t52] h fun vs4 h next4=>pN t44 (aq vs3 1) next3 vs4 h next4) (
 Q (aq vs3 0) h)
def eb (s35 s23 s5 s0 s1:AV) (h:ae) (Q:QT):Prop:=
 ifB s35 (
 aX s5 fun t40=>
 cc [(.full 0 []),(I 0)] h fun vs3 h next3=>pD t40 s5 s1 Q vs3 h next3) (
 ai .eql s23 (I 6) fun t67=>
 ifB t67 (
 aE s1 fun t69=>
 ab 1 t69 fun t70=>
 ab 4 t70 fun t71=>
 af t71 h fun t72=>
 qq t72 h fun t73 h8=>
 Q t73 h8) (
 C iu [s0,s1] h fun t76 h9=>
 lD 1 (.lit (.int .u8 0)) t76 t76 h9 fun t77 h10=>
 Q t77 h10))
def fX (s24 s23 s5 s0 s1:AV) (h:ae) (Q:QT):Prop:=
 ifB s24 (
 C jg [s1,s5] h fun t30 h1=>
 C sS [t30] h1 fun t31 h2=>
 am 0 t31 fun t32=>
 am 1 t31 fun t33=>
 Q t32 h2) (
 ai .eql s23 (I 3) fun t36=>
 ifB t36 (
 eb t36 s23 s5 s0 s1 h Q) (
 ai .eql s23 (I 4) fun t37=>
 ifB t37 (
 eb t37 s23 s5 s0 s1 h Q) (
 ai .eql s23 (I 5) fun t38=>
 eb t38 s23 s5 s0 s1 h Q)))
def uf (a0 a1:AV) (h:ae) (Q:QT):Prop:=
 C fT [a0,a1] h fun t16 h0=>
 am 0 t16 fun t17=>
 am 1 t16 fun t18=>
 aE a1 fun t20=>
 ab 1 t20 fun t21=>
 ab 2 t21 fun t22=>
 af t22 h0 fun t23=>
 ai .eql t23 (I 1) fun t25=>
 ifB t25 (
 fX t25 t23 t17 a0 a1 h0 Q) (
 ai .eql t23 (I 2) fun t26=>
 fX t26 t23 t17 a0 a1 h0 Q)
theorem y4 (a0 a1:AV) (h:ae) (Q:QT) (k:uf a0 a1 h Q):C kJ [a0,a1] h Q:=
 okF (pl:=[(13,[9,11,12,41,42,43,44,45,46,47,48,49,50,51,52,53,54,55,56,57,58,59,60,61,62,63,64],[9,41]),(16,[9,12,53,54,55,56,57,58,59,60,61,62,63],[9,12])]) Tryz.func48 Tryz.ntmps48 (by kernel_rfl) rfl (by kernel_rfl) k
def kT (s10:AV) (h:ae) (next0:NT):Prop:=
 ai .add s10 (I 1) fun t31=>
 next0 [t31] h
def gK (s10:AV) (h:ae) (next0:NT):Prop:=
 kT s10 h next0
def pH (s9 s8 s0:AV) (Q:QT) (vs0:List AV) (h:ae) (next0:NT):Prop:=
 ai .lss (aq vs0 0) s9 fun t11=>
 ifB t11 (
 an 1 s8 (aq vs0 0) fun t12=>
 af t12 h fun t13=>
 C kI [s0,t13] h fun t16 h1=>
 ai .neq t16 (I 0) fun t18=>
 ifB t18 (
 aE t13 fun t21=>
 ab 0 t21 fun t22=>
 af t22 h1 fun t23=>
 aE t13 fun t25=>
 ab 1 t25 fun t26=>
 ab 0 t26 fun t27=>
 af t27 h1 fun t28=>
 C aR [s0,t23,t28,t16] h1 fun t30 h2=>
 gK (aq vs0 0) h2 next0) (
 gK (aq vs0 0) h1 next0)) (
 Q (.tup []) h)
def tK (a0:AV) (h:ae) (Q:QT):Prop:=
 aE a0 fun t6=>
 ab 0 t6 fun t7=>
 af t7 h fun t8=>
 aX t8 fun t9=>
 cc [(I 0)] h fun vs0 h next0=>pH t9 t8 a0 Q vs0 h next0
theorem zn (a0:AV) (h:ae) (Q:QT) (k:tK a0 h Q):C cp [a0] h Q:=
 okF (pl:=[(2,[3,4,10,11,12,13,14,15,16,17,18,19,20,21,22,23,24,25,26,27,28,29,30,31],[10]),(1000005,[0,1,2,3,4,5,6,7,8,9,10,11],[])]) Tryz.func86 Tryz.ntmps86 (by kernel_rfl) rfl (by kernel_rfl) k
def mT (s11 s10 s0:AV) (Q:QT) (vs2:List AV) (h:ae) (next2:NT):Prop:=
 ai .lss (aq vs2 1) s11 fun t13=>
 ifB t13 (
 an 1 s10 (aq vs2 1) fun t14=>
 af t14 h fun t15=>
 cu [(S ⟨#[]⟩)] h fun t6 h3=>
 ak 1 t6 t15 h3 fun h4=>
 aE s0 fun t18=>
 ab 2 t18 fun t19=>
 af t19 h4 fun t20=>
 af t6 h4 fun t21=>
 c6 .string true (I 0) t20 t21 h4 fun t22=>
 am 0 t22 fun t23=>
 am 1 t22 fun t24=>
 qUn .not t24 fun t26=>
 ifB t26 (aE s0 fun t29=>
 ab 0 t29 fun t30=>
 af t30 h4 fun t31=>
 C cd [t31,(.fn (.func gz) [] [t6])] h4 fun t33 h5=>
 qUn .not t33 fun t34=>
 ifB t34 (
 Q (B false) h5) (
 ai .add (aq vs2 1) (I 1) fun t36=>
 next2 [(aq vs2 0),t36] h5)) (
 ai .add (aq vs2 1) (I 1) fun t36=>
 next2 [(aq vs2 0),t36] h4)) (
 Q (B true) h)
def pL (a0 a1:AV) (h:ae) (Q:QT):Prop:=
 fe a1 h fun t3 h0=>
 ap 4 t3 h0 fun t9=>
 C lf [t9] h0 fun t10 h1=>
 aX t10 fun t11=>
 cc [(B false),(I 0)] h1 fun vs2 h next2=>mT t11 t10 a0 Q vs2 h next2
theorem uT (a0 a1:AV) (h:ae) (Q:QT) (k:pL a0 a1 h Q):C iq [a0,a1] h Q:=
 okF (pl:=[(3,[4,6,7,8,12,13,14,15,16,17,18,19,20,21,22,23,24,25,26,27,28,29,30,31,32,33,34,35,36],[4,12]),(1000004,[0,1,2,3,4,5,6,7,8,9,10],[])]) Tryz.func160 Tryz.ntmps160 (by kernel_rfl) rfl (by kernel_rfl) k
def nr (a0 a1:AV) (h:ae) (Q:QT):Prop:=
 aE a0 fun t5=>
 ab 1 t5 fun t6=>
 ab 2 t6 fun t7=>
 af t7 h fun t8=>
 ai .eql t8 (I 9) fun t9=>
 ifB t9 (aE a0 fun t12=>
 ab 1 t12 fun t13=>
 ab 4 t13 fun t14=>
 af t14 h fun t15=>
 af a1 h fun t16=>
 ai .eql t15 t16 fun t17=>
 Q t17 h) (
 Q (B false) h)
theorem sX (a0 a1:AV) (h:ae) (Q:QT) (k:nr a0 a1 h Q):C gz [a0,a1] h Q:=
 okF (pl:=[(1000001,[0,1,2,3,4,5,6,7,8,9,10,11,12,13,14,15],[])]) Tryz.func210 Tryz.ntmps210 (by kernel_rfl) rfl (by kernel_rfl) k
def lI (s3 s15:AV) (h:ae) (next0:NT):Prop:=
 ai .add s15 (I 1) fun t64=>
 next0 [s3,t64] h
def cM (s3 s15:AV) (h:ae) (next0:NT):Prop:=
 lI s3 s15 h next0
def pw (s66 s65 s3:AV) (Q:QT) (vs8:List AV) (h:ae) (next8:NT):Prop:=
 ai .lss (aq vs8 0) s66 fun t68=>
 ifB t68 (
 an 1 s65 (aq vs8 0) fun t69=>
 af t69 h fun t70=>
 aE t70 fun t72=>
 ab 8 t72 fun t73=>
 ak 1 t73 (B true) h fun h9=>
 ai .add (aq vs8 0) (I 1) fun t74=>
 next8 [t74] h9) (
 aX s3 fun t76=>
 ai .gtr t76 (I 0) fun t77=>
 Q t77 h)
def pG (s14 s13 s0:AV) (Q:QT) (vs0:List AV) (h:ae) (next0:NT):Prop:=
 ai .lss (aq vs0 1) s14 fun t16=>
 ifB t16 (
 an 1 s13 (aq vs0 1) fun t17=>
 af t17 h fun t18=>
 aE t18 fun t20=>
 ab 1 t20 fun t21=>
 ab 2 t21 fun t22=>
 af t22 h fun t23=>
 ai .neq t23 (I 2) fun t24=>
 ifB t24 (cM (aq vs0 0) (aq vs0 1) h next0) (
 aE t18 fun t27=>
 ab 8 t27 fun t28=>
 af t28 h fun t29=>
 ifB t29 (
 cM (aq vs0 0) (aq vs0 1) h next0) (
 aE t18 fun t35=>
 ab 7 t35 fun t36=>
 af t36 h fun t37=>
 aE s0 fun t39=>
 ab 2 t39 fun t40=>
 af t40 h fun t41=>
 C bt [t18] h fun t33 h3=>
 (af t40 h3 fun _t=>
 _t=t41)∧
 (af t36 h3 fun _t=>
 _t=t37)∧
 C gg [t33,t37,t41] h3 fun t42 h4=>
 am 0 t42 fun t43=>
 am 1 t42 fun t44=>
 ai .eql t44 (I 0) fun t46=>
 ifB t46 (aE t18 fun t51=>
 ab 7 t51 fun t52=>
 af t52 h4 fun t53=>
 ai .sub t43 t53 fun t54=>
 ao 1 1 [t54] fun t55=>
 C p8 [(I 0)] h4 fun t48 h5=>
 (af t52 h5 fun _t=>
 _t=t53)∧
 ay [(I 0),(.full 0 [])] [(0,1,t48),(1,1,t55)] fun t56=>
 C qo [t56] h5 fun t57 h6=>
 qUn .not t57 fun t58=>
 ifB t58 (
 ao 1 1 [t18] fun t62=>
 bg 1 8 (aq vs0 0) t62 h6 fun t63 h7=>
 cM t63 (aq vs0 1) h7 next0) (
 cM (aq vs0 0) (aq vs0 1) h6 next0)) (
 cM (aq vs0 0) (aq vs0 1) h4 next0)))) (
 aX (aq vs0 0) fun t66=>
 cc [(I 0)] h fun vs8 h next8=>pw t66 (aq vs0 0) (aq vs0 0) Q vs8 h next8)
def vU (a0:AV) (h:ae) (Q:QT):Prop:=
 aE a0 fun t11=>
 ab 0 t11 fun t12=>
 af t12 h fun t13=>
 aX t13 fun t14=>
 cc [(.full 0 []),(I 0)] h fun vs0 h next0=>pG t14 t13 a0 Q vs0 h next0
theorem AE (a0:AV) (h:ae) (Q:QT) (k:vU a0 h Q):C lK [a0] h Q:=
 okF (pl:=[(4,[3,5,6,7,15,16,17,18,19,20,21,22,23,24,25,26,27,28,29,30,31,32,33,34,35,36,37,38,39,40,41,42,43,44,45,46,47,48,49,50,51,52,53,54,55,56,57,58,59,60,61,62,63,64],[3,15]),(1000006,[0,2,3,4,5,6,7,8,9,1,10,11,12,13,14,15],[]),(1000007,[0,1,2,4,5,6,7,8,9,10,3,11,12,13,14],[]),(12,[9,67,68,69,70,71,72,73,74],[67])]) Tryz.func120 Tryz.ntmps120 (by kernel_rfl) rfl (by kernel_rfl) k
def iI (s6 s4 s39 s0:AV) (h:ae) (next6:NT):Prop:=
 C iu [s0,s6] h fun t66 h9=>
 ai .add s4 t66 fun t67=>
 ai .add s39 (I 1) fun t68=>
 next6 [t67,t68] h9
def lF (s7 s79:AV) (h:ae) (next13:NT):Prop:=
 ai .add s79 (I 1) fun t133=>
 next13 [s7,t133] h
def c8 (s7 s79:AV) (h:ae) (next13:NT):Prop:=
 lF s7 s79 h next13
def qL (s78 s77 s0:AV) (next12:NT) (vs13:List AV) (h:ae) (next13:NT):Prop:=
 ai .lss (aq vs13 1) s78 fun t80=>
 ifB t80 (
 an 1 s77 (aq vs13 1) fun t81=>
 af t81 h fun t82=>
 aE s0 fun t85=>
 ab 2 t85 fun t86=>
 af t86 h fun t87=>
 aE t82 fun t89=>
 ab 1 t89 fun t90=>
 ab 4 t90 fun t91=>
 af t91 h fun t92=>
 c6 .string true (I 0) t87 t92 h fun t93=>
 am 0 t93 fun t94=>
 am 1 t93 fun t95=>
 aE t82 fun t97=>
 ab 1 t97 fun t98=>
 ab 2 t98 fun t99=>
 af t99 h fun t100=>
 ai .neq t100 (I 9) fun t101=>
 ifB t101 (c8 (aq vs13 0) (aq vs13 1) h next13) (
 ifB t95 (
 c8 (aq vs13 0) (aq vs13 1) h next13) (
 aE t82 fun t109=>
 ab 7 t109 fun t110=>
 af t110 h fun t111=>
 aE s0 fun t113=>
 ab 2 t113 fun t114=>
 af t114 h fun t115=>
 C bt [t82] h fun t107 h16=>
 (af t114 h16 fun _t=>
 _t=t115)∧
 (af t110 h16 fun _t=>
 _t=t111)∧
 C gg [t107,t111,t115] h16 fun t116 h17=>
 am 0 t116 fun t117=>
 am 1 t116 fun t118=>
 ai .eql t118 (I 0) fun t120=>
 ifB t120 (
 aE s0 fun t122=>
 ab 2 t122 fun t123=>
 af t123 h17 fun t124=>
 aE t82 fun t126=>
 ab 1 t126 fun t127=>
 ab 4 t127 fun t128=>
 af t128 h17 fun t129=>
 qt .string (I 0) t124 t129 h17 fun t131 h18=>
 am 1 t131 fun t132=>
 lS t124 t132 t117 h18 fun h19=>
 c8 (B true) (aq vs13 1) h19 next13) (
 c8 (aq vs13 0) (aq vs13 1) h17 next13)))) (
 next12 [(aq vs13 0)] h)
def il (s0:AV) (Q:QT) (vs12:List AV) (h:ae) (next12:NT):Prop:=
 ifB (aq vs12 0) (
 aE s0 fun t75=>
 ab 0 t75 fun t76=>
 af t76 h fun t77=>
 aX t77 fun t78=>
 cc [(B false),(I 0)] h fun vs13 h next13=>qL t78 t77 s0 next12 vs13 h next13) (
 Q (.tup []) h)
def lG (s38 s37 s0:AV) (Q:QT) (vs6:List AV) (h:ae) (next6:NT):Prop:=
 ai .lss (aq vs6 1) s38 fun t40=>
 ifB t40 (
 an 1 s37 (aq vs6 1) fun t41=>
 af t41 h fun t42=>
 aE t42 fun t45=>
 ab 7 t45 fun t46=>
 ak 1 t46 (aq vs6 0) h fun h7=>
 aE t42 fun t48=>
 ab 1 t48 fun t49=>
 ab 1 t49 fun t50=>
 af t50 h7 fun t51=>
 ai .neq t51 (S ⟨#[]⟩) fun t52=>
 ifB t52 (
 aE s0 fun t54=>
 ab 2 t54 fun t55=>
 af t55 h7 fun t56=>
 aE t42 fun t58=>
 ab 1 t58 fun t59=>
 ab 1 t59 fun t60=>
 af t60 h7 fun t61=>
 bV .string t56 t61 (aq vs6 0) h7 fun h8=>
 iI t42 (aq vs6 0) (aq vs6 1) s0 h8 next6) (
 iI t42 (aq vs6 0) (aq vs6 1) s0 h7 next6)) (
 aE s0 fun t71=>
 ab 4 t71 fun t72=>
 ak 1 t72 (aq vs6 0) h fun h11=>
 cc [(B true)] h11 fun vs12 h next12=>il s0 Q vs12 h next12)
def qZ (s22 s0:AV) (Q:QT) (h:ae) (next3:NT):Prop:=
 AG s22 h fun t23 h4=>
 am 0 t23 fun t24=>
 ifB t24 (
 A7 s22 h4 fun t25=>
 am 0 t25 fun t26=>
 am 1 t25 fun t27=>
 aE s0 fun t29=>
 ab 2 t29 fun t30=>
 af t30 h4 fun t31=>
 bV .string t31 t26 t27 h4 fun h5=>
 next3 [] h5) (
 aE s0 fun t35=>
 ab 0 t35 fun t36=>
 af t36 h4 fun t37=>
 aX t37 fun t38=>
 cc [(I 0),(I 0)] h4 fun vs6 h next6=>lG t38 t37 s0 Q vs6 h next6)
def xU (a0:AV) (h:ae) (Q:QT):Prop:=
 mM h fun t15 h0=>
 aE a0 fun t16=>
 ab 2 t16 fun t17=>
 ak 1 t17 t15 h0 fun h1=>
 aE a0 fun t19=>
 ab 1 t19 fun t20=>
 af t20 h1 fun t21=>
 vm t21 h1 fun t22 h2=>
 cc [] h2 fun _ h next3=>qZ t22 a0 Q h next3
theorem BM (a0:AV) (h:ae) (Q:QT) (k:xU a0 h Q):C iY [a0] h Q:=
 okF (pl:=[(3,[2,3,23,24,25,26,27,28,29,30,31,32,33],[]),(8,[4,6,39,40,41,42,43,44,45,46,47,48,49,50,51,52,53,54,55,56,57,58,59,60,61,62,63,64,65,66,67,68],[4,39]),(1000011,[0,1,2,3,4,5,6,7,8,9,10],[]),(17,[7,9,10,11,12,13,73,74,75,76,77,78,79,80,81,82,83,84,85,86,87,88,89,90,91,92,93,94,95,96,97,98,99,100,101,102,103,104,105,106,107,108,109,110,111,112,113,114,115,116,117,118,119,120,121,122,123,124,125,126,127,128,129,130,131,132,133],[7]),(20,[7,9,10,11,12,13,79,80,81,82,83,84,85,86,87,88,89,90,91,92,93,94,95,96,97,98,99,100,101,102,103,104,105,106,107,108,109,110,111,112,113,114,115,116,117,118,119,120,121,122,123,124,125,126,127,128,129,130,131,132,133],[7,79]),(1000021,[0,1,2,3,4,5,6,7,8,9,10,11,12,13,14],[]),(1000023,[0,2,3,4,5,6,7,8,9,1,10,11,12,13,14,15],[]),(1000025,[0,1,2,3,4,5,6,7,8,9,10,11,12,13],[])]) Tryz.func119 Tryz.ntmps119 (by kernel_rfl) rfl (by kernel_rfl) k
def iK (s5:AV) (h:ae) (Q:QT):Prop:=
 Q s5 h
def ix (s51 s0 s1:AV) (h:ae) (Q:QT):Prop:=
 ifB s51 (
 aE s0 fun t58=>
 ab 1 t58 fun t59=>
 af t59 h fun t60=>
 C bt [s1] h fun t56 h1=>
 (af t59 h1 fun _t=>
 _t=t60)∧
 C gg [t56,(I 0),t60] h1 fun t61 h2=>
 am 0 t61 fun t62=>
 am 1 t61 fun t63=>
 aE s1 fun t65=>
 ab 1 t65 fun t66=>
 ab 2 t66 fun t67=>
 af t67 h2 fun t68=>
 ai .eql t68 (I 7) fun t69=>
 ifB t69 (
 aE s1 fun t72=>
 ab 7 t72 fun t73=>
 af t73 h2 fun t74=>
 ai .rem t74 t62 fun t76=>
 ai .sub t62 t76 fun t77=>
 ai .rem t77 t62 fun t79=>
 iK t79 h2 Q) (
 iK t62 h2 Q)) (
 Q (I 0) h)
def fp (s26 s11 s0 s1:AV) (h:ae) (Q:QT):Prop:=
 ifB s26 (
 aE s1 fun t31=>
 ab 1 t31 fun t32=>
 ab 5 t32 fun t33=>
 af t33 h fun t34=>
 aX t34 fun t35=>
 aE s1 fun t37=>
 ab 1 t37 fun t38=>
 ab 2 t38 fun t39=>
 af t39 h fun t40=>
 ai .sub t40 (I 3) fun t41=>
 ai .shl t35 t41 fun t42=>
 Q t42 h) (
 ai .eql s11 (I 6) fun t44=>
 ifB t44 (
 aE s1 fun t46=>
 ab 1 t46 fun t47=>
 ab 4 t47 fun t48=>
 af t48 h fun t49=>
 bJ t49 fun t50=>
 Q t50 h) (
 ai .eql s11 (I 7) fun t52=>
 ifB t52 (
 ix t52 s0 s1 h Q) (
 ai .eql s11 (I 8) fun t53=>
 ix t53 s0 s1 h Q)))
def wb (a0 a1:AV) (h:ae) (Q:QT):Prop:=
 aE a1 fun t8=>
 ab 1 t8 fun t9=>
 ab 2 t9 fun t10=>
 af t10 h fun t11=>
 ai .eql t11 (I 1) fun t13=>
 ifB t13 (
 aE a1 fun t15=>
 ab 1 t15 fun t16=>
 ab 3 t16 fun t17=>
 af t17 h fun t18=>
 C rT [t18] h fun t19 h0=>
 Q t19 h0) (
 ai .eql t11 (I 2) fun t21=>
 ifB t21 (
 aE a1 fun t23=>
 ab 8 t23 fun t24=>
 af t24 h fun t25=>
 ifB t25 (
 Q (I 4) h) (
 Q (I 2) h)) (
 ai .eql t11 (I 3) fun t27=>
 ifB t27 (
 fp t27 t11 a0 a1 h Q) (
 ai .eql t11 (I 4) fun t28=>
 ifB t28 (
 fp t28 t11 a0 a1 h Q) (
 ai .eql t11 (I 5) fun t29=>
 fp t29 t11 a0 a1 h Q))))
theorem AA (a0 a1:AV) (h:ae) (Q:QT) (k:wb a0 a1 h Q):C iu [a0,a1] h Q:=
 okF (pl:=[(1000011,[0,1,2,3,4,5,6,7,8,9,10,11,12,13],[]),(1000016,[0,2,3,4,5,1,6,7,8,9,10,11],[])]) Tryz.func90 Tryz.ntmps90 (by kernel_rfl) rfl (by kernel_rfl) k
def oJ (s0:AV) (Q:QT) (h:ae) (next1:NT):Prop:=
 C lK [s0] h fun t5 h2=>
 ifB t5 (
 C iY [s0] h2 fun t7 h3=>
 next1 [] h3) (
 aE s0 fun t9=>
 ab 4 t9 fun t10=>
 af t10 h2 fun t11=>
 ai .gtr t11 (I 4096) fun t12=>
 ifB t12 (
 C aR [s0,(S ⟨#[]⟩),(I 0),(I 8)] h2 fun t14 h4=>
 Q (.tup []) h4) (
 Q (.tup []) h2))
def rL (a0:AV) (h:ae) (Q:QT):Prop:=
 C iY [a0] h fun t3 h0=>
 cc [] h0 fun _ h next1=>oJ a0 Q h next1
theorem wx (a0:AV) (h:ae) (Q:QT) (k:rL a0 h Q):C cf [a0] h Q:=
 okF (pl:=[(2,[4,5,6,7],[])]) Tryz.func85 Tryz.ntmps85 (by kernel_rfl) rfl (by kernel_rfl) k
def gC (s12:AV) (h:ae) (next0:NT):Prop:=
 ai .add s12 (I 1) fun t77=>
 next0 [t77] h
def aO (s12:AV) (h:ae) (next0:NT):Prop:=
 gC s12 h next0
def bG (s6 s5 s3 s12 s0:AV) (h:ae) (next0:NT):Prop:=
 C bt [s3] h fun t56 h6=>
 C eY [t56] h6 fun t57 h7=>
 ifB t57 (aE s3 fun t68=>
 ab 0 t68 fun t69=>
 af t69 h7 fun t70=>
 aE s3 fun t72=>
 ab 1 t72 fun t73=>
 ab 0 t73 fun t74=>
 af t74 h7 fun t75=>
 C aR [s0,t70,t75,(I 3)] h7 fun t76 h8=>
 aO s12 h8 next0) (
 ai .neq s5 (I 0) fun t60=>
 ifB t60 (aE s3 fun t68=>
 ab 0 t68 fun t69=>
 af t69 h7 fun t70=>
 aE s3 fun t72=>
 ab 1 t72 fun t73=>
 ab 0 t73 fun t74=>
 af t74 h7 fun t75=>
 C aR [s0,t70,t75,(I 3)] h7 fun t76 h9=>
 aO s12 h9 next0) (
 qUn .not s6 fun t64=>
 ifB t64 (
 aE s3 fun t68=>
 ab 0 t68 fun t69=>
 af t69 h7 fun t70=>
 aE s3 fun t72=>
 ab 1 t72 fun t73=>
 ab 0 t73 fun t74=>
 af t74 h7 fun t75=>
 C aR [s0,t70,t75,(I 3)] h7 fun t76 h10=>
 aO s12 h10 next0) (
 aO s12 h7 next0)))
def oW (s6 s5 s3 s12 s0:AV) (h:ae) (next0:NT):Prop:=
 C bt [s3] h fun t56 h13=>
 C eY [t56] h13 fun t57 h14=>
 ifB t57 (aE s3 fun t68=>
 ab 0 t68 fun t69=>
 af t69 h14 fun t70=>
 aE s3 fun t72=>
 ab 1 t72 fun t73=>
 ab 0 t73 fun t74=>
 af t74 h14 fun t75=>
 C aR [s0,t70,t75,(I 3)] h14 fun t76 h15=>
 aO s12 h15 next0) (
 ai .neq s5 (I 0) fun t60=>
 ifB t60 (aE s3 fun t68=>
 ab 0 t68 fun t69=>
 af t69 h14 fun t70=>
 aE s3 fun t72=>
 ab 1 t72 fun t73=>
 ab 0 t73 fun t74=>
 af t74 h14 fun t75=>
 C aR [s0,t70,t75,(I 3)] h14 fun t76 h16=>
 aO s12 h16 next0) (
 qUn .not s6 fun t64=>
 ifB t64 (
 aE s3 fun t68=>
 ab 0 t68 fun t69=>
 af t69 h14 fun t70=>
 aE s3 fun t72=>
 ab 1 t72 fun t73=>
 ab 0 t73 fun t74=>
 af t74 h14 fun t75=>
 C aR [s0,t70,t75,(I 3)] h14 fun t76 h17=>
 aO s12 h17 next0) (
 aO s12 h14 next0)))
def oL (s6 s5 s3 s12 s0:AV) (h:ae) (next0:NT):Prop:=
 C bt [s3] h fun t56 h22=>
 C eY [t56] h22 fun t57 h23=>
 ifB t57 (aE s3 fun t68=>
 ab 0 t68 fun t69=>
 af t69 h23 fun t70=>
 aE s3 fun t72=>
 ab 1 t72 fun t73=>
 ab 0 t73 fun t74=>
 af t74 h23 fun t75=>
 C aR [s0,t70,t75,(I 3)] h23 fun t76 h24=>
 aO s12 h24 next0) (
 ai .neq s5 (I 0) fun t60=>
 ifB t60 (aE s3 fun t68=>
 ab 0 t68 fun t69=>
 af t69 h23 fun t70=>
 aE s3 fun t72=>
 ab 1 t72 fun t73=>
 ab 0 t73 fun t74=>
 af t74 h23 fun t75=>
 C aR [s0,t70,t75,(I 3)] h23 fun t76 h25=>
 aO s12 h25 next0) (
 qUn .not s6 fun t64=>
 ifB t64 (
 aE s3 fun t68=>
 ab 0 t68 fun t69=>
 af t69 h23 fun t70=>
 aE s3 fun t72=>
 ab 1 t72 fun t73=>
 ab 0 t73 fun t74=>
 af t74 h23 fun t75=>
 C aR [s0,t70,t75,(I 3)] h23 fun t76 h26=>
 aO s12 h26 next0) (
 aO s12 h23 next0)))
def oF (s6 s5 s3 s12 s0:AV) (h:ae) (next0:NT):Prop:=
 C bt [s3] h fun t56 h29=>
 C eY [t56] h29 fun t57 h30=>
 ifB t57 (aE s3 fun t68=>
 ab 0 t68 fun t69=>
 af t69 h30 fun t70=>
 aE s3 fun t72=>
 ab 1 t72 fun t73=>
 ab 0 t73 fun t74=>
 af t74 h30 fun t75=>
 C aR [s0,t70,t75,(I 3)] h30 fun t76 h31=>
 aO s12 h31 next0) (
 ai .neq s5 (I 0) fun t60=>
 ifB t60 (aE s3 fun t68=>
 ab 0 t68 fun t69=>
 af t69 h30 fun t70=>
 aE s3 fun t72=>
 ab 1 t72 fun t73=>
 ab 0 t73 fun t74=>
 af t74 h30 fun t75=>
 C aR [s0,t70,t75,(I 3)] h30 fun t76 h32=>
 aO s12 h32 next0) (
 qUn .not s6 fun t64=>
 ifB t64 (
 aE s3 fun t68=>
 ab 0 t68 fun t69=>
 af t69 h30 fun t70=>
 aE s3 fun t72=>
 ab 1 t72 fun t73=>
 ab 0 t73 fun t74=>
 af t74 h30 fun t75=>
 C aR [s0,t70,t75,(I 3)] h30 fun t76 h33=>
 aO s12 h33 next0) (
 aO s12 h30 next0)))
def oS (s11 s10 s0:AV) (Q:QT) (vs0:List AV) (h:ae) (next0:NT):Prop:=
 ai .lss (aq vs0 0) s11 fun t13=>
 ifB t13 (
 an 1 s10 (aq vs0 0) fun t14=>
 af t14 h fun t15=>
 aE t15 fun t17=>
 ab 1 t17 fun t18=>
 ab 2 t18 fun t19=>
 af t19 h fun t20=>
 ai .neq t20 (I 7) fun t21=>
 ifB t21 (aE t15 fun t24=>
 ab 1 t24 fun t25=>
 ab 2 t25 fun t26=>
 af t26 h fun t27=>
 ai .neq t27 (I 8) fun t28=>
 ifB t28 (
 aO (aq vs0 0) h next0) (
 aE s0 fun t34=>
 ab 1 t34 fun t35=>
 af t35 h fun t36=>
 C bt [t15] h fun t32 h3=>
 (af t35 h3 fun _t=>
 _t=t36)∧
 C gg [t32,(I 0),t36] h3 fun t37 h4=>
 am 0 t37 fun t38=>
 am 1 t37 fun t39=>
 ai .geq t38 (I 0) fun t41=>
 ifB t41 (ai .leq t38 (I 1000) fun t44=>
 aE t15 fun t47=>
 ab 1 t47 fun t48=>
 ab 2 t48 fun t49=>
 af t49 h4 fun t50=>
 ai .eql t50 (I 7) fun t51=>
 ifB t51 (
 ao 5 1 [(I 1),(I 2),(I 4),(I 8),(I 16)] fun t52=>
 C be [t52,t38] h4 fun t54 h5=>
 bG t54 t39 t15 (aq vs0 0) s0 h5 next0) (
 bG t44 t39 t15 (aq vs0 0) s0 h4 next0)) (
 aE t15 fun t47=>
 ab 1 t47 fun t48=>
 ab 2 t48 fun t49=>
 af t49 h4 fun t50=>
 ai .eql t50 (I 7) fun t51=>
 ifB t51 (
 ao 5 1 [(I 1),(I 2),(I 4),(I 8),(I 16)] fun t52=>
 C be [t52,t38] h4 fun t54 h12=>
 oW t54 t39 t15 (aq vs0 0) s0 h12 next0) (
 oW (B false) t39 t15 (aq vs0 0) s0 h4 next0)))) (
 aE s0 fun t34=>
 ab 1 t34 fun t35=>
 af t35 h fun t36=>
 C bt [t15] h fun t32 h19=>
 (af t35 h19 fun _t=>
 _t=t36)∧
 C gg [t32,(I 0),t36] h19 fun t37 h20=>
 am 0 t37 fun t38=>
 am 1 t37 fun t39=>
 ai .geq t38 (I 0) fun t41=>
 ifB t41 (ai .leq t38 (I 1000) fun t44=>
 aE t15 fun t47=>
 ab 1 t47 fun t48=>
 ab 2 t48 fun t49=>
 af t49 h20 fun t50=>
 ai .eql t50 (I 7) fun t51=>
 ifB t51 (
 ao 5 1 [(I 1),(I 2),(I 4),(I 8),(I 16)] fun t52=>
 C be [t52,t38] h20 fun t54 h21=>
 oL t54 t39 t15 (aq vs0 0) s0 h21 next0) (
 oL t44 t39 t15 (aq vs0 0) s0 h20 next0)) (
 aE t15 fun t47=>
 ab 1 t47 fun t48=>
 ab 2 t48 fun t49=>
 af t49 h20 fun t50=>
 ai .eql t50 (I 7) fun t51=>
 ifB t51 (
 ao 5 1 [(I 1),(I 2),(I 4),(I 8),(I 16)] fun t52=>
 C be [t52,t38] h20 fun t54 h28=>
 oF t54 t39 t15 (aq vs0 0) s0 h28 next0) (
 oF (B false) t39 t15 (aq vs0 0) s0 h20 next0)))) (
 Q (.tup []) h)
def uk (a0:AV) (h:ae) (Q:QT):Prop:=
 aE a0 fun t8=>
 ab 0 t8 fun t9=>
 af t9 h fun t10=>
 aX t10 fun t11=>
 cc [(I 0)] h fun vs0 h next0=>oS t11 t10 a0 Q vs0 h next0
theorem zm (a0:AV) (h:ae) (Q:QT) (k:uk a0 h Q):C co [a0] h Q:=
 okF (pl:=[(2,[3,4,5,6,12,13,14,15,16,17,18,19,20,21,22,23,24,25,26,27,28,29,30,31,32,33,34,35,36,37,38,39,40,41,42,43,44,45,46,47,48,49,50,51,52,53,54,55,56,57,58,59,60,61,62,63,64,65,66,67,68,69,70,71,72,73,74,75,76,77],[12]),(1000004,[0,2,3,4,5,1,6,7,8,9,10,11],[]),(1000009,[0,1,2,3,4,5,6,7,8,9,10],[])]) Tryz.func84 Tryz.ntmps84 (by kernel_rfl) rfl (by kernel_rfl) k
def vQ (a0 a1 a2 a3:AV) (h:ae) (Q:QT):Prop:=
 aE a0 fun t10=>
 ab 3 t10 fun t11=>
 af t11 h fun t12=>
 ay [(S ⟨#[]⟩),(I 0),(I 0)] [(0,1,a1),(1,1,a2),(2,1,a3)] fun t16=>
 ao 1 3 [t16] fun t17=>
 bg 3 32 t12 t17 h fun t18 h0=>
 aE a0 fun t19=>
 ab 3 t19 fun t20=>
 ak 1 t20 t18 h0 fun h1=>
 Q (.tup []) h1
theorem Ap (a0 a1 a2 a3:AV) (h:ae) (Q:QT) (k:vQ a0 a1 a2 a3 h Q):C aR [a0,a1,a2,a3] h Q:=
 okF (pl:=[]) Tryz.func114 Tryz.ntmps114 (by kernel_rfl) rfl (by kernel_rfl) k
def kM (s52:AV) (h:ae) (next7:NT):Prop:=
 ai .add s52 (I 1) fun t77=>
 next7 [t77] h
def gL (s52:AV) (h:ae) (next7:NT):Prop:=
 kM s52 h next7
def gj (s8 s52 s2:AV) (h:ae) (next7:NT):Prop:=
 c6 .string false (I 0) s2 s8 h fun t75=>
 ai .add t75 (I 1) fun t76=>
 bV .string s2 s8 t76 h fun h11=>
 gL s52 h11 next7
def o9 (s51 s50 s5 s26 s2 s0:AV) (next5:NT) (vs7:List AV) (h:ae) (next7:NT):Prop:=
 ai .lss (aq vs7 0) s51 fun t53=>
 ifB t53 (
 an 1 s50 (aq vs7 0) fun t54=>
 af t54 h fun t55=>
 ai .eql t55 (S ⟨#[]⟩) fun t57=>
 ifB t57 (
 gL (aq vs7 0) h next7) (
 c6 .string false (I 0) s2 t55 h fun t60=>
 ai .gtr t60 (I 0) fun t61=>
 ifB t61 (
 aE s5 fun t64=>
 ab 0 t64 fun t65=>
 af t65 h fun t66=>
 aE s5 fun t68=>
 ab 1 t68 fun t69=>
 ab 0 t69 fun t70=>
 af t70 h fun t71=>
 C aR [s0,t66,t71,(I 2)] h fun t72 h10=>
 gj t55 (aq vs7 0) s2 h10 next7) (
 gj t55 (aq vs7 0) s2 h next7))) (
 ai .add s26 (I 1) fun t78=>
 next5 [t78] h)
def gk (s6 s5 s26 s2 s0:AV) (h:ae) (next5:NT):Prop:=
 aX s6 fun t51=>
 cc [(I 0)] h fun vs7 h next7=>o9 t51 s6 s5 s26 s2 s0 next5 vs7 h next7
def oR (s25 s24 s2 s0:AV) (Q:QT) (vs5:List AV) (h:ae) (next5:NT):Prop:=
 ai .lss (aq vs5 0) s25 fun t27=>
 ifB t27 (
 an 1 s24 (aq vs5 0) fun t28=>
 af t28 h fun t29=>
 aE t29 fun t31=>
 ab 1 t31 fun t32=>
 ab 1 t32 fun t33=>
 af t33 h fun t34=>
 ao 1 1 [t34] fun t35=>
 aE t29 fun t37=>
 ab 1 t37 fun t38=>
 ab 2 t38 fun t39=>
 af t39 h fun t40=>
 ai .eql t40 (I 9) fun t41=>
 ifB t41 (
 aE t29 fun t44=>
 ab 1 t44 fun t45=>
 ab 4 t45 fun t46=>
 af t46 h fun t47=>
 ao 1 1 [t47] fun t48=>
 bg 1 16 t35 t48 h fun t49 h6=>
 gk t49 t29 (aq vs5 0) s2 s0 h6 next5) (
 gk t35 t29 (aq vs5 0) s2 s0 h next5)) (
 Q (.tup []) h)
def oG (s14 s2 s0:AV) (Q:QT) (h:ae) (next2:NT):Prop:=
 AG s14 h fun t15 h3=>
 am 0 t15 fun t16=>
 ifB t16 (
 A7 s14 h3 fun t17=>
 am 0 t17 fun t18=>
 bV .string s2 t18 (I 1) h3 fun h4=>
 next2 [] h4) (
 aE s0 fun t22=>
 ab 0 t22 fun t23=>
 af t23 h3 fun t24=>
 aX t24 fun t25=>
 cc [(I 0)] h3 fun vs5 h next5=>oR t25 t24 s2 s0 Q vs5 h next5)
def tH (a0:AV) (h:ae) (Q:QT):Prop:=
 mM h fun t9 h0=>
 aE a0 fun t11=>
 ab 1 t11 fun t12=>
 af t12 h0 fun t13=>
 vm t13 h0 fun t14 h1=>
 cc [] h1 fun _ h next2=>oG t14 t9 a0 Q h next2
theorem y7 (a0:AV) (h:ae) (Q:QT) (k:tH a0 h Q):C cq [a0] h Q:=
 okF (pl:=[(3,[3,15,16,17,18,19,20],[]),(7,[5,6,8,26,27,28,29,30,31,32,33,34,35,36,37,38,39,40,41,42,43,44,45,46,47,48,49,50,51,52,53,54,55,56,57,58,59,60,61,62,63,64,65,66,67,68,69,70,71,72,73,74,75,76,77,78],[26]),(13,[8,52,53,54,55,56,57,58,59,60,61,62,63,64,65,66,67,68,69,70,71,72,73,74,75,76,77],[52]),(1000016,[0,1,2,3,4,5,6,7,8,9,10],[])]) Tryz.func83 Tryz.ntmps83 (by kernel_rfl) rfl (by kernel_rfl) k
def fZ (s10 s9 s4 s5 s6 s17:AV) (h:ae) (next0:NT) (Q:QT):Prop:=
 ai .neq s10 (I 0) fun t40=>
 ifB t40 (
 Q (.tup [(.full 0 []),s10]) h) (
 ao 1 1 [s9] fun t44=>
 bg 1 8 s6 t44 h fun t45 h4=>
 ai .add s17 (I 1) fun t46=>
 next0 [s4,s5,t45,t46] h4)
def oP (s16 s15 s0 s1:AV) (Q:QT) (vs0:List AV) (h:ae) (next0:NT):Prop:=
 ai .lss (aq vs0 3) s16 fun t18=>
 ifB t18 (
 an 5 s15 (aq vs0 3) fun t19=>
 ap 5 t19 h fun t20=>
 cu [(I 0),(I 0),(I 0),(S ⟨#[]⟩),(.full 0 [])] h fun t8 h1=>
 ak 5 t8 t20 h1 fun h2=>
 ab 0 t8 fun t21=>
 af t21 h2 fun t22=>
 ai .lss t22 (I 0) fun t24=>
 ifB t24 (
 ab 1 t8 fun t26=>
 ap 4 t26 h2 fun t27=>
 aE s1 fun t29=>
 ab 7 t29 fun t30=>
 af t30 h2 fun t31=>
 aE s0 fun t33=>
 ab 2 t33 fun t34=>
 af t34 h2 fun t35=>
 C gg [t27,t31,t35] h2 fun t36 h3=>
 am 0 t36 fun t37=>
 am 1 t36 fun t38=>
 fZ t38 t37 (aq vs0 0) (aq vs0 1) (aq vs0 2) (aq vs0 3) h3 next0 Q) (
 fZ (I 0) t22 (aq vs0 0) (aq vs0 1) (aq vs0 2) (aq vs0 3) h2 next0 Q)) (
 Q (.tup [(aq vs0 2),(I 0)]) h)
def rt (a0 a1:AV) (h:ae) (Q:QT):Prop:=
 aE a1 fun t12=>
 ab 1 t12 fun t13=>
 ab 5 t13 fun t14=>
 af t14 h fun t15=>
 aX t15 fun t16=>
 cc [(.full 0 []),(I 0),(.full 0 []),(I 0)] h fun vs0 h next0=>oP t16 t15 a0 a1 Q vs0 h next0
theorem wF (a0 a1:AV) (h:ae) (Q:QT) (k:rt a0 a1 h Q):C fT [a0,a1] h Q:=
 okF (pl:=[(4,[4,5,6,8,9,10,17,18,19,20,21,22,23,24,25,26,27,28,29,30,31,32,33,34,35,36,37,38,39,40,41,42,43,44,45,46],[4,5,6,17]),(1000007,[0,1,2,3,4,5,6,7,8,9,10,11,12,13,14,15],[])]) Tryz.func87 Tryz.ntmps87 (by kernel_rfl) rfl (by kernel_rfl) k
def abF (h:ae) (Q:QT):Prop:=Q (I 0) h
def J8 (a1 t37:AV) (h:ae) (Q:QT):Prop:=
 aE a1 fun t94=>
 ab 1 t94 fun t95=>
 ab 2 t95 fun t96=>
 af t96 h fun t97=>
 C sQ [t97] h fun t98 h5=>
 am 0 t98 fun t99=>
 am 1 t98 fun t100=>
 C ik [t37] h5 fun t102 h6=>
 ai .lss t102 t99 fun t104=>
 ifB t104 (Q (I 6) h6) (
 C iA [t37] h6 fun t107 h7=>
 ai .gtr t107 t100 fun t109=>
 ifB t109 (
 Q (I 6) h7) (
 abF h7 Q))
def G6 (a1 t37:AV) (h:ae) (Q:QT):Prop:=
 aE a1 fun t71=>
 ab 1 t71 fun t72=>
 ab 2 t72 fun t73=>
 af t73 h fun t74=>
 ai .eql t74 (I 3) fun t75=>
 ifB t75 (J8 a1 t37 h Q) (
 aE a1 fun t78=>
 ab 1 t78 fun t79=>
 ab 2 t79 fun t80=>
 af t80 h fun t81=>
 ai .eql t81 (I 4) fun t82=>
 ifB t82 (J8 a1 t37 h Q) (
 aE a1 fun t86=>
 ab 1 t86 fun t87=>
 ab 2 t87 fun t88=>
 af t88 h fun t89=>
 ai .eql t89 (I 5) fun t90=>
 ifB t90 (J8 a1 t37 h Q) (
 abF h Q)))
def GF (a1 t37:AV) (h:ae) (Q:QT):Prop:=
 C jg [a1,t37] h fun t65 h3=>
 C qo [t65] h3 fun t66 h4=>
 qUn .not t66 fun t67=>
 ifB t67 (
 Q (I 6) h4) (
 G6 a1 t37 h4 Q)
def wrA (a1 t37 t38:AV) (h:ae) (Q:QT):Prop:=
 ai .neq t38 (I 0) fun t58=>
 ifB t58 (
 Q t38 h) (
 GF a1 t37 h Q)
def wrB (t22 a1 t37 t38:AV) (h:ae) (Q:QT):Prop:=
 ai .neq t38 (I 0) fun t58=>
 ifB t58 (
 Q t38 h) (
 ifB t22 (GF a1 t37 h Q) (G6 a1 t37 h Q))
def Hj (a0 a1:AV) (tail:AV→QT) (h:ae) (Q:QT):Prop:=
 C fT [a0,a1] h fun t36 h0=>
 am 0 t36 fun t37=>
 am 1 t36 fun t38=>
 ai .eql t38 (I 4) fun t41=>
 ifB t41 (aE a1 fun t44=>
 ab 1 t44 fun t45=>
 ab 2 t45 fun t46=>
 af t46 h0 fun t47=>
 ai .eql t47 (I 9) fun t48=>
 ifB t48 (C bt [a1] h0 fun t53 h1=>
 C iq [a0,t53] h1 fun t54 h2=>
 ifB t54 (
 Q (I 5) h2) (
 tail t37 t38 h2)) (
 tail t37 t38 h0)) (
 tail t37 t38 h0)
def ua (a0 a1:AV) (h:ae) (Q:QT):Prop:=
 aE a1 fun t11=>
 ab 1 t11 fun t12=>
 ab 2 t12 fun t13=>
 af t13 h fun t14=>
 ai .eql t14 (I 1) fun t15=>
 ifB t15 (aE a1 fun t27=>
 ab 7 t27 fun t28=>
 af t28 h fun t29=>
 ai .rem t29 (I 2) fun t30=>
 ai .neq t30 (I 0) fun t31=>
 ifB t31 (
 Q (I 7) h) (
 Hj a0 a1 (fun t37 t38 h=>wrA a1 t37 t38 h Q) h Q)) (
 aE a1 fun t18=>
 ab 1 t18 fun t19=>
 ab 2 t19 fun t20=>
 af t20 h fun t21=>
 ai .eql t21 (I 2) fun t22=>
 ifB t22 (aE a1 fun t27=>
 ab 7 t27 fun t28=>
 af t28 h fun t29=>
 ai .rem t29 (I 2) fun t30=>
 ai .neq t30 (I 0) fun t31=>
 ifB t31 (
 Q (I 7) h) (
 Hj a0 a1 (fun t37 t38 h=>wrB t22 a1 t37 t38 h Q) h Q)) (
 Hj a0 a1 (fun t37 t38 h=>wrB t22 a1 t37 t38 h Q) h Q))
theorem y1 (a0 a1:AV) (h:ae) (Q:QT) (k:ua a0 a1 h Q):C kI [a0,a1] h Q:=
 okF (pl:=[]) Tryz.func121 Tryz.ntmps121 (by kernel_rfl) rfl (by kernel_rfl) k
def Il (a0:AV) (h:ae) (Q:QT):Prop:=
 ai .eql a0 (I 3) fun t6=>
 ifB t6 (
 Q (.tup [(I (-128)),(I 255)]) h) (
 ai .eql a0 (I 4) fun t8=>
 ifB t8 (
 Q (.tup [(I (-32768)),(I 65535)]) h) (
 Q (.tup [(I (-2147483648)),(I 4294967295)]) h))
theorem Jq (a0:AV) (h:ae) (Q:QT) (k:Il a0 h Q):C sQ [a0] h Q:=
 okF (pl:=[]) Tryz.func161 Tryz.ntmps161 (by kernel_rfl) rfl (by kernel_rfl) k
def nX (a0 a1 a2:AV) (h:ae) (Q:QT):Prop:=
 fe a0 h fun t3 h0=>
 ab 0 t3 fun t13=>
 af t13 h0 fun t14=>
 ai .eql t14 (I 1) fun t15=>
 ifB t15 (
 ab 1 t3 fun t16=>
 af t16 h0 fun t17=>
 C cN [t17] h0 fun t18 h1=>
 am 0 t18 fun t19=>
 am 1 t18 fun t20=>
 Q (.tup [t19,t20]) h1) (
 ab 0 t3 fun t22=>
 af t22 h0 fun t23=>
 ai .eql t23 (I 3) fun t24=>
 ifB t24 (
 C cN [a1] h0 fun t26 h2=>
 am 0 t26 fun t27=>
 am 1 t26 fun t28=>
 Q (.tup [t27,t28]) h2) (
 ab 0 t3 fun t30=>
 af t30 h0 fun t31=>
 ai .eql t31 (I 2) fun t32=>
 ifB t32 (
 C cR [a2,(.fn (.func qV) [] [t3])] h0 fun t35 h3=>
 ai .lss t35 (I 0) fun t37=>
 ifB t37 (
 Q (.tup [(I 0),(I 4)]) h3) (
 an 2 a2 t35 fun t40=>
 ab 1 t40 fun t41=>
 af t41 h3 fun t42=>
 C cN [t42] h3 fun t43 h4=>
 am 0 t43 fun t44=>
 am 1 t43 fun t45=>
 Q (.tup [t44,t45]) h4)) (
 ab 3 t3 fun t47=>
 af t47 h0 fun t48=>
 aX t48 fun t49=>
 ai .eql t49 (I 0) fun t50=>
 ifB t50 (
 Q (.tup [(I 0),(I 6)]) h0) (
 ab 3 t3 fun t52=>
 af t52 h0 fun t53=>
 an 4 t53 (I 0) fun t54=>
 ap 4 t54 h0 fun t55=>
 C mX [t55,a1,a2] h0 fun t58 h5=>
 am 0 t58 fun t59=>
 am 1 t58 fun t60=>
 ai .neq t60 (I 0) fun t63=>
 ifB t63 (
 Q (.tup [(I 0),t60]) h5) (
 ab 3 t3 fun t66=>
 af t66 h5 fun t67=>
 aX t67 fun t68=>
 ai .eql t68 (I 1) fun t69=>
 ifB t69 (
 qUn .neg t59 fun t71=>
 C cN [t71] h5 fun t72 h6=>
 am 0 t72 fun t73=>
 am 1 t72 fun t74=>
 Q (.tup [t73,t74]) h6) (
 ab 3 t3 fun t76=>
 af t76 h5 fun t77=>
 an 4 t77 (I 1) fun t78=>
 ap 4 t78 h5 fun t79=>
 C mX [t79,a1,a2] h5 fun t82 h7=>
 am 0 t82 fun t83=>
 am 1 t82 fun t84=>
 ai .neq t84 (I 0) fun t86=>
 ifB t86 (
 Q (.tup [(I 0),t84]) h7) (
 ab 0 t3 fun t88=>
 af t88 h7 fun t89=>
 C vH [t89,t59,t83] h7 fun t92 h8=>
 am 0 t92 fun t93=>
 am 1 t92 fun t94=>
 Q (.tup [t93,t94]) h8)))))))
theorem kx (a0 a1 a2:AV) (h:ae) (Q:QT) (k:nX a0 a1 a2 h Q):C mX [a0,a1,a2] h Q:=
 okF (pl:=[]) Tryz.func155 Tryz.ntmps155 (by kernel_rfl) rfl (by kernel_rfl) k
def Ec (a0 a1:AV) (h:ae) (Q:QT):Prop:=
 fe a0 h fun t2 h0=>
 ab 0 t2 fun t4=>
 af t4 h0 fun t5=>
 ab 2 a1 fun t6=>
 af t6 h0 fun t7=>
 ai .eql t5 t7 fun t8=>
 Q t8 h0
theorem HJ (a0 a1:AV) (h:ae) (Q:QT) (k:Ec a0 a1 h Q):C qV [a0,a1] h Q:=
 okF (pl:=[]) Tryz.func205 Tryz.ntmps205 (by kernel_rfl) rfl (by kernel_rfl) k
def ti (s3 s26:AV) (h:ae) (next6:NT):Prop:=
 ai .add s26 (I 1) fun t38=>
 next6 [s3,t38] h
def m6 (s3 s26:AV) (h:ae) (next6:NT):Prop:=
 ti s3 s26 h next6
def yz (s25 s24 s19:AV) (next2:NT) (vs6:List AV) (h:ae) (next6:NT):Prop:=
 ai .lss (aq vs6 1) s25 fun t27=>
 ifB t27 (
 an 1 s24 (aq vs6 1) fun t28=>
 af t28 h fun t29=>
 C dn [(aq vs6 0),t29] h fun t32 h7=>
 qUn .not t32 fun t33=>
 ifB t33 (
 ao 1 1 [t29] fun t36=>
 bg 1 16 (aq vs6 0) t36 h7 fun t37 h8=>
 m6 t37 (aq vs6 1) h8 next6) (
 m6 (aq vs6 0) (aq vs6 1) h7 next6)) (
 ai .add s19 (I 1) fun t39=>
 next2 [(aq vs6 0),t39] h)
def xm (s18 s17:AV) (Q:QT) (vs2:List AV) (h:ae) (next2:NT):Prop:=
 ai .lss (aq vs2 1) s18 fun t20=>
 ifB t20 (
 an 4 s17 (aq vs2 1) fun t21=>
 ap 4 t21 h fun t22=>
 cu [(I 0),(I 0),(S ⟨#[]⟩),(.full 0 [])] h fun t5 h3=>
 ak 4 t5 t22 h3 fun h4=>
 ap 4 t5 h4 fun t23=>
 C lf [t23] h4 fun t24 h5=>
 aX t24 fun t25=>
 cc [(aq vs2 0),(I 0)] h5 fun vs6 h next6=>yz t25 t24 (aq vs2 1) next2 vs6 h next6) (
 C d4 [(aq vs2 0)] h fun t41 h12=>
 Q t41 h12)
def mS (s3 s1:AV) (h:ae) (Q:QT):Prop:=
 ab 3 s1 fun t16=>
 af t16 h fun t17=>
 aX t17 fun t18=>
 cc [s3,(I 0)] h fun vs2 h next2=>xm t18 t17 Q vs2 h next2
def GI (a0:AV) (h:ae) (Q:QT):Prop:=
 fe a0 h fun t1 h0=>
 ab 0 t1 fun t8=>
 af t8 h0 fun t9=>
 ai .eql t9 (I 2) fun t10=>
 ifB t10 (
 ab 2 t1 fun t12=>
 af t12 h0 fun t13=>
 ao 1 1 [t13] fun t14=>
 bg 1 16 (.full 0 []) t14 h0 fun t15 h1=>
 mS t15 t1 h1 Q) (
 mS (.full 0 []) t1 h0 Q)
theorem Jx (a0:AV) (h:ae) (Q:QT) (k:GI a0 h Q):C lf [a0] h Q:=
 okF (pl:=[(6,[3,5,7,19,20,21,22,23,24,25,26,27,28,29,30,31,32,33,34,35,36,37,38,39],[3,19]),(9,[3,7,26,27,28,29,30,31,32,33,34,35,36,37,38],[3,26])]) Tryz.func67 Tryz.ntmps67 (by kernel_rfl) rfl (by kernel_rfl) k
def IL (a0:AV) (h:ae) (Q:QT):Prop:=
 cu [(I 0),(I 0),(S ⟨#[]⟩),(.full 0 [])] h fun t2 h0=>
 ay [(S ⟨#[]⟩),(I 0),(B false)] [(0,1,a0)] fun t6=>
 fe t6 h0 fun t7 h1=>
 C cK [t7,(I 0)] h1 fun t9 h2=>
 ak 4 t2 t9 h2 fun h3=>
 C fF [t7] h3 fun t11 h4=>
 aE t7 fun t13=>
 ab 2 t13 fun t14=>
 af t14 h4 fun t15=>
 ifB t15 (ay [(I 0),(I 0),(S ⟨#[]⟩),(.full 0 [])] [] fun t23=>
 ak 4 t2 t23 h4 fun h5=>
 ap 4 t2 h5 fun r6=>
 Q (.tup [r6,(B false)]) h5) (
 aE t7 fun t18=>
 ab 0 t18 fun t19=>
 af t19 h4 fun t20=>
 ai .neq t20 (S ⟨#[]⟩) fun t21=>
 ifB t21 (
 ay [(I 0),(I 0),(S ⟨#[]⟩),(.full 0 [])] [] fun t23=>
 ak 4 t2 t23 h4 fun h7=>
 ap 4 t2 h7 fun r8=>
 Q (.tup [r8,(B false)]) h7) (
 ap 4 t2 h4 fun t24=>
 ak 4 t2 t24 h4 fun h9=>
 ap 4 t2 h9 fun r10=>
 Q (.tup [r10,(B true)]) h9))
theorem Jo (a0:AV) (h:ae) (Q:QT) (k:IL a0 h Q):C tc [a0] h Q:=
 okF (pl:=[]) Tryz.func201 Tryz.ntmps201 (by kernel_rfl) rfl (by kernel_rfl) k
def HB (s8 s0 s1:AV) (Q:QT) (vs1:List AV) (h:ae) (next1:NT):Prop:=
 Ak s8 h fun t9 h2=>
 am 0 t9 fun t10=>
 ifB t10 (
 am 1 t9 fun t11=>
 am 2 t9 fun t12=>
 CV s1 [t12] h2 fun t15 h3=>
 qUn .not t15 fun t16=>
 ifB t16 (
 bl s0 none (some t11) fun t19=>
 Q t19 h3) (
 next1 [(aq vs1 0)] h3)) (
 Q s0 h2)
def T2 (a0 a1:AV) (h:ae) (Q:QT):Prop:=
 u6 a0 h fun t8 h0=>
 cc [(S ⟨#[]⟩)] h0 fun vs1 h next1=>HB t8 a0 a1 Q vs1 h next1
theorem Rb (a0 a1:AV) (h:ae) (Q:QT) (k:T2 a0 a1 h Q):C cQ [a0,a1] h Q:=
 okF (pl:=[(3,[4,5,6,9,10,11,12,13,14,15,16,17,18,19],[4])]) Tryz.func267 Tryz.ntmps267 (by kernel_rfl) rfl (by kernel_rfl) k
def K6 (a0 a1 a2:AV) (h:ae) (Q:QT):Prop:=
 ai .eql a0 (I 5) fun t10=>
 ifB t10 (
 ai .add a1 a2 fun t13=>
 C cN [t13] h fun t14 h0=>
 am 0 t14 fun t15=>
 am 1 t14 fun t16=>
 Q (.tup [t15,t16]) h0) (
 ai .eql a0 (I 6) fun t18=>
 ifB t18 (
 ai .sub a1 a2 fun t21=>
 C cN [t21] h fun t22 h1=>
 am 0 t22 fun t23=>
 am 1 t22 fun t24=>
 Q (.tup [t23,t24]) h1) (
 ai .eql a0 (I 7) fun t26=>
 ifB t26 (
 C oy [a1,a2] h fun t29 h2=>
 am 0 t29 fun t30=>
 am 1 t29 fun t31=>
 Q (.tup [t30,t31]) h2) (
 ai .eql a0 (I 8) fun t33=>
 ifB t33 (
 ai .and a1 a2 fun t36=>
 C cN [t36] h fun t37 h3=>
 am 0 t37 fun t38=>
 am 1 t37 fun t39=>
 Q (.tup [t38,t39]) h3) (
 ai .eql a0 (I 9) fun t41=>
 ifB t41 (
 ai .or a1 a2 fun t44=>
 C cN [t44] h fun t45 h4=>
 am 0 t45 fun t46=>
 am 1 t45 fun t47=>
 Q (.tup [t46,t47]) h4) (
 ai .lss a2 (I 0) fun t49=>
 ifB t49 (Q (.tup [(I 0),(I 6)]) h) (
 ai .gtr a2 (I 40) fun t52=>
 ifB t52 (
 Q (.tup [(I 0),(I 6)]) h) (
 ai .eql a0 (I 11) fun t55=>
 ifB t55 (
 ai .shr a1 a2 fun t58=>
 C cN [t58] h fun t59 h5=>
 am 0 t59 fun t60=>
 am 1 t59 fun t61=>
 Q (.tup [t60,t61]) h5) (
 ai .shl (I 1) a2 fun t64=>
 C oy [a1,t64] h fun t65 h6=>
 am 0 t65 fun t66=>
 am 1 t65 fun t67=>
 Q (.tup [t66,t67]) h6))))))))
theorem Nh (a0 a1 a2:AV) (h:ae) (Q:QT) (k:K6 a0 a1 a2 h Q):C vH [a0,a1,a2] h Q:=
 okF (pl:=[]) Tryz.func206 Tryz.ntmps206 (by kernel_rfl) rfl (by kernel_rfl) k
def H3 (a0:AV) (h:ae) (Q:QT):Prop:=
 ai .lss a0 (I (-1099511627776)) fun t5=>
 ifB t5 (Q (.tup [(I 0),(I 6)]) h) (
 ai .gtr a0 (I 1099511627776) fun t8=>
 ifB t8 (
 Q (.tup [(I 0),(I 6)]) h) (
 Q (.tup [a0,(I 0)]) h))
theorem Jg (a0:AV) (h:ae) (Q:QT) (k:H3 a0 h Q):C cN [a0] h Q:=
 okF (pl:=[]) Tryz.func203 Tryz.ntmps203 (by kernel_rfl) rfl (by kernel_rfl) k
def G5 (a0:AV) (h:ae) (Q:QT):Prop:=
 ai .geq a0 (.lit (.int .i32 48)) fun t4=>
 ifB t4 (ai .leq a0 (.lit (.int .i32 57)) fun t7=>
 Q t7 h) (
 Q (B false) h)
theorem Jd (a0:AV) (h:ae) (Q:QT) (k:G5 a0 h Q):C cZ [a0] h Q:=
 okF (pl:=[]) Tryz.func271 Tryz.ntmps271 (by kernel_rfl) rfl (by kernel_rfl) k
def P8 (a0:AV) (h:ae) (Q:QT):Prop:=
 C cZ [a0] h fun t4 h0=>
 ifB t4 (Q (B true) h0) (
 ai .geq a0 (.lit (.int .i32 97)) fun t7=>
 ifT t7 (ai .leq a0 (.lit (.int .i32 102)) fun t10=>
 Q t10 h0) (
 Q (B false) h0) (
 ifB (.tup []) (Q (.tup []) h0) (Q (B false) h0)))
theorem NX (a0:AV) (h:ae) (Q:QT) (k:P8 a0 h Q):C lU [a0] h Q:=
 okF (pl:=[]) Tryz.func268 Tryz.ntmps268 (by kernel_rfl) rfl (by kernel_rfl) k
def Hn (a0:AV) (h:ae) (Q:QT):Prop:=
 C tj [a0] h fun t4 h0=>
 ifB t4 (Q (B true) h0) (
 C cZ [a0] h0 fun t7 h1=>
 Q t7 h1)
theorem Ji (a0:AV) (h:ae) (Q:QT) (k:Hn a0 h Q):C d7 [a0] h Q:=
 okF (pl:=[]) Tryz.func272 Tryz.ntmps272 (by kernel_rfl) rfl (by kernel_rfl) k
def Ee (h:ae) (Q:QT):Prop:=
 ao 1 1 [(I 9)] fun t1=>
 ao 1 1 [(I 8)] fun t2=>
 ao 2 1 [(I 10),(I 11)] fun t3=>
 ao 2 1 [(I 5),(I 6)] fun t4=>
 ao 1 1 [(I 7)] fun t5=>
 ao 5 1 [t1,t2,t3,t4,t5] fun t6=>
 Q t6 h
theorem H6 (h:ae) (Q:QT) (k:Ee  h Q):C jC [] h Q:=
 okF (pl:=[]) Tryz.func253 Tryz.ntmps253 (by kernel_rfl) rfl (by kernel_rfl) k
def mF (a0 a1:AV) (h:ae) (Q:QT):Prop:=
 fe a1 h fun t3 h0=>
 cu [(I 0),(I 0),(S ⟨#[]⟩),(.full 0 [])] h0 fun t4 h1=>
 aE a0 fun t6=>
 ab 0 t6 fun t7=>
 af t7 h1 fun t8=>
 C cQ [t8,(.fn (.func d7) [] [])] h1 fun t9 h2=>
 ai .neq t9 (S ⟨#[]⟩) fun t10=>
 ifB t10 (
 C bX [a0] h2 fun t12 h3=>
 ak 4 t4 t12 h3 fun h4=>
 ap 4 t4 h4 fun r5=>
 Q r5 h4) (
 ap 4 t3 h2 fun t13=>
 ak 4 t4 t13 h2 fun h6=>
 ap 4 t4 h6 fun r7=>
 Q r7 h6)
theorem oU (a0 a1:AV) (h:ae) (Q:QT) (k:mF a0 a1 h Q):C cH [a0,a1] h Q:=
 okF (pl:=[]) Tryz.func269 Tryz.ntmps269 (by kernel_rfl) rfl (by kernel_rfl) k
def qN (a0:AV) (h:ae) (Q:QT):Prop:=
 aE a0 fun t4=>
 ab 0 t4 fun t5=>
 af t5 h fun t6=>
 C kG [t6,(S ⟨#[32]⟩)] h fun t7 h0=>
 aE a0 fun t8=>
 ab 0 t8 fun t9=>
 ak 1 t9 t7 h0 fun h1=>
 Q (.tup []) h1
theorem wn (a0:AV) (h:ae) (Q:QT) (k:qN a0 h Q):C fF [a0] h Q:=
 okF (pl:=[]) Tryz.func239 Tryz.ntmps239 (by kernel_rfl) rfl (by kernel_rfl) k
def uh (a0:AV) (h:ae) (Q:QT):Prop:=
 cu [(I 0),(I 0),(S ⟨#[]⟩),(.full 0 [])] h fun t2 h0=>
 aE a0 fun t4=>
 ab 2 t4 fun t5=>
 ak 1 t5 (B true) h0 fun h1=>
 ay [(I 0),(I 0),(S ⟨#[]⟩),(.full 0 [])] [] fun t6=>
 ak 4 t2 t6 h1 fun h2=>
 ap 4 t2 h2 fun r3=>
 Q r3 h2
theorem y9 (a0:AV) (h:ae) (Q:QT) (k:uh a0 h Q):C bX [a0] h Q:=
 okF (pl:=[]) Tryz.func274 Tryz.ntmps274 (by kernel_rfl) rfl (by kernel_rfl) k
def rq (a0:AV) (h:ae) (Q:QT):Prop:=
 cu [(I 0),(I 0),(S ⟨#[]⟩),(.full 0 [])] h fun t2 h0=>
 C cK [a0,(I 0)] h0 fun t5 h1=>
 cu [(I 0),(I 0),(S ⟨#[]⟩),(.full 0 [])] h1 fun t3 h2=>
 ak 4 t3 t5 h2 fun h3=>
 C cr [a0,(S ⟨#[41]⟩)] h3 fun t7 h4=>
 qUn .not t7 fun t8=>
 ifB t8 (
 C bX [a0] h4 fun t10 h5=>
 ak 4 t2 t10 h5 fun h6=>
 ap 4 t2 h6 fun r7=>
 Q r7 h6) (
 ap 4 t3 h4 fun t11=>
 ak 4 t2 t11 h4 fun h8=>
 ap 4 t2 h8 fun r9=>
 Q r9 h8)
theorem x4 (a0:AV) (h:ae) (Q:QT) (k:rq a0 h Q):C gf [a0] h Q:=
 okF (pl:=[]) Tryz.func264 Tryz.ntmps264 (by kernel_rfl) rfl (by kernel_rfl) k
def kR (s8 s7 s0:AV) (Q:QT) (vs0:List AV) (h:ae) (next0:NT):Prop:=
 ai .lss (aq vs0 1) s8 fun t10=>
 ifB t10 (
 an 1 s7 (aq vs0 1) fun t11=>
 af t11 h fun t12=>
 C tA [] h fun t14 h1=>
 an 1 t14 t12 fun t16=>
 af t16 h1 fun t17=>
 C cr [s0,t17] h1 fun t18 h2=>
 ifB t18 (
 Q t12 h2) (
 ai .add (aq vs0 1) (I 1) fun t20=>
 next0 [(aq vs0 0),t20] h2)) (
 Q (I 0) h)
def nK (a0 a1:AV) (h:ae) (Q:QT):Prop:=
 aX a1 fun t8=>
 cc [(I 0),(I 0)] h fun vs0 h next0=>kR t8 a1 a0 Q vs0 h next0
theorem px (a0 a1:AV) (h:ae) (Q:QT) (k:nK a0 a1 h Q):C eQ [a0,a1] h Q:=
 okF (pl:=[(3,[4,6,9,10,11,12,13,14,15,16,17,18,19,20],[4,9])]) Tryz.func255 Tryz.ntmps255 (by kernel_rfl) rfl (by kernel_rfl) k
def rH (a0:AV) (h:ae) (Q:QT):Prop:=
 cu [(I 0),(I 0),(S ⟨#[]⟩),(.full 0 [])] h fun t2 h0=>
 C de [a0] h0 fun t4 h1=>
 ao 1 4 [t4] fun t5=>
 ay [(I 0),(I 0),(S ⟨#[]⟩),(.full 0 [])] [(0,1,(I 4)),(3,1,t5)] fun t6=>
 ak 4 t2 t6 h1 fun h2=>
 ap 4 t2 h2 fun r3=>
 Q r3 h2
theorem yE (a0:AV) (h:ae) (Q:QT) (k:rH a0 h Q):C gh [a0] h Q:=
 okF (pl:=[]) Tryz.func265 Tryz.ntmps265 (by kernel_rfl) rfl (by kernel_rfl) k
def fD (s10 s7 s6 s0 s2:AV) (h:ae) (next2:NT) (Q:QT):Prop:=
 ai .mul s7 s2 fun t27=>
 ai .add t27 s10 fun t29=>
 ai .geq t29 (I 4294967296) fun t31=>
 ifB t31 (
 C bX [s0] h fun t33 h4=>
 ak 4 s6 t33 h4 fun h5=>
 ap 4 s6 h5 fun r6=>
 Q r6 h5) (
 next2 [t29] h)
def mA (s12 s6 s0 s1 s2:AV) (Q:QT) (vs2:List AV) (h:ae) (next2:NT):Prop:=
 Ak s12 h fun t13 h3=>
 am 0 t13 fun t14=>
 ifB t14 (
 am 2 t13 fun t15=>
 ai .sub t15 (.lit (.int .i32 48)) fun t17=>
 ck .i64 t17 fun t18=>
 ai .geq t15 (.lit (.int .i32 97)) fun t20=>
 ifB t20 (
 ai .sub t15 (.lit (.int .i32 97)) fun t22=>
 ck .i64 t22 fun t23=>
 ai .add t23 (I 10) fun t24=>
 fD t24 (aq vs2 0) s6 s0 s2 h3 next2 Q) (
 fD t18 (aq vs2 0) s6 s0 s2 h3 next2 Q)) (
 aE s0 fun t36=>
 ab 0 t36 fun t37=>
 af t37 h3 fun t38=>
 bJ s1 fun t40=>
 bl t38 (some t40) none fun t41=>
 aE s0 fun t42=>
 ab 0 t42 fun t43=>
 ak 1 t43 t41 h3 fun h8=>
 ay [(I 0),(I 0),(S ⟨#[]⟩),(.full 0 [])] [(0,1,(I 1)),(1,1,(aq vs2 0))] fun t45=>
 ak 4 s6 t45 h8 fun h9=>
 ap 4 s6 h9 fun r10=>
 Q r10 h9)
def qW (a0 a1 a2:AV) (h:ae) (Q:QT):Prop:=
 cu [(I 0),(I 0),(S ⟨#[]⟩),(.full 0 [])] h fun t6 h0=>
 u6 a1 h0 fun t12 h1=>
 cc [(I 0)] h1 fun vs2 h next2=>mA t12 t6 a0 a1 a2 Q vs2 h next2
theorem wu (a0 a1 a2:AV) (h:ae) (Q:QT) (k:qW a0 a1 a2 h Q):C cx [a0,a1,a2] h Q:=
 okF (pl:=[(4,[7,9,10,13,14,15,16,17,18,19,20,21,22,23,24,25,26,27,28,29,30,31,32,33],[7])]) Tryz.func270 Tryz.ntmps270 (by kernel_rfl) rfl (by kernel_rfl) k
def wa (a0:AV) (h:ae) (Q:QT):Prop:=
 cu [(I 0),(I 0),(S ⟨#[]⟩),(.full 0 [])] h fun t2 h0=>
 C cr [a0,(S ⟨#[40]⟩)] h0 fun t7 h1=>
 ifB t7 (
 C cX [a0,(.fn (.func gf) [a0] [])] h1 fun t11 h2=>
 ak 4 t2 t11 h2 fun h3=>
 ap 4 t2 h3 fun r4=>
 Q r4 h3) (
 C cr [a0,(S ⟨#[45]⟩)] h1 fun t14 h5=>
 ifB t14 (
 C cX [a0,(.fn (.func gh) [a0] [])] h5 fun t18 h6=>
 ak 4 t2 t18 h6 fun h7=>
 ap 4 t2 h7 fun r8=>
 Q r8 h7) (
 C cr [a0,(S ⟨#[46]⟩)] h5 fun t21 h9=>
 ifB t21 (
 ay [(I 0),(I 0),(S ⟨#[]⟩),(.full 0 [])] [(0,1,(I 3))] fun t22=>
 ak 4 t2 t22 h9 fun h10=>
 ap 4 t2 h10 fun r11=>
 Q r11 h10) (
 aE a0 fun t25=>
 ab 2 t25 fun t26=>
 af t26 h9 fun t27=>
 ifB t27 (
 ay [(I 0),(I 0),(S ⟨#[]⟩),(.full 0 [])] [] fun t28=>
 ak 4 t2 t28 h9 fun h12=>
 ap 4 t2 h12 fun r13=>
 Q r13 h12) (
 aE a0 fun t30=>
 ab 0 t30 fun t31=>
 af t31 h9 fun t32=>
 C gc [t32,(S ⟨#[48,120]⟩)] h9 fun t33 h14=>
 ifB t33 (aE a0 fun t36=>
 ab 0 t36 fun t37=>
 af t37 h14 fun t38=>
 bl t38 (some (I 2)) none fun t39=>
 C cQ [t39,(.fn (.func lU) [] [])] h14 fun t40 h15=>
 ai .neq t40 (S ⟨#[]⟩) fun t41=>
 ifB t41 (
 aE a0 fun t45=>
 ab 0 t45 fun t46=>
 af t46 h15 fun t47=>
 bl t47 (some (I 2)) none fun t48=>
 aE a0 fun t49=>
 ab 0 t49 fun t50=>
 ak 1 t50 t48 h15 fun h16=>
 aE a0 fun t54=>
 ab 0 t54 fun t55=>
 af t55 h16 fun t56=>
 C cQ [t56,(.fn (.func lU) [] [])] h16 fun t57 h17=>
 C cx [a0,t57,(I 16)] h17 fun t58 h18=>
 C cH [a0,t58] h18 fun t59 h19=>
 ak 4 t2 t59 h19 fun h20=>
 ap 4 t2 h20 fun r21=>
 Q r21 h20) (
 aE a0 fun t61=>
 ab 0 t61 fun t62=>
 af t62 h15 fun t63=>
 C cQ [t63,(.fn (.func cZ) [] [])] h15 fun t64 h22=>
 ai .neq t64 (S ⟨#[]⟩) fun t66=>
 ifB t66 (
 C cx [a0,t64,(I 10)] h22 fun t70 h23=>
 C cH [a0,t70] h23 fun t71 h24=>
 ak 4 t2 t71 h24 fun h25=>
 ap 4 t2 h25 fun r26=>
 Q r26 h25) (
 aE a0 fun t73=>
 ab 0 t73 fun t74=>
 af t74 h22 fun t75=>
 C cQ [t75,(.fn (.func d7) [] [])] h22 fun t76 h27=>
 C ng [t76] h27 fun t78 h28=>
 ifB t78 (
 aE a0 fun t81=>
 ab 0 t81 fun t82=>
 af t82 h28 fun t83=>
 bJ t76 fun t85=>
 bl t83 (some t85) none fun t86=>
 aE a0 fun t87=>
 ab 0 t87 fun t88=>
 ak 1 t88 t86 h28 fun h29=>
 ay [(I 0),(I 0),(S ⟨#[]⟩),(.full 0 [])] [(0,1,(I 2)),(2,1,t76)] fun t90=>
 ak 4 t2 t90 h29 fun h30=>
 ap 4 t2 h30 fun r31=>
 Q r31 h30) (
 C bX [a0] h28 fun t92 h32=>
 ak 4 t2 t92 h32 fun h33=>
 ap 4 t2 h33 fun r34=>
 Q r34 h33)))) (
 aE a0 fun t61=>
 ab 0 t61 fun t62=>
 af t62 h14 fun t63=>
 C cQ [t63,(.fn (.func cZ) [] [])] h14 fun t64 h35=>
 ai .neq t64 (S ⟨#[]⟩) fun t66=>
 ifB t66 (
 C cx [a0,t64,(I 10)] h35 fun t70 h36=>
 C cH [a0,t70] h36 fun t71 h37=>
 ak 4 t2 t71 h37 fun h38=>
 ap 4 t2 h38 fun r39=>
 Q r39 h38) (
 aE a0 fun t73=>
 ab 0 t73 fun t74=>
 af t74 h35 fun t75=>
 C cQ [t75,(.fn (.func d7) [] [])] h35 fun t76 h40=>
 C ng [t76] h40 fun t78 h41=>
 ifB t78 (
 aE a0 fun t81=>
 ab 0 t81 fun t82=>
 af t82 h41 fun t83=>
 bJ t76 fun t85=>
 bl t83 (some t85) none fun t86=>
 aE a0 fun t87=>
 ab 0 t87 fun t88=>
 ak 1 t88 t86 h41 fun h42=>
 ay [(I 0),(I 0),(S ⟨#[]⟩),(.full 0 [])] [(0,1,(I 2)),(2,1,t76)] fun t90=>
 ak 4 t2 t90 h42 fun h43=>
 ap 4 t2 h43 fun r44=>
 Q r44 h43) (
 C bX [a0] h41 fun t92 h45=>
 ak 4 t2 t92 h45 fun h46=>
 ap 4 t2 h46 fun r47=>
 Q r47 h46)))))))
theorem Ba (a0:AV) (h:ae) (Q:QT) (k:wa a0 h Q):C de [a0] h Q:=
 okF (pl:=[]) Tryz.func254 Tryz.ntmps254 (by kernel_rfl) rfl (by kernel_rfl) k
def nJ (a0 a1:AV) (h:ae) (Q:QT):Prop:=
 C fF [a0] h fun t6 h0=>
 aE a0 fun t8=>
 ab 2 t8 fun t9=>
 af t9 h0 fun t10=>
 ifB t10 (Q (B false) h0) (
 aE a0 fun t13=>
 ab 0 t13 fun t14=>
 af t14 h0 fun t15=>
 C gc [t15,a1] h0 fun t17 h1=>
 qUn .not t17 fun t18=>
 ifB t18 (
 Q (B false) h1) (
 aE a0 fun t22=>
 ab 0 t22 fun t23=>
 af t23 h1 fun t24=>
 bJ a1 fun t26=>
 bl t24 (some t26) none fun t27=>
 aE a0 fun t28=>
 ab 0 t28 fun t29=>
 ak 1 t29 t27 h1 fun h2=>
 Q (B true) h2))
theorem pK (a0 a1:AV) (h:ae) (Q:QT) (k:nJ a0 a1 h Q):C cr [a0,a1] h Q:=
 okF (pl:=[]) Tryz.func262 Tryz.ntmps262 (by kernel_rfl) rfl (by kernel_rfl) k
def kU (s5 s4 s0 s1:AV) (Q:QT) (vs10:List AV) (h:ae) (next10:NT):Prop:=
 ai .neq (aq vs10 0) (I 0) fun t24=>
 ifB t24 (aE s0 fun t27=>
 ab 2 t27 fun t28=>
 af t28 h fun t29=>
 qUn .not t29 fun t30=>
 ifB t30 (
 ap 4 s5 h fun t39=>
 ai .add s1 (I 1) fun t42=>
 C cK [s0,t42] h fun t43 h11=>
 (ap 4 s5 h11 fun _t=>
 _t=t39)∧
 ao 2 4 [t39,t43] fun t44=>
 ay [(I 0),(I 0),(S ⟨#[]⟩),(.full 0 [])] [(0,1,(aq vs10 0)),(3,1,t44)] fun t45=>
 ak 4 s5 t45 h11 fun h12=>
 C jC [] h12 fun t33 h13=>
 an 1 t33 s1 fun t35=>
 af t35 h13 fun t36=>
 C eQ [s0,t36] h13 fun t37 h14=>
 next10 [t37] h14) (
 ap 4 s5 h fun t46=>
 ak 4 s4 t46 h fun h15=>
 ap 4 s4 h15 fun r16=>
 Q r16 h15)) (
 ap 4 s5 h fun t46=>
 ak 4 s4 t46 h fun h17=>
 ap 4 s4 h17 fun r18=>
 Q r18 h17)
def pf (a0 a1:AV) (h:ae) (Q:QT):Prop:=
 cu [(I 0),(I 0),(S ⟨#[]⟩),(.full 0 [])] h fun t4 h0=>
 C jC [] h0 fun t8 h1=>
 aX t8 fun t9=>
 ai .eql a1 t9 fun t10=>
 ifB t10 (
 C de [a0] h1 fun t12 h2=>
 ak 4 t4 t12 h2 fun h3=>
 ap 4 t4 h3 fun r4=>
 Q r4 h3) (
 ai .add a1 (I 1) fun t15=>
 C cK [a0,t15] h1 fun t16 h5=>
 cu [(I 0),(I 0),(S ⟨#[]⟩),(.full 0 [])] h5 fun t5 h6=>
 ak 4 t5 t16 h6 fun h7=>
 C jC [] h7 fun t18 h8=>
 an 1 t18 a1 fun t20=>
 af t20 h8 fun t21=>
 C eQ [a0,t21] h8 fun t22 h9=>
 cc [t22] h9 fun vs10 h next10=>kU t5 t4 a0 a1 Q vs10 h next10)
theorem qY (a0 a1:AV) (h:ae) (Q:QT) (k:pf a0 a1 h Q):C cK [a0,a1] h Q:=
 okF (pl:=[(6,[6,23,24,25,26,27,28,29,30,31,32,33,34,35,36,37,38,39,40,41,42,43,44,45],[6]),(1000007,[0,1,2,3,4,5,6,7,8],[])]) Tryz.func238 Tryz.ntmps238 (by kernel_rfl) rfl (by kernel_rfl) k
def lJ (a0 a1:AV) (h:ae) (Q:QT):Prop:=
 cu [(I 0),(I 0),(S ⟨#[]⟩),(.full 0 [])] h fun t4 h0=>
 aE a0 fun t7=>
 ab 1 t7 fun t8=>
 af t8 h0 fun t9=>
 ai .geq t9 (I 12) fun t10=>
 ifB t10 (
 C bX [a0] h0 fun t12 h1=>
 ak 4 t4 t12 h1 fun h2=>
 ap 4 t4 h2 fun r3=>
 Q r3 h2) (
 aE a0 fun t14=>
 ab 1 t14 fun t15=>
 af t15 h0 fun t16=>
 ai .add t16 (I 1) fun t17=>
 aE a0 fun t18=>
 ab 1 t18 fun t19=>
 ak 1 t19 t17 h0 fun h4=>
 CV a1 [] h4 fun t21 h5=>
 cu [(I 0),(I 0),(S ⟨#[]⟩),(.full 0 [])] h5 fun t5 h6=>
 ak 4 t5 t21 h6 fun h7=>
 aE a0 fun t23=>
 ab 1 t23 fun t24=>
 af t24 h7 fun t25=>
 ai .sub t25 (I 1) fun t26=>
 aE a0 fun t27=>
 ab 1 t27 fun t28=>
 ak 1 t28 t26 h7 fun h8=>
 ap 4 t5 h8 fun t29=>
 ak 4 t4 t29 h8 fun h9=>
 ap 4 t4 h9 fun r10=>
 Q r10 h9)
theorem nw (a0 a1:AV) (h:ae) (Q:QT) (k:lJ a0 a1 h Q):C cX [a0,a1] h Q:=
 okF (pl:=[]) Tryz.func263 Tryz.ntmps263 (by kernel_rfl) rfl (by kernel_rfl) k
def Gp (h:ae) (Q:QT):Prop:=
 ao 12 1 [(S ⟨#[]⟩),(S ⟨#[]⟩),(S ⟨#[]⟩),(S ⟨#[46]⟩),(S ⟨#[45]⟩),(S ⟨#[43]⟩),(S ⟨#[45]⟩),(S ⟨#[42]⟩),(S ⟨#[38]⟩),(S ⟨#[124]⟩),(S ⟨#[60,60]⟩),(S ⟨#[62,62]⟩)] fun t1=>
 Q t1 h
theorem Jp (h:ae) (Q:QT) (k:Gp  h Q):C tA [] h Q:=
 okF (pl:=[]) Tryz.func275 Tryz.ntmps275 (by kernel_rfl) rfl (by kernel_rfl) k
def HY (a0:AV) (h:ae) (Q:QT):Prop:=
 ai .geq a0 (.lit (.int .i32 97)) fun t4=>
 ifB t4 (ai .leq a0 (.lit (.int .i32 122)) fun t7=>
 ifB t7 (Q (B true) h) (
 ai .eql a0 (.lit (.int .i32 95)) fun t11=>
 Q t11 h)) (
 ai .eql a0 (.lit (.int .i32 95)) fun t11=>
 Q t11 h)
theorem Jk (a0:AV) (h:ae) (Q:QT) (k:HY a0 h Q):C tj [a0] h Q:=
 okF (pl:=[]) Tryz.func290 Tryz.ntmps290 (by kernel_rfl) rfl (by kernel_rfl) k
def Hl (a0 a1:AV) (h:ae) (Q:QT):Prop:=
 ai .eql a0 (I 0) fun t8=>
 ifB t8 (Q (.tup [(I 0),(I 0)]) h) (
 ai .eql a1 (I 0) fun t11=>
 ifB t11 (
 Q (.tup [(I 0),(I 0)]) h) (
 ai .mul a0 a1 fun t15=>
 qUn .neg a0 fun t18=>
 CQ a0 t18 fun t19=>
 qUn .neg a1 fun t22=>
 CQ a1 t22 fun t23=>
 ai .quo (I 1099511627776) t23 fun t24=>
 ai .gtr t19 t24 fun t25=>
 ifB t25 (
 Q (.tup [(I 0),(I 6)]) h) (
 C cN [t15] h fun t27 h0=>
 am 0 t27 fun t28=>
 am 1 t27 fun t29=>
 Q (.tup [t28,t29]) h0)))
theorem IX (a0 a1:AV) (h:ae) (Q:QT) (k:Hl a0 a1 h Q):C oy [a0,a1] h Q:=
 okF (pl:=[]) Tryz.func240 Tryz.ntmps240 (by kernel_rfl) rfl (by kernel_rfl) k
def Lo (a0:AV) (h:ae) (Q:QT):Prop:=
 ai .eql a0 (S ⟨#[]⟩) fun t4=>
 ifB t4 (Q (B false) h) (
 bJ a0 fun t7=>
 ai .gtr t7 (I 12) fun t8=>
 ifB t8 (Q (B false) h) (
 bj a0 (I 0) fun t12=>
 ck .i32 t12 fun t13=>
 C cZ [t13] h fun t14 h0=>
 ifB t14 (Q (B false) h0) (
 C cQ [a0,(.fn (.func d7) [] [])] h0 fun t18 h1=>
 ai .neq t18 a0 fun t20=>
 ifB t20 (
 Q (B false) h1) (
 bj a0 (I 0) fun t23=>
 ai .neq t23 (.lit (.int .u8 114)) fun t24=>
 ifB t24 (Q (B true) h1) (
 bJ a0 fun t27=>
 ai .eql t27 (I 1) fun t28=>
 ifB t28 (Q (B true) h1) (
 bl a0 (some (I 1)) none fun t32=>
 bl a0 (some (I 1)) none fun t35=>
 C cQ [t32,(.fn (.func cZ) [] [])] h1 fun t33 h2=>
 ai .neq t33 t35 fun t36=>
 Q t36 h2))))))
theorem Ng (a0:AV) (h:ae) (Q:QT) (k:Lo a0 h Q):C ng [a0] h Q:=
 okF (pl:=[(1000003,[0,1,2,3,4,5,6,7,8,9,10,12,13,11,14,15,16],[])]) Tryz.func273 Tryz.ntmps273 (by kernel_rfl) rfl (by kernel_rfl) k
def kp (s0 s4 s2:AV) (h:ae) (Q:QT):Prop:=
 ai .eql s0 (S ⟨#[]⟩) fun t47=>
 ifB t47 (
 aE s4 fun t49=>
 ab 0 t49 fun t50=>
 ab 1 t50 fun t51=>
 af t51 h fun t52=>
 ai .eql t52 (S ⟨#[]⟩) fun t53=>
 ifB t53 (
 ay [(I 0),(S ⟨#[]⟩),(I 0),(I 0),(S ⟨#[]⟩),(.full 0 [])] [] fun t54=>
 ak 6 s2 t54 h fun h12=>
 ap 6 s2 h12 fun r13=>
 Q (.tup [r13,(B true)]) h12) (
 aE s4 fun t56=>
 ab 0 t56 fun t57=>
 ap 6 t57 h fun t58=>
 ak 6 s2 t58 h fun h14=>
 ap 6 s2 h14 fun r15=>
 Q (.tup [r15,(B true)]) h14)) (
 C fa [s0,(.fn (.func ol) [] [])] h fun t60 h16=>
 bl s0 none (some t60) fun t64=>
 bl s0 (some t60) none fun t67=>
 C fO [t67,(S ⟨#[32,9]⟩)] h16 fun t68 h17=>
 C gx [s4,t64,t68] h17 fun t69 h18=>
 qUn .not t69 fun t70=>
 ifB t70 (
 ay [(I 0),(S ⟨#[]⟩),(I 0),(I 0),(S ⟨#[]⟩),(.full 0 [])] [] fun t71=>
 ak 6 s2 t71 h18 fun h19=>
 ap 6 s2 h19 fun r20=>
 Q (.tup [r20,(B false)]) h19) (
 aE s4 fun t74=>
 ab 0 t74 fun t75=>
 ab 5 t75 fun t76=>
 af t76 h18 fun t77=>
 C dJ [t77] h18 fun t78 h21=>
 aE s4 fun t79=>
 ab 0 t79 fun t80=>
 ab 5 t80 fun t81=>
 ak 1 t81 t78 h21 fun h22=>
 aE s4 fun t83=>
 ab 0 t83 fun t84=>
 ap 6 t84 h22 fun t85=>
 ak 6 s2 t85 h22 fun h23=>
 ap 6 s2 h23 fun r24=>
 Q (.tup [r24,(B true)]) h23))
def O6 (a0:AV) (h:ae) (Q:QT):Prop:=
 cu [(I 0),(S ⟨#[]⟩),(I 0),(I 0),(S ⟨#[]⟩),(.full 0 [])] h fun t2 h0=>
 C jy [a0,(.lit (.int .u8 10))] h0 fun t8 h1=>
 ai .geq t8 (I 0) fun t9=>
 ifB t9 (
 ay [(I 0),(S ⟨#[]⟩),(I 0),(I 0),(S ⟨#[]⟩),(.full 0 [])] [] fun t10=>
 ak 6 t2 t10 h1 fun h2=>
 ap 6 t2 h2 fun r3=>
 Q (.tup [r3,(B false)]) h2) (
 C uL [a0] h1 fun t12 h4=>
 ay [(I 0),(S ⟨#[]⟩),(I 0),(I 0),(S ⟨#[]⟩),(.full 0 [])] [(0,1,(I 1))] fun t13=>
 ay [(I 0),(S ⟨#[]⟩),(I 0),(I 0),(S ⟨#[]⟩),(.full 0 [])] [(0,6,t13)] fun t14=>
 fe t14 h4 fun t15 h5=>
 C fa [t12,(.fn (.func lm) [] [])] h5 fun t17 h6=>
 bJ t12 fun t20=>
 ai .lss t17 t20 fun t21=>
 ifB t21 (bj t12 t17 fun t25=>
 ai .eql t25 (.lit (.int .u8 58)) fun t26=>
 ifB t26 (
 bl t12 none (some t17) fun t30=>
 C m3 [t30] h6 fun t31 h7=>
 qUn .not t31 fun t32=>
 ifB t32 (
 ay [(I 0),(S ⟨#[]⟩),(I 0),(I 0),(S ⟨#[]⟩),(.full 0 [])] [] fun t33=>
 ak 6 t2 t33 h7 fun h8=>
 ap 6 t2 h8 fun r9=>
 Q (.tup [r9,(B false)]) h8) (
 bl t12 none (some t17) fun t37=>
 ai .add t17 (I 1) fun t40=>
 bl t12 (some t40) none fun t41=>
 C fO [t41,(S ⟨#[32,9]⟩)] h7 fun t42 h10=>
 aE t15 fun t43=>
 ab 0 t43 fun t44=>
 ab 1 t44 fun t45=>
 ak 1 t45 t37 h10 fun h11=>
 kp t42 t15 t2 h11 Q)) (
 kp t12 t15 t2 h6 Q)) (
 kp t12 t15 t2 h6 Q))
theorem NM (a0:AV) (h:ae) (Q:QT) (k:O6 a0 h Q):C xT [a0] h Q:=
 okF (pl:=[(1000009,[0,1,2,3,4,5,6,7,8,9,10,11,12,13],[]),(1000015,[0,1,2,3,4,5,6,7,8,9],[])]) Tryz.func79 Tryz.ntmps79 (by kernel_rfl) rfl (by kernel_rfl) k
def IR (a0:AV) (h:ae) (Q:QT):Prop:=
 ai .neq a0 (.lit (.int .u8 32)) fun t4=>
 ifB t4 (ai .neq a0 (.lit (.int .u8 9)) fun t7=>
 Q t7 h) (
 Q (B false) h)
theorem JA (a0:AV) (h:ae) (Q:QT) (k:IR a0 h Q):C ol [a0] h Q:=
 okF (pl:=[]) Tryz.func111 Tryz.ntmps111 (by kernel_rfl) rfl (by kernel_rfl) k
def sU (s3 s2 s11:AV) (h:ae) (next1:NT):Prop:=
 ai .add s11 (I 1) fun t40=>
 next1 [s2,s3,t40] h
def tf (s3 s2 s11:AV) (h:ae) (next1:NT):Prop:=
 sU s3 s2 s11 h next1
def lh (s3 s2 s11:AV) (h:ae) (next1:NT):Prop:=
 tf s3 s2 s11 h next1
def yb (s10 s9:AV) (Q:QT) (vs1:List AV) (h:ae) (next1:NT):Prop:=
 ai .lss (aq vs1 2) s10 fun t12=>
 ifB t12 (
 an 1 s9 (aq vs1 2) fun t14=>
 af t14 h fun t15=>
 C xT [t15] h fun t18 h2=>
 am 0 t18 fun t19=>
 am 1 t18 fun t20=>
 cu [(I 0),(S ⟨#[]⟩),(I 0),(I 0),(S ⟨#[]⟩),(.full 0 [])] h2 fun t6 h3=>
 ak 6 t6 t19 h3 fun h4=>
 qUn .not t20 fun t23=>
 ifB t23 (
 ai .add (aq vs1 2) (I 1) fun t26=>
 ao 1 1 [t26] fun t27=>
 bg 1 8 (aq vs1 1) t27 h4 fun t28 h5=>
 lh t28 (aq vs1 0) (aq vs1 2) h5 next1) (
 ab 0 t6 fun t30=>
 af t30 h4 fun t31=>
 ai .gtr t31 (I 0) fun t32=>
 ifB t32 (
 ai .add (aq vs1 2) (I 1) fun t34=>
 ab 0 t6 fun t35=>
 ak 1 t35 t34 h4 fun h9=>
 ap 6 t6 h9 fun t37=>
 ao 1 6 [t37] fun t38=>
 bg 6 80 (aq vs1 0) t38 h9 fun t39 h10=>
 lh (aq vs1 1) t39 (aq vs1 2) h10 next1) (
 lh (aq vs1 1) (aq vs1 0) (aq vs1 2) h4 next1))) (
 C dh [(aq vs1 0)] h fun t42 h11=>
 C gm [(aq vs1 1)] h11 fun t44 h12=>
 Q (.tup [t42,t44]) h12)
def GK (a0:AV) (h:ae) (Q:QT):Prop:=
 C gQ [a0,(S ⟨#[10]⟩)] h fun t9 h0=>
 aX t9 fun t10=>
 cc [(.full 0 []),(.full 0 []),(I 0)] h0 fun vs1 h next1=>yb t10 t9 Q vs1 h next1
theorem I5 (a0:AV) (h:ae) (Q:QT) (k:GK a0 h Q):C tu [a0] h Q:=
 okF (pl:=[(3,[2,3,4,5,6,7,11,12,13,14,15,16,17,18,19,20,21,22,23,24,25,26,27,28,29,30,31,32,33,34,35,36,37,38,39,40],[2,3,11])]) Tryz.func45 Tryz.ntmps45 (by kernel_rfl) rfl (by kernel_rfl) k
def KU (a0:AV) (h:ae) (Q:QT):Prop:=
 ai .eql a0 (S ⟨#[]⟩) fun t4=>
 ifB t4 (Q (B false) h) (
 bJ a0 fun t7=>
 ai .gtr t7 (I 12) fun t8=>
 ifB t8 (Q (B false) h) (
 bj a0 (I 0) fun t12=>
 C d9 [t12] h fun t13 h0=>
 ifB t13 (Q (B false) h0) (
 C fa [a0,(.fn (.func lm) [] [])] h0 fun t17 h1=>
 bJ a0 fun t19=>
 ai .neq t17 t19 fun t20=>
 ifB t20 (
 Q (B false) h1) (
 bj a0 (I 0) fun t23=>
 ai .neq t23 (.lit (.int .u8 114)) fun t24=>
 ifB t24 (Q (B true) h1) (
 bJ a0 fun t27=>
 ai .eql t27 (I 1) fun t28=>
 ifB t28 (Q (B true) h1) (
 bl a0 (some (I 1)) none fun t32=>
 C fa [t32,(.fn (.func d9) [] [])] h1 fun t33 h2=>
 bJ a0 fun t35=>
 ai .sub t35 (I 1) fun t36=>
 ai .neq t33 t36 fun t37=>
 Q t37 h2))))))
theorem M7 (a0:AV) (h:ae) (Q:QT) (k:KU a0 h Q):C m3 [a0] h Q:=
 okF (pl:=[]) Tryz.func56 Tryz.ntmps56 (by kernel_rfl) rfl (by kernel_rfl) k
def yi (s0 s1:AV) (Q:QT) (vs0:List AV) (h:ae) (next0:NT):Prop:=
 aX s1 fun t14=>
 ai .lss (aq vs0 1) t14 fun t15=>
 ifB t15 (ifB (aq vs0 0) (
 an 1 s1 (aq vs0 1) fun t23=>
 af t23 h fun t24=>
 an 1 s0 (aq vs0 1) fun t27=>
 af t27 h fun t28=>
 CV t24 [t28] h fun t29 h1=>
 ai .add (aq vs0 1) (I 1) fun t20=>
 next0 [t29,t20] h1) (
 Q (aq vs0 0) h)) (
 Q (aq vs0 0) h)
def Pz (a0 a1:AV) (h:ae) (Q:QT):Prop:=
 aX a0 fun t8=>
 aX a1 fun t10=>
 ai .eql t8 t10 fun t11=>
 cc [t11,(I 0)] h fun vs0 h next0=>yi a0 a1 Q vs0 h next0
theorem Px (a0 a1:AV) (h:ae) (Q:QT) (k:Pz a0 a1 h Q):C fR [a0,a1] h Q:=
 okF (pl:=[(4,[5,6,12,13,14,15,16,17,18,19,20,21,22,23,24,25,26,27,28,29],[5,6]),(1000005,[0,1,2,3,4,5,6,7,8,9],[])]) Tryz.func150 Tryz.ntmps150 (by kernel_rfl) rfl (by kernel_rfl) k
def F9 (a0:AV) (h:ae) (Q:QT):Prop:=
 ai .geq a0 (.lit (.int .u8 48)) fun t4=>
 ifB t4 (ai .leq a0 (.lit (.int .u8 57)) fun t7=>
 Q t7 h) (
 Q (B false) h)
theorem Js (a0:AV) (h:ae) (Q:QT) (k:F9 a0 h Q):C d9 [a0] h Q:=
 okF (pl:=[]) Tryz.func95 Tryz.ntmps95 (by kernel_rfl) rfl (by kernel_rfl) k
def zJ (s0 s1:AV) (Q:QT) (vs0:List AV) (h:ae) (next0:NT):Prop:=
 bJ s0 fun t8=>
 ai .lss (aq vs0 0) t8 fun t9=>
 ifB t9 (bj s0 (aq vs0 0) fun t14=>
 CV s1 [t14] h fun t15 h1=>
 ifB t15 (
 ai .add (aq vs0 0) (I 1) fun t18=>
 next0 [t18] h1) (
 Q (aq vs0 0) h1)) (
 Q (aq vs0 0) h)
def H7 (a0 a1:AV) (h:ae) (Q:QT):Prop:=
 cc [(I 0)] h fun vs0 h next0=>zJ a0 a1 Q vs0 h next0
theorem Jf (a0 a1:AV) (h:ae) (Q:QT) (k:H7 a0 a1 h Q):C fa [a0,a1] h Q:=
 okF (pl:=[(3,[5,6,7,8,9,10,11,12,13,14,15,16,17,18],[5])]) Tryz.func96 Tryz.ntmps96 (by kernel_rfl) rfl (by kernel_rfl) k
def Hx (h:ae) (Q:QT):Prop:=
 ao 3 1 [(S ⟨#[98]⟩),(S ⟨#[98,108]⟩),(S ⟨#[98,99]⟩)] fun t1=>
 Q t1 h
theorem Jz (h:ae) (Q:QT) (k:Hx  h Q):C te [] h Q:=
 okF (pl:=[]) Tryz.func149 Tryz.ntmps149 (by kernel_rfl) rfl (by kernel_rfl) k
def GM (a0:AV) (h:ae) (Q:QT):Prop:=
 ai .geq a0 (.lit (.int .u8 97)) fun t4=>
 ifB t4 (ai .leq a0 (.lit (.int .u8 122)) fun t7=>
 ifB t7 (Q (B true) h) (
 ai .eql a0 (.lit (.int .u8 95)) fun t11=>
 ifB t11 (Q (B true) h) (
 C d9 [a0] h fun t15 h0=>
 Q t15 h0))) (
 ai .eql a0 (.lit (.int .u8 95)) fun t11=>
 ifB t11 (Q (B true) h) (
 C d9 [a0] h fun t15 h1=>
 Q t15 h1))
theorem Jh (a0:AV) (h:ae) (Q:QT) (k:GM a0 h Q):C lm [a0] h Q:=
 okF (pl:=[]) Tryz.func97 Tryz.ntmps97 (by kernel_rfl) rfl (by kernel_rfl) k
def uo (s10 s3:AV) (Q:QT) (vs1:List AV) (h:ae) (next1:NT):Prop:=
 ai .lss (aq vs1 0) s10 fun t12=>
 ifB t12 (
 an 1 s3 (aq vs1 0) fun t18=>
 af t18 h fun t19=>
 C fO [t19,(S ⟨#[32,9]⟩)] h fun t20 h2=>
 an 1 s3 (aq vs1 0) fun t21=>
 ak 1 t21 t20 h2 fun h3=>
 ai .add (aq vs1 0) (I 1) fun t22=>
 next1 [t22] h3) (
 Q s3 h)
def zM (a0:AV) (h:ae) (Q:QT):Prop:=
 ai .eql a0 (S ⟨#[]⟩) fun t6=>
 ifB t6 (
 Q (.full 0 []) h) (
 C gQ [a0,(S ⟨#[44]⟩)] h fun t8 h0=>
 aX t8 fun t10=>
 cc [(I 0)] h0 fun vs1 h next1=>uo t10 t8 Q vs1 h next1)
theorem C1 (a0:AV) (h:ae) (Q:QT) (k:zM a0 h Q):C n8 [a0] h Q:=
 okF (pl:=[(6,[4,11,12,13,14,15,16,17,18,19,20,21,22],[11])]) Tryz.func146 Tryz.ntmps146 (by kernel_rfl) rfl (by kernel_rfl) k
def sD (a0 a1:AV) (h:ae) (Q:QT):Prop:=
 bJ a1 fun t6=>
 ai .lss t6 (I 2) fun t7=>
 ifB t7 (Q (B false) h) (
 bJ a1 fun t10=>
 ai .gtr t10 (I 62) fun t11=>
 ifB t11 (Q (B false) h) (
 bj a1 (I 0) fun t15=>
 ai .neq t15 (.lit (.int .u8 34)) fun t16=>
 ifB t16 (Q (B false) h) (
 bJ a1 fun t21=>
 ai .sub t21 (I 1) fun t22=>
 bj a1 t22 fun t23=>
 ai .neq t23 (.lit (.int .u8 34)) fun t24=>
 ifB t24 (
 Q (B false) h) (
 bJ a1 fun t29=>
 ai .sub t29 (I 1) fun t30=>
 bl a1 (some (I 1)) (some t30) fun t31=>
 aE a0 fun t32=>
 ab 0 t32 fun t33=>
 ab 4 t33 fun t34=>
 ak 1 t34 t31 h fun h0=>
 aE a0 fun t36=>
 ab 0 t36 fun t37=>
 ab 4 t37 fun t38=>
 af t38 h0 fun t39=>
 aE a0 fun t42=>
 ab 0 t42 fun t43=>
 ab 4 t43 fun t44=>
 af t44 h0 fun t45=>
 bJ t45 fun t46=>
 C fa [t39,(.fn (.func eW) [] [])] h0 fun t40 h1=>
 (af t44 h1 fun _t=>
 _t=t45)∧
 ai .eql t40 t46 fun t47=>
 Q t47 h1))))
theorem wE (a0 a1:AV) (h:ae) (Q:QT) (k:sD a0 a1 h Q):C jE [a0,a1] h Q:=
 okF (pl:=[(1000004,[0,1,2,3,4,6,7,8,9,10,11,5,12,13],[])]) Tryz.func153 Tryz.ntmps153 (by kernel_rfl) rfl (by kernel_rfl) k
def pC (a0:AV) (h:ae) (Q:QT):Prop:=
 ai .geq a0 (.lit (.int .u8 32)) fun t4=>
 ifB t4 (ai .leq a0 (.lit (.int .u8 126)) fun t7=>
 ifB t7 (ai .neq a0 (.lit (.int .u8 34)) fun t11=>
 Q t11 h) (
 Q (B false) h)) (
 Q (B false) h)
theorem vJ (a0:AV) (h:ae) (Q:QT) (k:pC a0 h Q):C eW [a0] h Q:=
 okF (pl:=[]) Tryz.func202 Tryz.ntmps202 (by kernel_rfl) rfl (by kernel_rfl) k
def fy (s5 s16:AV) (h:ae) (next2:NT):Prop:=
 ai .add s16 (I 1) fun t34=>
 next2 [s5,t34] h
def dA (s5 s16:AV) (h:ae) (next2:NT):Prop:=
 fy s5 s16 h next2
def jM (s15 s14 s0 s1:AV) (Q:QT) (vs2:List AV) (h:ae) (next2:NT):Prop:=
 ai .lss (aq vs2 1) s15 fun t17=>
 ifB t17 (
 an 1 s14 (aq vs2 1) fun t18=>
 af t18 h fun t19=>
 ai .add (S ⟨#[32]⟩) t19 fun t21=>
 ai .add t21 (S ⟨#[32]⟩) fun t22=>
 C kH [(S ⟨#[32,88,32,89,32,68,32,65,32,66,32]⟩),t22] h fun t23 h3=>
 ifB t23 (
 ao 1 1 [(.fn (.func ey) [s0] [])] fun t27=>
 bg 1 8 (aq vs2 0) t27 h3 fun t28 h4=>
 dA t28 (aq vs2 1) h4 next2) (
 ao 1 1 [(.fn (.func bH) [s0] [])] fun t32=>
 bg 1 8 (aq vs2 0) t32 h3 fun t33 h7=>
 dA t33 (aq vs2 1) h7 next2)) (
 C fR [s1,(aq vs2 0)] h fun t37 h8=>
 Q t37 h8)
def l0 (a0 a1:AV) (h:ae) (Q:QT):Prop:=
 aE a0 fun t9=>
 ab 0 t9 fun t10=>
 ab 3 t10 fun t11=>
 af t11 h fun t12=>
 C qc [t12] h fun t13 h0=>
 C ez [t13] h0 fun t14 h1=>
 aX t14 fun t15=>
 cc [(.full 0 []),(I 0)] h1 fun vs2 h next2=>jM t15 t14 a0 a1 Q vs2 h next2
theorem rb (a0 a1:AV) (h:ae) (Q:QT) (k:l0 a0 a1 h Q):C ff [a0,a1] h Q:=
 okF (pl:=[(4,[5,7,16,17,18,19,20,21,22,23,24,25,26,27,28,29,30,31,32,33,34],[5,16])]) Tryz.func148 Tryz.ntmps148 (by kernel_rfl) rfl (by kernel_rfl) k
def o6 (a0 a1:AV) (h:ae) (Q:QT):Prop:=
 C nH [a1] h fun t9 h0=>
 am 0 t9 fun t10=>
 am 1 t9 fun t11=>
 aE a0 fun t14=>
 ab 0 t14 fun t15=>
 ab 5 t15 fun t16=>
 af t16 h0 fun t17=>
 ay [(I 0),(I 0),(I 0),(S ⟨#[]⟩),(.full 0 [])] [(0,1,t10)] fun t19=>
 ao 1 5 [t19] fun t20=>
 bg 5 64 t17 t20 h0 fun t21 h1=>
 aE a0 fun t22=>
 ab 0 t22 fun t23=>
 ab 5 t23 fun t24=>
 ak 1 t24 t21 h1 fun h2=>
 Q t11 h2
theorem tO (a0 a1:AV) (h:ae) (Q:QT) (k:o6 a0 a1 h Q):C ey [a0,a1] h Q:=
 okF (pl:=[]) Tryz.func200 Tryz.ntmps200 (by kernel_rfl) rfl (by kernel_rfl) k
def cO (s93 s54 s7 s0 s1:AV) (h:ae) (Q:QT):Prop:=
 ifB s93 (
 ao 2 1 [(S ⟨#[46,97,108,105,103,110]⟩),(S ⟨#[46,115,112,97,99,101]⟩)] fun t97=>
 C bK [t97,s1] h fun t99 h17=>
 ai .add (I 7) t99 fun t100=>
 aE s0 fun t101=>
 ab 0 t101 fun t102=>
 ab 2 t102 fun t103=>
 ak 1 t103 t100 h17 fun h18=>
 C jV [(.fn (.func bH) [s0] []),(I 1)] h18 fun t107 h19=>
 C fR [s7,t107] h19 fun t108 h20=>
 Q t108 h20) (
 ai .eql s54 (S ⟨#[46,101,113,117]⟩) fun t110=>
 ifB t110 (
 aE s0 fun t112=>
 ab 0 t112 fun t113=>
 ab 2 t113 fun t114=>
 ak 1 t114 (I 9) h fun h21=>
 ao 2 1 [(.fn (.func gD) [s0] []),(.fn (.func bH) [s0] [])] fun t120=>
 C fR [s7,t120] h21 fun t121 h22=>
 Q t121 h22) (
 Q (B false) h))
def ci (s55 s54 s7 s0 s1 s2:AV) (h:ae) (Q:QT):Prop:=
 ifB s55 (
 ao 3 1 [(S ⟨#[46,98,121,116,101]⟩),(S ⟨#[46,104,97,108,102]⟩),(S ⟨#[46,108,111,110,103]⟩)] fun t60=>
 C bK [t60,s1] h fun t62 h11=>
 ai .add (I 3) t62 fun t63=>
 aE s0 fun t64=>
 ab 0 t64 fun t65=>
 ab 2 t65 fun t66=>
 ak 1 t66 t63 h11 fun h12=>
 aX s7 fun t68=>
 ai .geq t68 (I 1) fun t69=>
 ifB t69 (aX s7 fun t72=>
 ai .leq t72 (I 16) fun t73=>
 ifB t73 (aX s7 fun t80=>
 C jV [(.fn (.func bH) [s0] []),t80] h12 fun t81 h13=>
 C fR [s7,t81] h13 fun t82 h14=>
 Q t82 h14) (
 Q (B false) h12)) (
 Q (B false) h12)) (
 ai .eql s54 (S ⟨#[46,97,115,99,105,105]⟩) fun t85=>
 ifB t85 (
 aE s0 fun t87=>
 ab 0 t87 fun t88=>
 ab 2 t88 fun t89=>
 ak 1 t89 (I 6) h fun h15=>
 C jE [s0,s2] h15 fun t92 h16=>
 Q t92 h16) (
 ai .eql s54 (S ⟨#[46,97,108,105,103,110]⟩) fun t94=>
 ifB t94 (
 cO t94 s54 s7 s0 s1 h Q) (
 ai .eql s54 (S ⟨#[46,115,112,97,99,101]⟩) fun t95=>
 cO t95 s54 s7 s0 s1 h Q)))
def nu (a0 a1 a2:AV) (h:ae) (Q:QT):Prop:=
 C n8 [a2] h fun t12 h0=>
 C rv [a1] h0 fun t15 h1=>
 am 0 t15 fun t16=>
 am 1 t15 fun t17=>
 ifB t17 (
 aE a0 fun t22=>
 ab 0 t22 fun t23=>
 ab 2 t23 fun t24=>
 ak 1 t24 (I 1) h1 fun h2=>
 aE a0 fun t25=>
 ab 0 t25 fun t26=>
 ab 3 t26 fun t27=>
 ak 1 t27 t16 h2 fun h3=>
 C ff [a0,t12] h3 fun t30 h4=>
 Q t30 h4) (
 C te [] h1 fun t31 h5=>
 C bK [t31,a1] h5 fun t33 h6=>
 ai .geq t33 (I 0) fun t35=>
 ifB t35 (
 aE a0 fun t39=>
 ab 0 t39 fun t40=>
 ab 2 t40 fun t41=>
 ak 1 t41 (I 2) h6 fun h7=>
 aE a0 fun t42=>
 ab 0 t42 fun t43=>
 ab 3 t43 fun t44=>
 ak 1 t44 t33 h7 fun h8=>
 ai .quo t33 (I 2) fun t49=>
 ai .mul t49 (I 2) fun t50=>
 ai .add (I 1) t50 fun t51=>
 C jV [(.fn (.func bH) [a0] []),t51] h8 fun t52 h9=>
 C fR [t12,t52] h9 fun t53 h10=>
 Q t53 h10) (
 ai .eql a1 (S ⟨#[46,98,121,116,101]⟩) fun t56=>
 ifB t56 (
 ci t56 a1 t12 a0 a1 a2 h6 Q) (
 ai .eql a1 (S ⟨#[46,104,97,108,102]⟩) fun t57=>
 ifB t57 (
 ci t57 a1 t12 a0 a1 a2 h6 Q) (
 ai .eql a1 (S ⟨#[46,108,111,110,103]⟩) fun t58=>
 ci t58 a1 t12 a0 a1 a2 h6 Q))))
theorem tz (a0 a1 a2:AV) (h:ae) (Q:QT) (k:nu a0 a1 a2 h Q):C gx [a0,a1,a2] h Q:=
 okF (pl:=[]) Tryz.func112 Tryz.ntmps112 (by kernel_rfl) rfl (by kernel_rfl) k
def ry (a0 a1:AV) (h:ae) (Q:QT):Prop:=
 C tc [a1] h fun t9 h0=>
 am 0 t9 fun t10=>
 am 1 t9 fun t11=>
 cu [(I 0),(I 0),(S ⟨#[]⟩),(.full 0 [])] h0 fun t5 h1=>
 ak 4 t5 t10 h1 fun h2=>
 aE a0 fun t14=>
 ab 0 t14 fun t15=>
 ab 5 t15 fun t16=>
 af t16 h2 fun t17=>
 ap 4 t5 h2 fun t18=>
 ay [(I 0),(I 0),(I 0),(S ⟨#[]⟩),(.full 0 [])] [(0,1,(I (-1))),(1,4,t18)] fun t19=>
 ao 1 5 [t19] fun t20=>
 bg 5 64 t17 t20 h2 fun t21 h3=>
 aE a0 fun t22=>
 ab 0 t22 fun t23=>
 ab 5 t23 fun t24=>
 ak 1 t24 t21 h3 fun h4=>
 Q t11 h4
theorem xN (a0 a1:AV) (h:ae) (Q:QT) (k:ry a0 a1 h Q):C bH [a0,a1] h Q:=
 okF (pl:=[(1000002,[0,1,2,3,4,5,6,7,8,9,10,11,12,13],[])]) Tryz.func152 Tryz.ntmps152 (by kernel_rfl) rfl (by kernel_rfl) k
def ux (a0 a1:AV) (h:ae) (Q:QT):Prop:=
 aE a0 fun t7=>
 ab 0 t7 fun t8=>
 ab 4 t8 fun t9=>
 ak 1 t9 a1 h fun h0=>
 C m3 [a1] h0 fun t11 h1=>
 Q t11 h1
theorem y0 (a0 a1:AV) (h:ae) (Q:QT) (k:ux a0 a1 h Q):C gD [a0,a1] h Q:=
 okF (pl:=[]) Tryz.func154 Tryz.ntmps154 (by kernel_rfl) rfl (by kernel_rfl) k
def Ag (a0:AV) (h:ae) (Q:QT):Prop:=
 bJ a0 fun t7=>
 ai .lss t7 (I 2) fun t8=>
 ifB t8 (Q (.tup [(I 0),(B false)]) h) (
 bJ a0 fun t11=>
 ai .gtr t11 (I 3) fun t12=>
 ifB t12 (Q (.tup [(I 0),(B false)]) h) (
 bj a0 (I 0) fun t16=>
 ai .neq t16 (.lit (.int .u8 114)) fun t17=>
 ifB t17 (Q (.tup [(I 0),(B false)]) h) (
 bl a0 (some (I 1)) none fun t21=>
 C fa [t21,(.fn (.func d9) [] [])] h fun t22 h0=>
 bJ a0 fun t24=>
 ai .sub t24 (I 1) fun t25=>
 ai .neq t22 t25 fun t26=>
 ifB t26 (Q (.tup [(I 0),(B false)]) h0) (
 bJ a0 fun t30=>
 ai .eql t30 (I 3) fun t31=>
 ifT t31 (bj a0 (I 1) fun t34=>
 ai .eql t34 (.lit (.int .u8 48)) fun t35=>
 ifB t35 (
 Q (.tup [(I 0),(B false)]) h0) (
 bl a0 (some (I 1)) none fun t40=>
 C eI [t40] h0 fun t41 h1=>
 am 0 t41 fun t42=>
 am 1 t41 fun t43=>
 ai .lss t42 (I 32) fun t46=>
 Q (.tup [t42,t46]) h1)) (
 bl a0 (some (I 1)) none fun t40=>
 C eI [t40] h0 fun t41 h2=>
 am 0 t41 fun t42=>
 am 1 t41 fun t43=>
 ai .lss t42 (I 32) fun t46=>
 Q (.tup [t42,t46]) h2) (
 ifB (.tup []) (ifB (.tup []) (
 Q (.tup [(I 0),(B false)]) h0) (
 bl a0 (some (I 1)) none fun t40=>
 C eI [t40] h0 fun t41 h3=>
 am 0 t41 fun t42=>
 am 1 t41 fun t43=>
 ai .lss t42 (I 32) fun t46=>
 Q (.tup [t42,t46]) h3)) (bl a0 (some (I 1)) none fun t40=>
 C eI [t40] h0 fun t41 h4=>
 am 0 t41 fun t42=>
 am 1 t41 fun t43=>
 ai .lss t42 (I 32) fun t46=>
 Q (.tup [t42,t46]) h4))))))
theorem D6 (a0:AV) (h:ae) (Q:QT) (k:Ag a0 h Q):C nH [a0] h Q:=
 okF (pl:=[]) Tryz.func237 Tryz.ntmps237 (by kernel_rfl) rfl (by kernel_rfl) k
def Bp (s6 s0:AV) (Q:QT) (vs0:List AV) (h:ae) (next0:NT):Prop:=
 ai .lss (aq vs0 1) s6 fun t8=>
 ifB t8 (
 ao 1 1 [s0] fun t11=>
 bg 1 8 (aq vs0 0) t11 h fun t12 h1=>
 ai .add (aq vs0 1) (I 1) fun t13=>
 next0 [t12,t13] h1) (
 Q (aq vs0 0) h)
def KT (a0 a1:AV) (h:ae) (Q:QT):Prop:=
 cc [(.full 0 []),(I 0)] h fun vs0 h next0=>Bp a1 a0 Q vs0 h next0
theorem MX (a0 a1:AV) (h:ae) (Q:QT) (k:KT a0 a1 h Q):C jV [a0,a1] h Q:=
 okF (pl:=[(4,[5,7,8,9,10,11,12,13],[5,7])]) Tryz.func151 Tryz.ntmps151 (by kernel_rfl) rfl (by kernel_rfl) k
def acJ:Code→Code
 | .seq a _=>a
 | c=>c
def aao:Code→Code
 | .seq _ (.scope c)=>c
 | c=>c
def sa (a0 s4:AV) (h:ae) (Q:QT):Prop:=
 bl a0 none (some s4) fun t21=>
 C fO [t21,(S ⟨#[32,9]⟩)] h fun t22 h1=>
 Q t22 h1
def sG (s3 s4:AV) (h:ae) (next:NT):Prop:=
 ai .add s4 (I 1) fun t30=>
 next [s3,t30] h
def rQ (a0 s3 s4:AV) (h:ae) (next:NT):Prop:=
 bj a0 s4 fun t25=>
 ai .eql t25 (.lit (.int .u8 34)) fun t26=>
 ifB t26 (qUn .not s3 fun t28=>sG t28 s4 h next) (sG s3 s4 h next)
def rp (a0 s3 s4:AV) (h:ae) (Q:QT) (next:NT):Prop:=
 bJ a0 fun t7=>
 ai .eql s4 t7 fun t8=>
 ifB t8 (sa a0 s4 h Q) (
 bj a0 s4 fun t12=>
 ai .eql t12 (.lit (.int .u8 35)) fun t13=>
 ifT t13 (qUn .not s3 fun t16=>
 ifB t16 (sa a0 s4 h Q) (rQ a0 s3 s4 h next)) (rQ a0 s3 s4 h next) False)
def C4 (a0:AV) (h:ae) (Q:QT):Prop:=
 rp a0 (B false) (I 0) h Q fun vs h=>cc vs h fun vs h next=>rp a0 (aq vs 0) (aq vs 1) h Q next
theorem MD (a0:AV) (h:ae) (Q:QT):acN Pg [] Tryz.f109 (acJ (uU Tryz.f109)) (aao (uU Tryz.f109)) ((findLabel (aao (uU Tryz.f109)) 0).getD .skip) 0 [2,3,4,5,6,7,8,9,10,11,12,13,14,15,16,17,18,19,20,21,22,23,24,25,26,27,28,29,30] [3,4] [a0] h Q=C4 a0 h Q:=by kernel_rfl
theorem Mp (a0:AV) (h:ae) (Q:QT) (k:C4 a0 h Q):C uL [a0] h Q:=
 JC (pl:=[]) Tryz.func109 (A:=acJ (uU Tryz.f109)) (c:=aao (uU Tryz.f109)) (rest:=(findLabel (aao (uU Tryz.f109)) 0).getD .skip) (l:=0) (ws:=[2,3,4,5,6,7,8,9,10,11,12,13,14,15,16,17,18,19,20,21,22,23,24,25,26,27,28,29,30]) (ks:=[3,4]) (by kernel_rfl) (by kernel_rfl) (by kernel_rfl) (by kernel_rfl) (by kernel_rfl) (by kernel_rfl) (by have:=Tryz.ntmps109;simp only[List.length_cons,List.length_nil];omega) (by rw[MD];exact k)
