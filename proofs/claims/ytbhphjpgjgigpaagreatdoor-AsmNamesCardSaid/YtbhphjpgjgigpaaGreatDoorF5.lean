import Derived.Test.YtbhphjpgjgigpaaGreatDoorF5A
set_option linter.all false
set_option autoImplicit true
set_option relaxedAutoImplicit true
set_option maxRecDepth 100000
namespace Go.Proofs.YtbhphjpgjgigpaaGreatDoor.AL
noncomputable section
open Go.Proofs
variable [Tabs]
def rp (s27 s26 s6:AV) (Q:QT) (vs2:List AV) (h:ab) (next2:NT):Prop:=
 ah .lss (af vs2 1) s27 fun t29=>
 ifB t29 (
 ao 1 s26 (af vs2 1) fun t30=>
 ai t30 h fun t31=>
 C iH [s6,t31] h fun t35 h3=>
 bL 1 1 (af vs2 0) t35 h3 fun t36 h4=>
 ah .add (af vs2 1) (I 1) fun t37=>
 next2 [t36,t37] h4) (
 C c6 [(af vs2 0)] h fun t39 h5=>
 Q (.tup [t39,(.full 0 [])]) h5)
def wo (a0 a1:AV) (h:ab) (Q:QT):Prop:=
 C nT [a0,a1] h fun t11 h0=>
 aJ t11 fun t13=>
 ae 3 t13 fun t14=>
 ai t14 h0 fun t15=>
 bh t15 fun t16=>
 ah .gtr t16 (I 0) fun t17=>
 ifB t17 (
 aJ t11 fun t19=>
 ae 3 t19 fun t20=>
 ai t20 h0 fun t21=>
 C cP [t21] h0 fun t22 h1=>
 Q (.tup [(.full 0 []),t22]) h1) (
 aJ t11 fun t24=>
 ae 0 t24 fun t25=>
 ai t25 h0 fun t26=>
 bh t26 fun t27=>
 bG [(.full 0 []),(I 0)] h0 fun vs2 h next2=>rp t27 t26 t11 Q vs2 h next2)
theorem zo (a0 a1:AV) (h:ab) (Q:QT) (k:wo a0 a1 h Q):C d4 [a0,a1] h Q:=
 okF (pl:=[(6,[4,8,28,29,30,31,32,33,34,35,36,37],[4,28])]) Tryz.func9 Tryz.ntmps9 (by kernel_rfl) rfl (by kernel_rfl) k
def qt (s4 s23:AV) (h:ab) (next1:NT):Prop:=
 ah .add s23 (I 1) fun t39=>
 next1 [s4,t39] h
def mP (s4 s23:AV) (h:ab) (next1:NT):Prop:=
 qt s4 s23 h next1
def we (s22 s21 s6:AV) (Q:QT) (vs1:List AV) (h:ab) (next1:NT):Prop:=
 ah .lss (af vs1 1) s22 fun t24=>
 ifB t24 (
 ao 1 s21 (af vs1 1) fun t25=>
 ai t25 h fun t26=>
 aJ t26 fun t28=>
 ae 1 t28 fun t29=>
 ae 2 t29 fun t30=>
 ai t30 h fun t31=>
 ah .eql t31 (I 2) fun t32=>
 ifB t32 (
 C ey [s6,t26] h fun t36 h2=>
 ap 1 1 [t36] fun t37=>
 bL 1 8 (af vs1 0) t37 h2 fun t38 h3=>
 mP t38 (af vs1 1) h3 next1) (
 mP (af vs1 0) (af vs1 1) h next1)) (
 C dI [(af vs1 0)] h fun t41 h6=>
 Q (.tup [t41,(B true)]) h6)
def DP (a0 a1:AV) (h:ab) (Q:QT):Prop:=
 C nT [a0,a1] h fun t11 h0=>
 aJ t11 fun t13=>
 ae 3 t13 fun t14=>
 ai t14 h0 fun t15=>
 bh t15 fun t16=>
 ah .gtr t16 (I 0) fun t17=>
 ifB t17 (
 Q (.tup [(.full 0 []),(B false)]) h0) (
 aJ t11 fun t19=>
 ae 0 t19 fun t20=>
 ai t20 h0 fun t21=>
 bh t21 fun t22=>
 bG [(.full 0 []),(I 0)] h0 fun vs1 h next1=>we t22 t21 t11 Q vs1 h next1)
theorem Gl (a0 a1:AV) (h:ab) (Q:QT) (k:DP a0 a1 h Q):C qn [a0,a1] h Q:=
 okF (pl:=[(6,[4,8,23,24,25,26,27,28,29,30,31,32,33,34,35,36,37,38,39],[4,23])]) Tryz.func14 Tryz.ntmps14 (by kernel_rfl) rfl (by kernel_rfl) k
def gO (s8 s16 s5:AV) (h:ab) (next6:NT):Prop:=
 ae 1 s5 fun t34=>
 ai t34 h fun t35=>
 ap 1 1 [s8] fun t37=>
 bL 1 8 t35 t37 h fun t38 h7=>
 ae 1 s5 fun t39=>
 aw 1 t39 t38 h7 fun h8=>
 ah .add s16 (I 1) fun t40=>
 next6 [t40] h8
def nh (s15 s14 s5 s4 s0 s1:AV) (Q:QT) (vs6:List AV) (h:ab) (next6:NT):Prop:=
 ah .lss (af vs6 0) s15 fun t17=>
 ifB t17 (
 ao 1 s14 (af vs6 0) fun t19=>
 ai t19 h fun t20=>
 ao 1 s1 (af vs6 0) fun t23=>
 ai t23 h fun t24=>
 aV t20 (I 0) fun t26=>
 ah .eql t26 (.lit (.int .u8 84)) fun t27=>
 ifB t27 (
 aJ s0 fun t30=>
 ae 7 t30 fun t31=>
 ai t31 h fun t32=>
 ah .sub t24 t32 fun t33=>
 gO t33 (af vs6 0) s5 h next6) (
 gO t24 (af vs6 0) s5 h next6)) (
 aD 2 s5 h fun t41=>
 aw 2 s4 t41 h fun h10=>
 aD 2 s4 h10 fun r11=>
 Q r11 h10)
def tR (a0 a1:AV) (h:ab) (Q:QT):Prop:=
 gR [(I 0),(.full 0 [])] h fun t4 h0=>
 C kC [a0] h0 fun t10 h1=>
 gR [(I 0),(.full 0 [])] h1 fun t5 h2=>
 aw 2 t5 t10 h2 fun h3=>
 ae 0 t5 fun t11=>
 ai t11 h3 fun t12=>
 C mR [t12] h3 fun t13 h4=>
 C dX [t13] h4 fun t14 h5=>
 bh t14 fun t15=>
 bG [(I 0)] h5 fun vs6 h next6=>nh t15 t14 t5 t4 a0 a1 Q vs6 h next6
theorem wu (a0 a1:AV) (h:ab) (Q:QT) (k:tR a0 a1 h Q):C gA [a0,a1] h Q:=
 okF (pl:=[(4,[6,7,8,16,17,18,19,20,21,22,23,24,25,26,27,28,29,30,31,32,33,34,35,36,37,38,39,40],[16])]) Tryz.func37 Tryz.ntmps37 (by kernel_rfl) rfl (by kernel_rfl) k
def tu (a0:AV) (h:ab) (Q:QT):Prop:=
 gR [(I 0),(.full 0 [])] h fun t2 h0=>
 aJ a0 fun t5=>
 ae 1 t5 fun t6=>
 ae 2 t6 fun t7=>
 ai t7 h0 fun t8=>
 ah .eql t8 (I 1) fun t9=>
 ifB t9 (
 aJ a0 fun t11=>
 ae 1 t11 fun t12=>
 ae 3 t12 fun t13=>
 ai t13 h0 fun t14=>
 au [(I 0),(.full 0 [])] [(0,1,t14)] fun t15=>
 aw 2 t2 t15 h0 fun h1=>
 aD 2 t2 h1 fun r2=>
 Q r2 h1) (
 aJ a0 fun t18=>
 ae 8 t18 fun t19=>
 ai t19 h0 fun t20=>
 ifB t20 (
 aJ a0 fun t22=>
 ae 1 t22 fun t23=>
 ae 3 t23 fun t24=>
 ai t24 h0 fun t25=>
 C qH [t25] h0 fun t26 h3=>
 au [(I 0),(.full 0 [])] [(0,1,t26)] fun t27=>
 aw 2 t2 t27 h3 fun h4=>
 aD 2 t2 h4 fun r5=>
 Q r5 h4) (
 aJ a0 fun t29=>
 ae 1 t29 fun t30=>
 ae 3 t30 fun t31=>
 ai t31 h0 fun t32=>
 C mW [t32] h0 fun t33 h6=>
 au [(I 0),(.full 0 [])] [(0,1,t33)] fun t34=>
 aw 2 t2 t34 h6 fun h7=>
 aD 2 t2 h7 fun r8=>
 Q r8 h7))
theorem wE (a0:AV) (h:ab) (Q:QT) (k:tu a0 h Q):C kC [a0] h Q:=
 okF (pl:=[]) Tryz.func58 Tryz.ntmps58 (by kernel_rfl) rfl (by kernel_rfl) k
def rQ (a0:AV) (h:ab) (Q:QT):Prop:=
 gR [(I 0),(I 0),(S ⟨#[]⟩),(.full 0 [])] h fun t2 h0=>
 aJ a0 fun t4=>
 ae 1 t4 fun t5=>
 ae 5 t5 fun t6=>
 ai t6 h0 fun t7=>
 aJ a0 fun t9=>
 ae 1 t9 fun t10=>
 ae 5 t10 fun t11=>
 ai t11 h0 fun t12=>
 bh t12 fun t13=>
 ah .sub t13 (I 1) fun t14=>
 ao 5 t7 t14 fun t15=>
 ae 1 t15 fun t16=>
 aD 4 t16 h0 fun t17=>
 aw 4 t2 t17 h0 fun h1=>
 aD 4 t2 h1 fun r2=>
 Q r2 h1
theorem wr (a0:AV) (h:ab) (Q:QT) (k:rQ a0 h Q):C bo [a0] h Q:=
 okF (pl:=[(1000001,[0,1,2,3,4,5,6,7,8,9,10,11,12,13,14,15],[])]) Tryz.func40 Tryz.ntmps40 (by kernel_rfl) rfl (by kernel_rfl) k
def sU (s8 s16:AV) (h:ab) (next2:NT):Prop:=
 ah .add s16 (I 1) fun t33=>
 next2 [s8,t33] h
def ot (s8 s16:AV) (h:ab) (next2:NT):Prop:=
 sU s8 s16 h next2
def yy (s15 s14 s3 s1 s2:AV) (Q:QT) (vs2:List AV) (h:ab) (next2:NT):Prop:=
 ah .lss (af vs2 1) s15 fun t17=>
 ifB t17 (
 ao 1 s14 (af vs2 1) fun t18=>
 ai t18 h fun t19=>
 hY .string true (I 0) s2 t19 h fun t23=>
 am 0 t23 fun t24=>
 am 1 t23 fun t25=>
 ifB t25 (
 au [(S ⟨#[]⟩),(I 0)] [(0,1,t19),(1,1,t24)] fun t30=>
 ap 1 2 [t30] fun t31=>
 bL 2 24 (af vs2 0) t31 h fun t32 h3=>
 ot t32 (af vs2 1) h3 next2) (
 ot (af vs2 0) (af vs2 1) h next2)) (
 aD 4 s3 h fun t34=>
 C jY [t34,s1,(af vs2 0)] h fun t37 h6=>
 am 0 t37 fun t38=>
 am 1 t37 fun t39=>
 Q (.tup [t38,t39]) h6)
def H1 (a0 a1 a2:AV) (h:ab) (Q:QT):Prop:=
 lP a0 h fun t3 h0=>
 aD 4 t3 h0 fun t13=>
 C jb [t13] h0 fun t14 h1=>
 bh t14 fun t15=>
 bG [(.full 0 []),(I 0)] h1 fun vs2 h next2=>yy t15 t14 t3 a1 a2 Q vs2 h next2
theorem Hh (a0 a1 a2:AV) (h:ab) (Q:QT) (k:H1 a0 a1 a2 h Q):C eX [a0,a1,a2] h Q:=
 okF (pl:=[(4,[8,10,11,12,16,17,18,19,20,21,22,23,24,25,26,27,28,29,30,31,32,33],[8,16])]) Tryz.func39 Tryz.ntmps39 (by kernel_rfl) rfl (by kernel_rfl) k
def DC (a0:AV) (h:ab) (Q:QT):Prop:=
 ap 3 1 [(S ⟨#[101,95,98]⟩),(S ⟨#[101,95,98,108]⟩),(S ⟨#[101,95,98,99]⟩)] fun t3=>
 ao 1 t3 a0 fun t5=>
 ai t5 h fun t6=>
 C ue [t6] h fun t7 h0=>
 Q t7 h0
theorem F6 (a0:AV) (h:ab) (Q:QT) (k:DC a0 h Q):C qH [a0] h Q:=
 okF (pl:=[]) Tryz.func88 Tryz.ntmps88 (by kernel_rfl) rfl (by kernel_rfl) k
def Ia (a0:AV) (h:ab) (Q:QT):Prop:=
 lP a0 h fun t1 h0=>
 ae 0 t1 fun t3=>
 ai t3 h0 fun t4=>
 ah .eql t4 (I 3) fun t5=>
 ifB t5 (Q (B true) h0) (
 ae 3 t1 fun t7=>
 ai t7 h0 fun t8=>
 C bF [t8,(.fn (.func em) [] [])] h0 fun t9 h1=>
 Q t9 h1)
theorem Hp (a0:AV) (h:ab) (Q:QT) (k:Ia a0 h Q):C em [a0] h Q:=
 okF (pl:=[]) Tryz.func53 Tryz.ntmps53 (by kernel_rfl) rfl (by kernel_rfl) k
def jG (s5:AV) (h:ab) (Q:QT):Prop:=
 Q s5 h
def g5 (s5:AV) (h:ab) (Q:QT):Prop:=
 jG s5 h Q
def yP (s20 s19 s5:AV) (Q:QT) (vs1:List AV) (h:ab) (next1:NT):Prop:=
 ah .lss (af vs1 0) s20 fun t22=>
 ifB t22 (
 ao 1 s19 (af vs1 0) fun t23=>
 ai t23 h fun t24=>
 aJ s5 fun t26=>
 ae 3 t26 fun t27=>
 ai t27 h fun t28=>
 bh t28 fun t29=>
 ah .gtr t29 (I 0) fun t30=>
 ifB t30 (
 g5 s5 h Q) (
 CV t24 [] h fun t32 h4=>
 ah .add (af vs1 0) (I 1) fun t33=>
 next1 [t33] h4)) (
 g5 s5 h Q)
def GY (a0 a1:AV) (h:ab) (Q:QT):Prop:=
 C tk [a0,a1] h fun t10 h0=>
 ap 4 1 [(.fn (.func cf) [t10] []),(.fn (.func ce) [t10] []),(.fn (.func bT) [t10] []),(.fn (.func cc) [t10] [])] fun t19=>
 bh t19 fun t20=>
 bG [(I 0)] h0 fun vs1 h next1=>yP t20 t19 t10 Q vs1 h next1
theorem Hu (a0 a1:AV) (h:ab) (Q:QT) (k:GY a0 a1 h Q):C nT [a0,a1] h Q:=
 okF (pl:=[(4,[7,21,22,23,24,25,26,27,28,29,30,31,32,33],[21])]) Tryz.func18 Tryz.ntmps18 (by kernel_rfl) rfl (by kernel_rfl) k
def Rx (a0:AV) (h:ab) (Q:QT):Prop:=
 C oI [a0] h fun t7 h0=>
 am 0 t7 fun t8=>
 am 1 t7 fun t9=>
 Q t8 h0
theorem MZ (a0:AV) (h:ab) (Q:QT) (k:Rx a0 h Q):C ue [a0] h Q:=
 okF (pl:=[]) Tryz.func116 Tryz.ntmps116 (by kernel_rfl) rfl (by kernel_rfl) k
def w4 (s68 s67 s9 s36 s5:AV) (next6:NT) (vs16:List AV) (h:ab) (next16:NT):Prop:=
 ah .lss (af vs16 0) s68 fun t70=>
 ifB t70 (
 ao 1 s67 (af vs16 0) fun t71=>
 ai t71 h fun t72=>
 ae 0 s9 fun t74=>
 ai t74 h fun t75=>
 C aQ [s5,t75,t72,(I 1)] h fun t77 h17=>
 ah .add (af vs16 0) (I 1) fun t78=>
 next16 [t78] h17) (
 ah .add s36 (I 1) fun t79=>
 next6 [t79] h)
def wb (s47 s46 s11 s9 s36 s5:AV) (next6:NT) (vs10:List AV) (h:ab) (next10:NT):Prop:=
 ah .lss (af vs10 0) s47 fun t49=>
 ifB t49 (
 ao 6 s46 (af vs10 0) fun t50=>
 aD 6 t50 h fun t51=>
 gR [(I 0),(S ⟨#[]⟩),(I 0),(I 0),(S ⟨#[]⟩),(.full 0 [])] h fun t13 h11=>
 aw 6 t13 t51 h11 fun h12=>
 aJ s5 fun t54=>
 ae 0 t54 fun t55=>
 ai t55 h12 fun t56=>
 ae 0 s9 fun t57=>
 ai t57 h12 fun t58=>
 aD 6 t13 h12 fun t59=>
 au [(S ⟨#[]⟩),(I 0),(S ⟨#[]⟩),(I 0),(I 0),(S ⟨#[]⟩),(.full 0 []),(I 0),(B false)] [(0,1,t58),(1,6,t59)] fun t60=>
 lP t60 h12 fun t61 h13=>
 (ai t55 h13 fun _t=>
 _t=t56)∧
 ap 1 1 [t61] fun t62=>
 bL 1 8 t56 t62 h13 fun t63 h14=>
 aJ s5 fun t64=>
 ae 0 t64 fun t65=>
 aw 1 t65 t63 h14 fun h15=>
 ah .add (af vs10 0) (I 1) fun t66=>
 next10 [t66] h15) (
 bh s11 fun t68=>
 bG [(I 0)] h fun vs16 h next16=>w4 t68 s11 s9 s36 s5 next6 vs16 h next16)
def wy (s35 s34 s5:AV) (Q:QT) (vs6:List AV) (h:ab) (next6:NT):Prop:=
 ah .lss (af vs6 0) s35 fun t37=>
 ifB t37 (
 ao 2 s34 (af vs6 0) fun t38=>
 aD 2 t38 h fun t39=>
 gR [(S ⟨#[]⟩),(S ⟨#[]⟩)] h fun t9 h7=>
 aw 2 t9 t39 h7 fun h8=>
 ae 1 t9 fun t41=>
 ai t41 h8 fun t42=>
 C pi [t42] h8 fun t43 h9=>
 am 0 t43 fun t44=>
 am 1 t43 fun t45=>
 bh t44 fun t47=>
 bG [(I 0)] h9 fun vs10 h next10=>wb t47 t44 t45 t9 (af vs6 0) s5 next6 vs10 h next10) (
 Q s5 h)
def wU (s20 s19 s5 s0:AV) (Q:QT) (vs2:List AV) (h:ab) (next2:NT):Prop:=
 ah .lss (af vs2 0) s20 fun t22=>
 ifB t22 (
 ao 2 s19 (af vs2 0) fun t23=>
 aD 2 t23 h fun t24=>
 gR [(S ⟨#[]⟩),(I 0)] h fun t7 h3=>
 aw 2 t7 t24 h3 fun h4=>
 aJ s5 fun t26=>
 ae 1 t26 fun t27=>
 ai t27 h4 fun t28=>
 ae 0 t7 fun t29=>
 ai t29 h4 fun t30=>
 ae 1 t7 fun t31=>
 ai t31 h4 fun t32=>
 d3 .string t28 t30 t32 h4 fun h5=>
 ah .add (af vs2 0) (I 1) fun t33=>
 next2 [t33] h5) (
 bh s0 fun t35=>
 bG [(I 0)] h fun vs6 h next6=>wy t35 s0 s5 Q vs6 h next6)
def GH (a0 a1:AV) (h:ab) (Q:QT):Prop:=
 np h fun t16 h0=>
 au [(.full 0 []),(.lit (.map none)),(.lit (.map none)),(.full 0 []),(I 0)] [(1,1,t16)] fun t17=>
 lP t17 h0 fun t18 h1=>
 bh a1 fun t20=>
 bG [(I 0)] h1 fun vs2 h next2=>wU t20 a1 t18 a0 Q vs2 h next2
theorem He (a0 a1:AV) (h:ab) (Q:QT) (k:GH a0 a1 h Q):C tk [a0,a1] h Q:=
 okF (pl:=[(4,[7,21,22,23,24,25,26,27,28,29,30,31,32,33],[21]),(1000005,[0,1,2,3,4,5,6,7,8],[]),(9,[9,10,11,13,15,36,37,38,39,40,41,42,43,44,45,46,47,48,49,50,51,52,53,54,55,56,57,58,59,60,61,62,63,64,65,66,67,68,69,70,71,72,73,74,75,76,77,78,79],[36]),(13,[13,48,49,50,51,52,53,54,55,56,57,58,59,60,61,62,63,64,65,66],[48]),(1000014,[0,1,2,3,4,5,6,7,8,9,10,11,12,13,14],[]),(18,[15,69,70,71,72,73,74,75,76,77,78],[69])]) Tryz.func30 Tryz.ntmps30 (by kernel_rfl) rfl (by kernel_rfl) k
def Eb (a0:AV) (h:ab) (Q:QT):Prop:=
 ap 3 1 [(S ⟨#[115,101,95,98]⟩),(S ⟨#[115,101,95,98,108]⟩),(S ⟨#[115,101,95,98,99]⟩)] fun t3=>
 ao 1 t3 a0 fun t5=>
 ai t5 h fun t6=>
 C ue [t6] h fun t7 h0=>
 Q t7 h0
theorem FY (a0:AV) (h:ab) (Q:QT) (k:Eb a0 h Q):C mW [a0] h Q:=
 okF (pl:=[]) Tryz.func78 Tryz.ntmps78 (by kernel_rfl) rfl (by kernel_rfl) k
def mI (s11 s41:AV) (next3:NT) (vs4:List AV) (h:ab) (next4:NT):Prop:=
 ah .geq (af vs4 1) (I 0) fun t54=>
 ifB t54 (
 ah .shr s11 (af vs4 1) fun t60=>
 cz .u8 t60 fun t61=>
 ap 1 1 [t61] fun t62=>
 bL 1 1 (af vs4 0) t62 h fun t63 h5=>
 ah .sub (af vs4 1) (I 8) fun t56=>
 next4 [t63,t56] h5) (
 ah .add s41 (I 1) fun t64=>
 next3 [(af vs4 0),t64] h)
def mA (s40 s39 s1:AV) (Q:QT) (vs3:List AV) (h:ab) (next3:NT):Prop:=
 ah .lss (af vs3 1) s40 fun t42=>
 ifB t42 (
 ao 1 s39 (af vs3 1) fun t43=>
 ai t43 h fun t44=>
 aJ s1 fun t46=>
 ae 1 t46 fun t47=>
 ae 2 t47 fun t48=>
 ai t48 h fun t49=>
 ah .sub t49 (I 3) fun t50=>
 ah .shl (I 8) t50 fun t51=>
 ah .sub t51 (I 8) fun t52=>
 bG [(af vs3 0),t52] h fun vs4 h next4=>mI t44 (af vs3 1) next3 vs4 h next4) (
 Q (af vs3 0) h)
def dQ (s35 s23 s5 s0 s1:AV) (h:ab) (Q:QT):Prop:=
 ifB s35 (
 bh s5 fun t40=>
 bG [(.full 0 []),(I 0)] h fun vs3 h next3=>mA t40 s5 s1 Q vs3 h next3) (
 ah .eql s23 (I 6) fun t67=>
 ifB t67 (
 aJ s1 fun t69=>
 ae 1 t69 fun t70=>
 ae 4 t70 fun t71=>
 ai t71 h fun t72=>
 m3 t72 h fun t73 h8=>
 Q t73 h8) (
 C ey [s0,s1] h fun t76 h9=>
 jq 1 (.lit (.int .u8 0)) t76 t76 h9 fun t77 h10=>
 Q t77 h10))
def fa (s24 s23 s5 s0 s1:AV) (h:ab) (Q:QT):Prop:=
 ifB s24 (
 C gA [s1,s5] h fun t30 h1=>
 C pm [t30] h1 fun t31 h2=>
 am 0 t31 fun t32=>
 am 1 t31 fun t33=>
 Q t32 h2) (
 ah .eql s23 (I 3) fun t36=>
 ifB t36 (
 dQ t36 s23 s5 s0 s1 h Q) (
 ah .eql s23 (I 4) fun t37=>
 ifB t37 (
 dQ t37 s23 s5 s0 s1 h Q) (
 ah .eql s23 (I 5) fun t38=>
 dQ t38 s23 s5 s0 s1 h Q)))
def pP (a0 a1:AV) (h:ab) (Q:QT):Prop:=
 C eV [a0,a1] h fun t16 h0=>
 am 0 t16 fun t17=>
 am 1 t16 fun t18=>
 aJ a1 fun t20=>
 ae 1 t20 fun t21=>
 ae 2 t21 fun t22=>
 ai t22 h0 fun t23=>
 ah .eql t23 (I 1) fun t25=>
 ifB t25 (
 fa t25 t23 t17 a0 a1 h0 Q) (
 ah .eql t23 (I 2) fun t26=>
 fa t26 t23 t17 a0 a1 h0 Q)
theorem uz (a0 a1:AV) (h:ab) (Q:QT) (k:pP a0 a1 h Q):C iH [a0,a1] h Q:=
 okF (pl:=[(13,[9,11,12,41,42,43,44,45,46,47,48,49,50,51,52,53,54,55,56,57,58,59,60,61,62,63,64],[9,41]),(16,[9,12,53,54,55,56,57,58,59,60,61,62,63],[9,12])]) Tryz.func20 Tryz.ntmps20 (by kernel_rfl) rfl (by kernel_rfl) k
def iA (s10:AV) (h:ab) (next0:NT):Prop:=
 ah .add s10 (I 1) fun t31=>
 next0 [t31] h
def fC (s10:AV) (h:ab) (next0:NT):Prop:=
 iA s10 h next0
def mH (s9 s8 s0:AV) (Q:QT) (vs0:List AV) (h:ab) (next0:NT):Prop:=
 ah .lss (af vs0 0) s9 fun t11=>
 ifB t11 (
 ao 1 s8 (af vs0 0) fun t12=>
 ai t12 h fun t13=>
 C iO [s0,t13] h fun t16 h1=>
 ah .neq t16 (I 0) fun t18=>
 ifB t18 (
 aJ t13 fun t21=>
 ae 0 t21 fun t22=>
 ai t22 h1 fun t23=>
 aJ t13 fun t25=>
 ae 1 t25 fun t26=>
 ae 0 t26 fun t27=>
 ai t27 h1 fun t28=>
 C aQ [s0,t23,t28,t16] h1 fun t30 h2=>
 fC (af vs0 0) h2 next0) (
 fC (af vs0 0) h1 next0)) (
 Q (.tup []) h)
def pW (a0:AV) (h:ab) (Q:QT):Prop:=
 aJ a0 fun t6=>
 ae 0 t6 fun t7=>
 ai t7 h fun t8=>
 bh t8 fun t9=>
 bG [(I 0)] h fun vs0 h next0=>mH t9 t8 a0 Q vs0 h next0
theorem uy (a0:AV) (h:ab) (Q:QT) (k:pW a0 h Q):C cc [a0] h Q:=
 okF (pl:=[(2,[3,4,10,11,12,13,14,15,16,17,18,19,20,21,22,23,24,25,26,27,28,29,30,31],[10]),(1000005,[0,1,2,3,4,5,6,7,8,9,10,11],[])]) Tryz.func34 Tryz.ntmps34 (by kernel_rfl) rfl (by kernel_rfl) k
def kx (s11 s10 s0:AV) (Q:QT) (vs2:List AV) (h:ab) (next2:NT):Prop:=
 ah .lss (af vs2 1) s11 fun t13=>
 ifB t13 (
 ao 1 s10 (af vs2 1) fun t14=>
 ai t14 h fun t15=>
 gR [(S ⟨#[]⟩)] h fun t6 h3=>
 aw 1 t6 t15 h3 fun h4=>
 aJ s0 fun t18=>
 ae 2 t18 fun t19=>
 ai t19 h4 fun t20=>
 ai t6 h4 fun t21=>
 hY .string true (I 0) t20 t21 h4 fun t22=>
 am 0 t22 fun t23=>
 am 1 t22 fun t24=>
 qUn .not t24 fun t26=>
 ifB t26 (aJ s0 fun t29=>
 ae 0 t29 fun t30=>
 ai t30 h4 fun t31=>
 C bS [t31,(.fn (.func fc) [] [t6])] h4 fun t33 h5=>
 qUn .not t33 fun t34=>
 ifB t34 (
 Q (B false) h5) (
 ah .add (af vs2 1) (I 1) fun t36=>
 next2 [(af vs2 0),t36] h5)) (
 ah .add (af vs2 1) (I 1) fun t36=>
 next2 [(af vs2 0),t36] h4)) (
 Q (B true) h)
def mE (a0 a1:AV) (h:ab) (Q:QT):Prop:=
 lP a1 h fun t3 h0=>
 aD 4 t3 h0 fun t9=>
 C jb [t9] h0 fun t10 h1=>
 bh t10 fun t11=>
 bG [(B false),(I 0)] h1 fun vs2 h next2=>kx t11 t10 a0 Q vs2 h next2
theorem qC (a0 a1:AV) (h:ab) (Q:QT) (k:mE a0 a1 h Q):C gc [a0,a1] h Q:=
 okF (pl:=[(3,[4,6,7,8,12,13,14,15,16,17,18,19,20,21,22,23,24,25,26,27,28,29,30,31,32,33,34,35,36],[4,12]),(1000004,[0,1,2,3,4,5,6,7,8,9,10],[])]) Tryz.func79 Tryz.ntmps79 (by kernel_rfl) rfl (by kernel_rfl) k
def kI (a0 a1:AV) (h:ab) (Q:QT):Prop:=
 aJ a0 fun t5=>
 ae 1 t5 fun t6=>
 ae 2 t6 fun t7=>
 ai t7 h fun t8=>
 ah .eql t8 (I 9) fun t9=>
 ifB t9 (aJ a0 fun t12=>
 ae 1 t12 fun t13=>
 ae 4 t13 fun t14=>
 ai t14 h fun t15=>
 ai a1 h fun t16=>
 ah .eql t15 t16 fun t17=>
 Q t17 h) (
 Q (B false) h)
theorem pv (a0 a1:AV) (h:ab) (Q:QT) (k:kI a0 a1 h Q):C fc [a0,a1] h Q:=
 okF (pl:=[(1000001,[0,1,2,3,4,5,6,7,8,9,10,11,12,13,14,15],[])]) Tryz.func118 Tryz.ntmps118 (by kernel_rfl) rfl (by kernel_rfl) k
def jA (s3 s15:AV) (h:ab) (next0:NT):Prop:=
 ah .add s15 (I 1) fun t64=>
 next0 [s3,t64] h
def cu (s3 s15:AV) (h:ab) (next0:NT):Prop:=
 jA s3 s15 h next0
def mz (s66 s65 s3:AV) (Q:QT) (vs8:List AV) (h:ab) (next8:NT):Prop:=
 ah .lss (af vs8 0) s66 fun t68=>
 ifB t68 (
 ao 1 s65 (af vs8 0) fun t69=>
 ai t69 h fun t70=>
 aJ t70 fun t72=>
 ae 8 t72 fun t73=>
 aw 1 t73 (B true) h fun h9=>
 ah .add (af vs8 0) (I 1) fun t74=>
 next8 [t74] h9) (
 bh s3 fun t76=>
 ah .gtr t76 (I 0) fun t77=>
 Q t77 h)
def mJ (s14 s13 s0:AV) (Q:QT) (vs0:List AV) (h:ab) (next0:NT):Prop:=
 ah .lss (af vs0 1) s14 fun t16=>
 ifB t16 (
 ao 1 s13 (af vs0 1) fun t17=>
 ai t17 h fun t18=>
 aJ t18 fun t20=>
 ae 1 t20 fun t21=>
 ae 2 t21 fun t22=>
 ai t22 h fun t23=>
 ah .neq t23 (I 2) fun t24=>
 ifB t24 (cu (af vs0 0) (af vs0 1) h next0) (
 aJ t18 fun t27=>
 ae 8 t27 fun t28=>
 ai t28 h fun t29=>
 ifB t29 (
 cu (af vs0 0) (af vs0 1) h next0) (
 aJ t18 fun t35=>
 ae 7 t35 fun t36=>
 ai t36 h fun t37=>
 aJ s0 fun t39=>
 ae 2 t39 fun t40=>
 ai t40 h fun t41=>
 C bo [t18] h fun t33 h3=>
 (ai t40 h3 fun _t=>
 _t=t41)∧
 (ai t36 h3 fun _t=>
 _t=t37)∧
 C eX [t33,t37,t41] h3 fun t42 h4=>
 am 0 t42 fun t43=>
 am 1 t42 fun t44=>
 ah .eql t44 (I 0) fun t46=>
 ifB t46 (aJ t18 fun t51=>
 ae 7 t51 fun t52=>
 ai t52 h4 fun t53=>
 ah .sub t43 t53 fun t54=>
 ap 1 1 [t54] fun t55=>
 C mW [(I 0)] h4 fun t48 h5=>
 (ai t52 h5 fun _t=>
 _t=t53)∧
 au [(I 0),(.full 0 [])] [(0,1,t48),(1,1,t55)] fun t56=>
 C mT [t56] h5 fun t57 h6=>
 qUn .not t57 fun t58=>
 ifB t58 (
 ap 1 1 [t18] fun t62=>
 bL 1 8 (af vs0 0) t62 h6 fun t63 h7=>
 cu t63 (af vs0 1) h7 next0) (
 cu (af vs0 0) (af vs0 1) h6 next0)) (
 cu (af vs0 0) (af vs0 1) h4 next0)))) (
 bh (af vs0 0) fun t66=>
 bG [(I 0)] h fun vs8 h next8=>mz t66 (af vs0 0) (af vs0 0) Q vs8 h next8)
def ro (a0:AV) (h:ab) (Q:QT):Prop:=
 aJ a0 fun t11=>
 ae 0 t11 fun t12=>
 ai t12 h fun t13=>
 bh t13 fun t14=>
 bG [(.full 0 []),(I 0)] h fun vs0 h next0=>mJ t14 t13 a0 Q vs0 h next0
theorem ve (a0:AV) (h:ab) (Q:QT) (k:ro a0 h Q):C jy [a0] h Q:=
 okF (pl:=[(4,[3,5,6,7,15,16,17,18,19,20,21,22,23,24,25,26,27,28,29,30,31,32,33,34,35,36,37,38,39,40,41,42,43,44,45,46,47,48,49,50,51,52,53,54,55,56,57,58,59,60,61,62,63,64],[3,15]),(1000006,[0,2,3,4,5,6,7,8,9,1,10,11,12,13,14,15],[]),(1000007,[0,1,2,4,5,6,7,8,9,10,3,11,12,13,14],[]),(12,[9,67,68,69,70,71,72,73,74],[67])]) Tryz.func55 Tryz.ntmps55 (by kernel_rfl) rfl (by kernel_rfl) k
def gh (s6 s4 s39 s0:AV) (h:ab) (next6:NT):Prop:=
 C ey [s0,s6] h fun t66 h9=>
 ah .add s4 t66 fun t67=>
 ah .add s39 (I 1) fun t68=>
 next6 [t67,t68] h9
def ji (s7 s79:AV) (h:ab) (next13:NT):Prop:=
 ah .add s79 (I 1) fun t133=>
 next13 [s7,t133] h
def cQ (s7 s79:AV) (h:ab) (next13:NT):Prop:=
 ji s7 s79 h next13
def nk (s78 s77 s0:AV) (next12:NT) (vs13:List AV) (h:ab) (next13:NT):Prop:=
 ah .lss (af vs13 1) s78 fun t80=>
 ifB t80 (
 ao 1 s77 (af vs13 1) fun t81=>
 ai t81 h fun t82=>
 aJ s0 fun t85=>
 ae 2 t85 fun t86=>
 ai t86 h fun t87=>
 aJ t82 fun t89=>
 ae 1 t89 fun t90=>
 ae 4 t90 fun t91=>
 ai t91 h fun t92=>
 hY .string true (I 0) t87 t92 h fun t93=>
 am 0 t93 fun t94=>
 am 1 t93 fun t95=>
 aJ t82 fun t97=>
 ae 1 t97 fun t98=>
 ae 2 t98 fun t99=>
 ai t99 h fun t100=>
 ah .neq t100 (I 9) fun t101=>
 ifB t101 (cQ (af vs13 0) (af vs13 1) h next13) (
 ifB t95 (
 cQ (af vs13 0) (af vs13 1) h next13) (
 aJ t82 fun t109=>
 ae 7 t109 fun t110=>
 ai t110 h fun t111=>
 aJ s0 fun t113=>
 ae 2 t113 fun t114=>
 ai t114 h fun t115=>
 C bo [t82] h fun t107 h16=>
 (ai t114 h16 fun _t=>
 _t=t115)∧
 (ai t110 h16 fun _t=>
 _t=t111)∧
 C eX [t107,t111,t115] h16 fun t116 h17=>
 am 0 t116 fun t117=>
 am 1 t116 fun t118=>
 ah .eql t118 (I 0) fun t120=>
 ifB t120 (
 aJ s0 fun t122=>
 ae 2 t122 fun t123=>
 ai t123 h17 fun t124=>
 aJ t82 fun t126=>
 ae 1 t126 fun t127=>
 ae 4 t127 fun t128=>
 ai t128 h17 fun t129=>
 m1 .string (I 0) t124 t129 h17 fun t131 h18=>
 am 1 t131 fun t132=>
 jD t124 t132 t117 h18 fun h19=>
 cQ (B true) (af vs13 1) h19 next13) (
 cQ (af vs13 0) (af vs13 1) h17 next13)))) (
 next12 [(af vs13 0)] h)
def fZ (s0:AV) (Q:QT) (vs12:List AV) (h:ab) (next12:NT):Prop:=
 ifB (af vs12 0) (
 aJ s0 fun t75=>
 ae 0 t75 fun t76=>
 ai t76 h fun t77=>
 bh t77 fun t78=>
 bG [(B false),(I 0)] h fun vs13 h next13=>nk t78 t77 s0 next12 vs13 h next13) (
 Q (.tup []) h)
def jr (s38 s37 s0:AV) (Q:QT) (vs6:List AV) (h:ab) (next6:NT):Prop:=
 ah .lss (af vs6 1) s38 fun t40=>
 ifB t40 (
 ao 1 s37 (af vs6 1) fun t41=>
 ai t41 h fun t42=>
 aJ t42 fun t45=>
 ae 7 t45 fun t46=>
 aw 1 t46 (af vs6 0) h fun h7=>
 aJ t42 fun t48=>
 ae 1 t48 fun t49=>
 ae 1 t49 fun t50=>
 ai t50 h7 fun t51=>
 ah .neq t51 (S ⟨#[]⟩) fun t52=>
 ifB t52 (
 aJ s0 fun t54=>
 ae 2 t54 fun t55=>
 ai t55 h7 fun t56=>
 aJ t42 fun t58=>
 ae 1 t58 fun t59=>
 ae 1 t59 fun t60=>
 ai t60 h7 fun t61=>
 d3 .string t56 t61 (af vs6 0) h7 fun h8=>
 gh t42 (af vs6 0) (af vs6 1) s0 h8 next6) (
 gh t42 (af vs6 0) (af vs6 1) s0 h7 next6)) (
 aJ s0 fun t71=>
 ae 4 t71 fun t72=>
 aw 1 t72 (af vs6 0) h fun h11=>
 bG [(B true)] h11 fun vs12 h next12=>fZ s0 Q vs12 h next12)
def nb (s22 s0:AV) (Q:QT) (h:ab) (next3:NT):Prop:=
 vm s22 h fun t23 h4=>
 am 0 t23 fun t24=>
 ifB t24 (
 vn s22 h4 fun t25=>
 am 0 t25 fun t26=>
 am 1 t25 fun t27=>
 aJ s0 fun t29=>
 ae 2 t29 fun t30=>
 ai t30 h4 fun t31=>
 d3 .string t31 t26 t27 h4 fun h5=>
 next3 [] h5) (
 aJ s0 fun t35=>
 ae 0 t35 fun t36=>
 ai t36 h4 fun t37=>
 bh t37 fun t38=>
 bG [(I 0),(I 0)] h4 fun vs6 h next6=>jr t38 t37 s0 Q vs6 h next6)
def tN (a0:AV) (h:ab) (Q:QT):Prop:=
 np h fun t15 h0=>
 aJ a0 fun t16=>
 ae 2 t16 fun t17=>
 aw 1 t17 t15 h0 fun h1=>
 aJ a0 fun t19=>
 ae 1 t19 fun t20=>
 ai t20 h1 fun t21=>
 qT t21 h1 fun t22 h2=>
 bG [] h2 fun _ h next3=>nb t22 a0 Q h next3
theorem wN (a0:AV) (h:ab) (Q:QT) (k:tN a0 h Q):C gH [a0] h Q:=
 okF (pl:=[(3,[2,3,23,24,25,26,27,28,29,30,31,32,33],[]),(8,[4,6,39,40,41,42,43,44,45,46,47,48,49,50,51,52,53,54,55,56,57,58,59,60,61,62,63,64,65,66,67,68],[4,39]),(1000011,[0,1,2,3,4,5,6,7,8,9,10],[]),(17,[7,9,10,11,12,13,73,74,75,76,77,78,79,80,81,82,83,84,85,86,87,88,89,90,91,92,93,94,95,96,97,98,99,100,101,102,103,104,105,106,107,108,109,110,111,112,113,114,115,116,117,118,119,120,121,122,123,124,125,126,127,128,129,130,131,132,133],[7]),(20,[7,9,10,11,12,13,79,80,81,82,83,84,85,86,87,88,89,90,91,92,93,94,95,96,97,98,99,100,101,102,103,104,105,106,107,108,109,110,111,112,113,114,115,116,117,118,119,120,121,122,123,124,125,126,127,128,129,130,131,132,133],[7,79]),(1000021,[0,1,2,3,4,5,6,7,8,9,10,11,12,13,14],[]),(1000023,[0,2,3,4,5,6,7,8,9,1,10,11,12,13,14,15],[]),(1000025,[0,1,2,3,4,5,6,7,8,9,10,11,12,13],[])]) Tryz.func54 Tryz.ntmps54 (by kernel_rfl) rfl (by kernel_rfl) k
def fV (s5:AV) (h:ab) (Q:QT):Prop:=
 Q s5 h
def fX (s51 s0 s1:AV) (h:ab) (Q:QT):Prop:=
 ifB s51 (
 aJ s0 fun t58=>
 ae 1 t58 fun t59=>
 ai t59 h fun t60=>
 C bo [s1] h fun t56 h1=>
 (ai t59 h1 fun _t=>
 _t=t60)∧
 C eX [t56,(I 0),t60] h1 fun t61 h2=>
 am 0 t61 fun t62=>
 am 1 t61 fun t63=>
 aJ s1 fun t65=>
 ae 1 t65 fun t66=>
 ae 2 t66 fun t67=>
 ai t67 h2 fun t68=>
 ah .eql t68 (I 7) fun t69=>
 ifB t69 (
 aJ s1 fun t72=>
 ae 7 t72 fun t73=>
 ai t73 h2 fun t74=>
 ah .rem t74 t62 fun t76=>
 ah .sub t62 t76 fun t77=>
 ah .rem t77 t62 fun t79=>
 fV t79 h2 Q) (
 fV t62 h2 Q)) (
 Q (I 0) h)
def eB (s26 s11 s0 s1:AV) (h:ab) (Q:QT):Prop:=
 ifB s26 (
 aJ s1 fun t31=>
 ae 1 t31 fun t32=>
 ae 5 t32 fun t33=>
 ai t33 h fun t34=>
 bh t34 fun t35=>
 aJ s1 fun t37=>
 ae 1 t37 fun t38=>
 ae 2 t38 fun t39=>
 ai t39 h fun t40=>
 ah .sub t40 (I 3) fun t41=>
 ah .shl t35 t41 fun t42=>
 Q t42 h) (
 ah .eql s11 (I 6) fun t44=>
 ifB t44 (
 aJ s1 fun t46=>
 ae 1 t46 fun t47=>
 ae 4 t47 fun t48=>
 ai t48 h fun t49=>
 bZ t49 fun t50=>
 Q t50 h) (
 ah .eql s11 (I 7) fun t52=>
 ifB t52 (
 fX t52 s0 s1 h Q) (
 ah .eql s11 (I 8) fun t53=>
 fX t53 s0 s1 h Q)))
def rC (a0 a1:AV) (h:ab) (Q:QT):Prop:=
 aJ a1 fun t8=>
 ae 1 t8 fun t9=>
 ae 2 t9 fun t10=>
 ai t10 h fun t11=>
 ah .eql t11 (I 1) fun t13=>
 ifB t13 (
 aJ a1 fun t15=>
 ae 1 t15 fun t16=>
 ae 3 t16 fun t17=>
 ai t17 h fun t18=>
 C nS [t18] h fun t19 h0=>
 Q t19 h0) (
 ah .eql t11 (I 2) fun t21=>
 ifB t21 (
 aJ a1 fun t23=>
 ae 8 t23 fun t24=>
 ai t24 h fun t25=>
 ifB t25 (
 Q (I 4) h) (
 Q (I 2) h)) (
 ah .eql t11 (I 3) fun t27=>
 ifB t27 (
 eB t27 t11 a0 a1 h Q) (
 ah .eql t11 (I 4) fun t28=>
 ifB t28 (
 eB t28 t11 a0 a1 h Q) (
 ah .eql t11 (I 5) fun t29=>
 eB t29 t11 a0 a1 h Q))))
theorem vN (a0 a1:AV) (h:ab) (Q:QT) (k:rC a0 a1 h Q):C ey [a0,a1] h Q:=
 okF (pl:=[(1000011,[0,1,2,3,4,5,6,7,8,9,10,11,12,13],[]),(1000016,[0,2,3,4,5,1,6,7,8,9,10,11],[])]) Tryz.func22 Tryz.ntmps22 (by kernel_rfl) rfl (by kernel_rfl) k
def lQ (s0:AV) (Q:QT) (h:ab) (next1:NT):Prop:=
 C jy [s0] h fun t5 h2=>
 ifB t5 (
 C gH [s0] h2 fun t7 h3=>
 next1 [] h3) (
 aJ s0 fun t9=>
 ae 4 t9 fun t10=>
 ai t10 h2 fun t11=>
 ah .gtr t11 (I 4096) fun t12=>
 ifB t12 (
 C aQ [s0,(S ⟨#[]⟩),(I 0),(I 8)] h2 fun t14 h4=>
 Q (.tup []) h4) (
 Q (.tup []) h2))
def nR (a0:AV) (h:ab) (Q:QT):Prop:=
 C gH [a0] h fun t3 h0=>
 bG [] h0 fun _ h next1=>lQ a0 Q h next1
theorem sI (a0:AV) (h:ab) (Q:QT) (k:nR a0 h Q):C bT [a0] h Q:=
 okF (pl:=[(2,[4,5,6,7],[])]) Tryz.func33 Tryz.ntmps33 (by kernel_rfl) rfl (by kernel_rfl) k
def fw (s12:AV) (h:ab) (next0:NT):Prop:=
 ah .add s12 (I 1) fun t77=>
 next0 [t77] h
def aK (s12:AV) (h:ab) (next0:NT):Prop:=
 fw s12 h next0
def bx (s6 s5 s3 s12 s0:AV) (h:ab) (next0:NT):Prop:=
 C bo [s3] h fun t56 h6=>
 C em [t56] h6 fun t57 h7=>
 ifB t57 (aJ s3 fun t68=>
 ae 0 t68 fun t69=>
 ai t69 h7 fun t70=>
 aJ s3 fun t72=>
 ae 1 t72 fun t73=>
 ae 0 t73 fun t74=>
 ai t74 h7 fun t75=>
 C aQ [s0,t70,t75,(I 3)] h7 fun t76 h8=>
 aK s12 h8 next0) (
 ah .neq s5 (I 0) fun t60=>
 ifB t60 (aJ s3 fun t68=>
 ae 0 t68 fun t69=>
 ai t69 h7 fun t70=>
 aJ s3 fun t72=>
 ae 1 t72 fun t73=>
 ae 0 t73 fun t74=>
 ai t74 h7 fun t75=>
 C aQ [s0,t70,t75,(I 3)] h7 fun t76 h9=>
 aK s12 h9 next0) (
 qUn .not s6 fun t64=>
 ifB t64 (
 aJ s3 fun t68=>
 ae 0 t68 fun t69=>
 ai t69 h7 fun t70=>
 aJ s3 fun t72=>
 ae 1 t72 fun t73=>
 ae 0 t73 fun t74=>
 ai t74 h7 fun t75=>
 C aQ [s0,t70,t75,(I 3)] h7 fun t76 h10=>
 aK s12 h10 next0) (
 aK s12 h7 next0)))
def lY (s6 s5 s3 s12 s0:AV) (h:ab) (next0:NT):Prop:=
 C bo [s3] h fun t56 h13=>
 C em [t56] h13 fun t57 h14=>
 ifB t57 (aJ s3 fun t68=>
 ae 0 t68 fun t69=>
 ai t69 h14 fun t70=>
 aJ s3 fun t72=>
 ae 1 t72 fun t73=>
 ae 0 t73 fun t74=>
 ai t74 h14 fun t75=>
 C aQ [s0,t70,t75,(I 3)] h14 fun t76 h15=>
 aK s12 h15 next0) (
 ah .neq s5 (I 0) fun t60=>
 ifB t60 (aJ s3 fun t68=>
 ae 0 t68 fun t69=>
 ai t69 h14 fun t70=>
 aJ s3 fun t72=>
 ae 1 t72 fun t73=>
 ae 0 t73 fun t74=>
 ai t74 h14 fun t75=>
 C aQ [s0,t70,t75,(I 3)] h14 fun t76 h16=>
 aK s12 h16 next0) (
 qUn .not s6 fun t64=>
 ifB t64 (
 aJ s3 fun t68=>
 ae 0 t68 fun t69=>
 ai t69 h14 fun t70=>
 aJ s3 fun t72=>
 ae 1 t72 fun t73=>
 ae 0 t73 fun t74=>
 ai t74 h14 fun t75=>
 C aQ [s0,t70,t75,(I 3)] h14 fun t76 h17=>
 aK s12 h17 next0) (
 aK s12 h14 next0)))
def mc (s6 s5 s3 s12 s0:AV) (h:ab) (next0:NT):Prop:=
 C bo [s3] h fun t56 h22=>
 C em [t56] h22 fun t57 h23=>
 ifB t57 (aJ s3 fun t68=>
 ae 0 t68 fun t69=>
 ai t69 h23 fun t70=>
 aJ s3 fun t72=>
 ae 1 t72 fun t73=>
 ae 0 t73 fun t74=>
 ai t74 h23 fun t75=>
 C aQ [s0,t70,t75,(I 3)] h23 fun t76 h24=>
 aK s12 h24 next0) (
 ah .neq s5 (I 0) fun t60=>
 ifB t60 (aJ s3 fun t68=>
 ae 0 t68 fun t69=>
 ai t69 h23 fun t70=>
 aJ s3 fun t72=>
 ae 1 t72 fun t73=>
 ae 0 t73 fun t74=>
 ai t74 h23 fun t75=>
 C aQ [s0,t70,t75,(I 3)] h23 fun t76 h25=>
 aK s12 h25 next0) (
 qUn .not s6 fun t64=>
 ifB t64 (
 aJ s3 fun t68=>
 ae 0 t68 fun t69=>
 ai t69 h23 fun t70=>
 aJ s3 fun t72=>
 ae 1 t72 fun t73=>
 ae 0 t73 fun t74=>
 ai t74 h23 fun t75=>
 C aQ [s0,t70,t75,(I 3)] h23 fun t76 h26=>
 aK s12 h26 next0) (
 aK s12 h23 next0)))
def lX (s6 s5 s3 s12 s0:AV) (h:ab) (next0:NT):Prop:=
 C bo [s3] h fun t56 h29=>
 C em [t56] h29 fun t57 h30=>
 ifB t57 (aJ s3 fun t68=>
 ae 0 t68 fun t69=>
 ai t69 h30 fun t70=>
 aJ s3 fun t72=>
 ae 1 t72 fun t73=>
 ae 0 t73 fun t74=>
 ai t74 h30 fun t75=>
 C aQ [s0,t70,t75,(I 3)] h30 fun t76 h31=>
 aK s12 h31 next0) (
 ah .neq s5 (I 0) fun t60=>
 ifB t60 (aJ s3 fun t68=>
 ae 0 t68 fun t69=>
 ai t69 h30 fun t70=>
 aJ s3 fun t72=>
 ae 1 t72 fun t73=>
 ae 0 t73 fun t74=>
 ai t74 h30 fun t75=>
 C aQ [s0,t70,t75,(I 3)] h30 fun t76 h32=>
 aK s12 h32 next0) (
 qUn .not s6 fun t64=>
 ifB t64 (
 aJ s3 fun t68=>
 ae 0 t68 fun t69=>
 ai t69 h30 fun t70=>
 aJ s3 fun t72=>
 ae 1 t72 fun t73=>
 ae 0 t73 fun t74=>
 ai t74 h30 fun t75=>
 C aQ [s0,t70,t75,(I 3)] h30 fun t76 h33=>
 aK s12 h33 next0) (
 aK s12 h30 next0)))
def lJ (s11 s10 s0:AV) (Q:QT) (vs0:List AV) (h:ab) (next0:NT):Prop:=
 ah .lss (af vs0 0) s11 fun t13=>
 ifB t13 (
 ao 1 s10 (af vs0 0) fun t14=>
 ai t14 h fun t15=>
 aJ t15 fun t17=>
 ae 1 t17 fun t18=>
 ae 2 t18 fun t19=>
 ai t19 h fun t20=>
 ah .neq t20 (I 7) fun t21=>
 ifB t21 (aJ t15 fun t24=>
 ae 1 t24 fun t25=>
 ae 2 t25 fun t26=>
 ai t26 h fun t27=>
 ah .neq t27 (I 8) fun t28=>
 ifB t28 (
 aK (af vs0 0) h next0) (
 aJ s0 fun t34=>
 ae 1 t34 fun t35=>
 ai t35 h fun t36=>
 C bo [t15] h fun t32 h3=>
 (ai t35 h3 fun _t=>
 _t=t36)∧
 C eX [t32,(I 0),t36] h3 fun t37 h4=>
 am 0 t37 fun t38=>
 am 1 t37 fun t39=>
 ah .geq t38 (I 0) fun t41=>
 ifB t41 (ah .leq t38 (I 1000) fun t44=>
 aJ t15 fun t47=>
 ae 1 t47 fun t48=>
 ae 2 t48 fun t49=>
 ai t49 h4 fun t50=>
 ah .eql t50 (I 7) fun t51=>
 ifB t51 (
 ap 5 1 [(I 1),(I 2),(I 4),(I 8),(I 16)] fun t52=>
 C be [t52,t38] h4 fun t54 h5=>
 bx t54 t39 t15 (af vs0 0) s0 h5 next0) (
 bx t44 t39 t15 (af vs0 0) s0 h4 next0)) (
 aJ t15 fun t47=>
 ae 1 t47 fun t48=>
 ae 2 t48 fun t49=>
 ai t49 h4 fun t50=>
 ah .eql t50 (I 7) fun t51=>
 ifB t51 (
 ap 5 1 [(I 1),(I 2),(I 4),(I 8),(I 16)] fun t52=>
 C be [t52,t38] h4 fun t54 h12=>
 lY t54 t39 t15 (af vs0 0) s0 h12 next0) (
 lY (B false) t39 t15 (af vs0 0) s0 h4 next0)))) (
 aJ s0 fun t34=>
 ae 1 t34 fun t35=>
 ai t35 h fun t36=>
 C bo [t15] h fun t32 h19=>
 (ai t35 h19 fun _t=>
 _t=t36)∧
 C eX [t32,(I 0),t36] h19 fun t37 h20=>
 am 0 t37 fun t38=>
 am 1 t37 fun t39=>
 ah .geq t38 (I 0) fun t41=>
 ifB t41 (ah .leq t38 (I 1000) fun t44=>
 aJ t15 fun t47=>
 ae 1 t47 fun t48=>
 ae 2 t48 fun t49=>
 ai t49 h20 fun t50=>
 ah .eql t50 (I 7) fun t51=>
 ifB t51 (
 ap 5 1 [(I 1),(I 2),(I 4),(I 8),(I 16)] fun t52=>
 C be [t52,t38] h20 fun t54 h21=>
 mc t54 t39 t15 (af vs0 0) s0 h21 next0) (
 mc t44 t39 t15 (af vs0 0) s0 h20 next0)) (
 aJ t15 fun t47=>
 ae 1 t47 fun t48=>
 ae 2 t48 fun t49=>
 ai t49 h20 fun t50=>
 ah .eql t50 (I 7) fun t51=>
 ifB t51 (
 ap 5 1 [(I 1),(I 2),(I 4),(I 8),(I 16)] fun t52=>
 C be [t52,t38] h20 fun t54 h28=>
 lX t54 t39 t15 (af vs0 0) s0 h28 next0) (
 lX (B false) t39 t15 (af vs0 0) s0 h20 next0)))) (
 Q (.tup []) h)
def qd (a0:AV) (h:ab) (Q:QT):Prop:=
 aJ a0 fun t8=>
 ae 0 t8 fun t9=>
 ai t9 h fun t10=>
 bh t10 fun t11=>
 bG [(I 0)] h fun vs0 h next0=>lJ t11 t10 a0 Q vs0 h next0
theorem uw (a0:AV) (h:ab) (Q:QT) (k:qd a0 h Q):C ce [a0] h Q:=
 okF (pl:=[(2,[3,4,5,6,12,13,14,15,16,17,18,19,20,21,22,23,24,25,26,27,28,29,30,31,32,33,34,35,36,37,38,39,40,41,42,43,44,45,46,47,48,49,50,51,52,53,54,55,56,57,58,59,60,61,62,63,64,65,66,67,68,69,70,71,72,73,74,75,76,77],[12]),(1000004,[0,2,3,4,5,1,6,7,8,9,10,11],[]),(1000009,[0,1,2,3,4,5,6,7,8,9,10],[])]) Tryz.func32 Tryz.ntmps32 (by kernel_rfl) rfl (by kernel_rfl) k
def rx (a0 a1 a2 a3:AV) (h:ab) (Q:QT):Prop:=
 aJ a0 fun t10=>
 ae 3 t10 fun t11=>
 ai t11 h fun t12=>
 au [(S ⟨#[]⟩),(I 0),(I 0)] [(0,1,a1),(1,1,a2),(2,1,a3)] fun t16=>
 ap 1 3 [t16] fun t17=>
 bL 3 32 t12 t17 h fun t18 h0=>
 aJ a0 fun t19=>
 ae 3 t19 fun t20=>
 aw 1 t20 t18 h0 fun h1=>
 Q (.tup []) h1
theorem vx (a0 a1 a2 a3:AV) (h:ab) (Q:QT) (k:rx a0 a1 a2 a3 h Q):C aQ [a0,a1,a2,a3] h Q:=
 okF (pl:=[]) Tryz.func51 Tryz.ntmps51 (by kernel_rfl) rfl (by kernel_rfl) k
def iL (s52:AV) (h:ab) (next7:NT):Prop:=
 ah .add s52 (I 1) fun t77=>
 next7 [t77] h
def fy (s52:AV) (h:ab) (next7:NT):Prop:=
 iL s52 h next7
def eS (s8 s52 s2:AV) (h:ab) (next7:NT):Prop:=
 hY .string false (I 0) s2 s8 h fun t75=>
 ah .add t75 (I 1) fun t76=>
 d3 .string s2 s8 t76 h fun h11=>
 fy s52 h11 next7
def lL (s51 s50 s5 s26 s2 s0:AV) (next5:NT) (vs7:List AV) (h:ab) (next7:NT):Prop:=
 ah .lss (af vs7 0) s51 fun t53=>
 ifB t53 (
 ao 1 s50 (af vs7 0) fun t54=>
 ai t54 h fun t55=>
 ah .eql t55 (S ⟨#[]⟩) fun t57=>
 ifB t57 (
 fy (af vs7 0) h next7) (
 hY .string false (I 0) s2 t55 h fun t60=>
 ah .gtr t60 (I 0) fun t61=>
 ifB t61 (
 aJ s5 fun t64=>
 ae 0 t64 fun t65=>
 ai t65 h fun t66=>
 aJ s5 fun t68=>
 ae 1 t68 fun t69=>
 ae 0 t69 fun t70=>
 ai t70 h fun t71=>
 C aQ [s0,t66,t71,(I 2)] h fun t72 h10=>
 eS t55 (af vs7 0) s2 h10 next7) (
 eS t55 (af vs7 0) s2 h next7))) (
 ah .add s26 (I 1) fun t78=>
 next5 [t78] h)
def eQ (s6 s5 s26 s2 s0:AV) (h:ab) (next5:NT):Prop:=
 bh s6 fun t51=>
 bG [(I 0)] h fun vs7 h next7=>lL t51 s6 s5 s26 s2 s0 next5 vs7 h next7
def lR (s25 s24 s2 s0:AV) (Q:QT) (vs5:List AV) (h:ab) (next5:NT):Prop:=
 ah .lss (af vs5 0) s25 fun t27=>
 ifB t27 (
 ao 1 s24 (af vs5 0) fun t28=>
 ai t28 h fun t29=>
 aJ t29 fun t31=>
 ae 1 t31 fun t32=>
 ae 1 t32 fun t33=>
 ai t33 h fun t34=>
 ap 1 1 [t34] fun t35=>
 aJ t29 fun t37=>
 ae 1 t37 fun t38=>
 ae 2 t38 fun t39=>
 ai t39 h fun t40=>
 ah .eql t40 (I 9) fun t41=>
 ifB t41 (
 aJ t29 fun t44=>
 ae 1 t44 fun t45=>
 ae 4 t45 fun t46=>
 ai t46 h fun t47=>
 ap 1 1 [t47] fun t48=>
 bL 1 16 t35 t48 h fun t49 h6=>
 eQ t49 t29 (af vs5 0) s2 s0 h6 next5) (
 eQ t35 t29 (af vs5 0) s2 s0 h next5)) (
 Q (.tup []) h)
def lU (s14 s2 s0:AV) (Q:QT) (h:ab) (next2:NT):Prop:=
 vm s14 h fun t15 h3=>
 am 0 t15 fun t16=>
 ifB t16 (
 vn s14 h3 fun t17=>
 am 0 t17 fun t18=>
 d3 .string s2 t18 (I 1) h3 fun h4=>
 next2 [] h4) (
 aJ s0 fun t22=>
 ae 0 t22 fun t23=>
 ai t23 h3 fun t24=>
 bh t24 fun t25=>
 bG [(I 0)] h3 fun vs5 h next5=>lR t25 t24 s2 s0 Q vs5 h next5)
def pR (a0:AV) (h:ab) (Q:QT):Prop:=
 np h fun t9 h0=>
 aJ a0 fun t11=>
 ae 1 t11 fun t12=>
 ai t12 h0 fun t13=>
 qT t13 h0 fun t14 h1=>
 bG [] h1 fun _ h next2=>lU t14 t9 a0 Q h next2
theorem ur (a0:AV) (h:ab) (Q:QT) (k:pR a0 h Q):C cf [a0] h Q:=
 okF (pl:=[(3,[3,15,16,17,18,19,20],[]),(7,[5,6,8,26,27,28,29,30,31,32,33,34,35,36,37,38,39,40,41,42,43,44,45,46,47,48,49,50,51,52,53,54,55,56,57,58,59,60,61,62,63,64,65,66,67,68,69,70,71,72,73,74,75,76,77,78],[26]),(13,[8,52,53,54,55,56,57,58,59,60,61,62,63,64,65,66,67,68,69,70,71,72,73,74,75,76,77],[52]),(1000016,[0,1,2,3,4,5,6,7,8,9,10],[])]) Tryz.func31 Tryz.ntmps31 (by kernel_rfl) rfl (by kernel_rfl) k
def eP (s10 s9 s4 s5 s6 s17:AV) (h:ab) (next0:NT) (Q:QT):Prop:=
 ah .neq s10 (I 0) fun t40=>
 ifB t40 (
 Q (.tup [(.full 0 []),s10]) h) (
 ap 1 1 [s9] fun t44=>
 bL 1 8 s6 t44 h fun t45 h4=>
 ah .add s17 (I 1) fun t46=>
 next0 [s4,s5,t45,t46] h4)
def lS (s16 s15 s0 s1:AV) (Q:QT) (vs0:List AV) (h:ab) (next0:NT):Prop:=
 ah .lss (af vs0 3) s16 fun t18=>
 ifB t18 (
 ao 5 s15 (af vs0 3) fun t19=>
 aD 5 t19 h fun t20=>
 gR [(I 0),(I 0),(I 0),(S ⟨#[]⟩),(.full 0 [])] h fun t8 h1=>
 aw 5 t8 t20 h1 fun h2=>
 ae 0 t8 fun t21=>
 ai t21 h2 fun t22=>
 ah .lss t22 (I 0) fun t24=>
 ifB t24 (
 ae 1 t8 fun t26=>
 aD 4 t26 h2 fun t27=>
 aJ s1 fun t29=>
 ae 7 t29 fun t30=>
 ai t30 h2 fun t31=>
 aJ s0 fun t33=>
 ae 2 t33 fun t34=>
 ai t34 h2 fun t35=>
 C eX [t27,t31,t35] h2 fun t36 h3=>
 am 0 t36 fun t37=>
 am 1 t36 fun t38=>
 eP t38 t37 (af vs0 0) (af vs0 1) (af vs0 2) (af vs0 3) h3 next0 Q) (
 eP (I 0) t22 (af vs0 0) (af vs0 1) (af vs0 2) (af vs0 3) h2 next0 Q)) (
 Q (.tup [(af vs0 2),(I 0)]) h)
def n6 (a0 a1:AV) (h:ab) (Q:QT):Prop:=
 aJ a1 fun t12=>
 ae 1 t12 fun t13=>
 ae 5 t13 fun t14=>
 ai t14 h fun t15=>
 bh t15 fun t16=>
 bG [(.full 0 []),(I 0),(.full 0 []),(I 0)] h fun vs0 h next0=>lS t16 t15 a0 a1 Q vs0 h next0
theorem sa (a0 a1:AV) (h:ab) (Q:QT) (k:n6 a0 a1 h Q):C eV [a0,a1] h Q:=
 okF (pl:=[(4,[4,5,6,8,9,10,17,18,19,20,21,22,23,24,25,26,27,28,29,30,31,32,33,34,35,36,37,38,39,40,41,42,43,44,45,46],[4,5,6,17]),(1000007,[0,1,2,3,4,5,6,7,8,9,10,11,12,13,14,15],[])]) Tryz.func35 Tryz.ntmps35 (by kernel_rfl) rfl (by kernel_rfl) k
def Tv (h:ab) (Q:QT):Prop:=Q (I 0) h
def Di (a1 t37:AV) (h:ab) (Q:QT):Prop:=
 aJ a1 fun t94=>
 ae 1 t94 fun t95=>
 ae 2 t95 fun t96=>
 ai t96 h fun t97=>
 C pn [t97] h fun t98 h5=>
 am 0 t98 fun t99=>
 am 1 t98 fun t100=>
 C gb [t37] h5 fun t102 h6=>
 ah .lss t102 t99 fun t104=>
 ifB t104 (Q (I 6) h6) (
 C fW [t37] h6 fun t107 h7=>
 ah .gtr t107 t100 fun t109=>
 ifB t109 (
 Q (I 6) h7) (
 Tv h7 Q))
def AK (a1 t37:AV) (h:ab) (Q:QT):Prop:=
 aJ a1 fun t71=>
 ae 1 t71 fun t72=>
 ae 2 t72 fun t73=>
 ai t73 h fun t74=>
 ah .eql t74 (I 3) fun t75=>
 ifB t75 (Di a1 t37 h Q) (
 aJ a1 fun t78=>
 ae 1 t78 fun t79=>
 ae 2 t79 fun t80=>
 ai t80 h fun t81=>
 ah .eql t81 (I 4) fun t82=>
 ifB t82 (Di a1 t37 h Q) (
 aJ a1 fun t86=>
 ae 1 t86 fun t87=>
 ae 2 t87 fun t88=>
 ai t88 h fun t89=>
 ah .eql t89 (I 5) fun t90=>
 ifB t90 (Di a1 t37 h Q) (
 Tv h Q)))
def An (a1 t37:AV) (h:ab) (Q:QT):Prop:=
 C gA [a1,t37] h fun t65 h3=>
 C mT [t65] h3 fun t66 h4=>
 qUn .not t66 fun t67=>
 ifB t67 (
 Q (I 6) h4) (
 AK a1 t37 h4 Q)
def wrA (a1 t37 t38:AV) (h:ab) (Q:QT):Prop:=
 ah .neq t38 (I 0) fun t58=>
 ifB t58 (
 Q t38 h) (
 An a1 t37 h Q)
def wrB (t22 a1 t37 t38:AV) (h:ab) (Q:QT):Prop:=
 ah .neq t38 (I 0) fun t58=>
 ifB t58 (
 Q t38 h) (
 ifB t22 (An a1 t37 h Q) (AK a1 t37 h Q))
def BV (a0 a1:AV) (tail:AV→QT) (h:ab) (Q:QT):Prop:=
 C eV [a0,a1] h fun t36 h0=>
 am 0 t36 fun t37=>
 am 1 t36 fun t38=>
 ah .eql t38 (I 4) fun t41=>
 ifB t41 (aJ a1 fun t44=>
 ae 1 t44 fun t45=>
 ae 2 t45 fun t46=>
 ai t46 h0 fun t47=>
 ah .eql t47 (I 9) fun t48=>
 ifB t48 (C bo [a1] h0 fun t53 h1=>
 C gc [a0,t53] h1 fun t54 h2=>
 ifB t54 (
 Q (I 5) h2) (
 tail t37 t38 h2)) (
 tail t37 t38 h0)) (
 tail t37 t38 h0)
def pJ (a0 a1:AV) (h:ab) (Q:QT):Prop:=
 aJ a1 fun t11=>
 ae 1 t11 fun t12=>
 ae 2 t12 fun t13=>
 ai t13 h fun t14=>
 ah .eql t14 (I 1) fun t15=>
 ifB t15 (aJ a1 fun t27=>
 ae 7 t27 fun t28=>
 ai t28 h fun t29=>
 ah .rem t29 (I 2) fun t30=>
 ah .neq t30 (I 0) fun t31=>
 ifB t31 (
 Q (I 7) h) (
 BV a0 a1 (fun t37 t38 h=>wrA a1 t37 t38 h Q) h Q)) (
 aJ a1 fun t18=>
 ae 1 t18 fun t19=>
 ae 2 t19 fun t20=>
 ai t20 h fun t21=>
 ah .eql t21 (I 2) fun t22=>
 ifB t22 (aJ a1 fun t27=>
 ae 7 t27 fun t28=>
 ai t28 h fun t29=>
 ah .rem t29 (I 2) fun t30=>
 ah .neq t30 (I 0) fun t31=>
 ifB t31 (
 Q (I 7) h) (
 BV a0 a1 (fun t37 t38 h=>wrB t22 a1 t37 t38 h Q) h Q)) (
 BV a0 a1 (fun t37 t38 h=>wrB t22 a1 t37 t38 h Q) h Q))
theorem ut (a0 a1:AV) (h:ab) (Q:QT) (k:pJ a0 a1 h Q):C iO [a0,a1] h Q:=
 okF (pl:=[]) Tryz.func56 Tryz.ntmps56 (by kernel_rfl) rfl (by kernel_rfl) k
def Au (a0:AV) (h:ab) (Q:QT):Prop:=
 ah .eql a0 (I 3) fun t6=>
 ifB t6 (
 Q (.tup [(I (-128)),(I 255)]) h) (
 ah .eql a0 (I 4) fun t8=>
 ifB t8 (
 Q (.tup [(I (-32768)),(I 65535)]) h) (
 Q (.tup [(I (-2147483648)),(I 4294967295)]) h))
theorem CC (a0:AV) (h:ab) (Q:QT) (k:Au a0 h Q):C pn [a0] h Q:=
 okF (pl:=[]) Tryz.func80 Tryz.ntmps80 (by kernel_rfl) rfl (by kernel_rfl) k
def kO (a0 a1 a2:AV) (h:ab) (Q:QT):Prop:=
 lP a0 h fun t3 h0=>
 ae 0 t3 fun t13=>
 ai t13 h0 fun t14=>
 ah .eql t14 (I 1) fun t15=>
 ifB t15 (
 ae 1 t3 fun t16=>
 ai t16 h0 fun t17=>
 C cx [t17] h0 fun t18 h1=>
 am 0 t18 fun t19=>
 am 1 t18 fun t20=>
 Q (.tup [t19,t20]) h1) (
 ae 0 t3 fun t22=>
 ai t22 h0 fun t23=>
 ah .eql t23 (I 3) fun t24=>
 ifB t24 (
 C cx [a1] h0 fun t26 h2=>
 am 0 t26 fun t27=>
 am 1 t26 fun t28=>
 Q (.tup [t27,t28]) h2) (
 ae 0 t3 fun t30=>
 ai t30 h0 fun t31=>
 ah .eql t31 (I 2) fun t32=>
 ifB t32 (
 C cB [a2,(.fn (.func nw) [] [t3])] h0 fun t35 h3=>
 ah .lss t35 (I 0) fun t37=>
 ifB t37 (
 Q (.tup [(I 0),(I 4)]) h3) (
 ao 2 a2 t35 fun t40=>
 ae 1 t40 fun t41=>
 ai t41 h3 fun t42=>
 C cx [t42] h3 fun t43 h4=>
 am 0 t43 fun t44=>
 am 1 t43 fun t45=>
 Q (.tup [t44,t45]) h4)) (
 ae 3 t3 fun t47=>
 ai t47 h0 fun t48=>
 bh t48 fun t49=>
 ah .eql t49 (I 0) fun t50=>
 ifB t50 (
 Q (.tup [(I 0),(I 6)]) h0) (
 ae 3 t3 fun t52=>
 ai t52 h0 fun t53=>
 ao 4 t53 (I 0) fun t54=>
 aD 4 t54 h0 fun t55=>
 C jY [t55,a1,a2] h0 fun t58 h5=>
 am 0 t58 fun t59=>
 am 1 t58 fun t60=>
 ah .neq t60 (I 0) fun t63=>
 ifB t63 (
 Q (.tup [(I 0),t60]) h5) (
 ae 3 t3 fun t66=>
 ai t66 h5 fun t67=>
 bh t67 fun t68=>
 ah .eql t68 (I 1) fun t69=>
 ifB t69 (
 qUn .neg t59 fun t71=>
 C cx [t71] h5 fun t72 h6=>
 am 0 t72 fun t73=>
 am 1 t72 fun t74=>
 Q (.tup [t73,t74]) h6) (
 ae 3 t3 fun t76=>
 ai t76 h5 fun t77=>
 ao 4 t77 (I 1) fun t78=>
 aD 4 t78 h5 fun t79=>
 C jY [t79,a1,a2] h5 fun t82 h7=>
 am 0 t82 fun t83=>
 am 1 t82 fun t84=>
 ah .neq t84 (I 0) fun t86=>
 ifB t86 (
 Q (.tup [(I 0),t84]) h7) (
 ae 0 t3 fun t88=>
 ai t88 h7 fun t89=>
 C qk [t89,t59,t83] h7 fun t92 h8=>
 am 0 t92 fun t93=>
 am 1 t92 fun t94=>
 Q (.tup [t93,t94]) h8)))))))
theorem ic (a0 a1 a2:AV) (h:ab) (Q:QT) (k:kO a0 a1 a2 h Q):C jY [a0,a1,a2] h Q:=
 okF (pl:=[]) Tryz.func63 Tryz.ntmps63 (by kernel_rfl) rfl (by kernel_rfl) k
def yM (a0 a1:AV) (h:ab) (Q:QT):Prop:=
 lP a0 h fun t2 h0=>
 ae 0 t2 fun t4=>
 ai t4 h0 fun t5=>
 ae 2 a1 fun t6=>
 ai t6 h0 fun t7=>
 ah .eql t5 t7 fun t8=>
 Q t8 h0
theorem BM (a0 a1:AV) (h:ab) (Q:QT) (k:yM a0 a1 h Q):C nw [a0,a1] h Q:=
 okF (pl:=[]) Tryz.func98 Tryz.ntmps98 (by kernel_rfl) rfl (by kernel_rfl) k
def o5 (s3 s26:AV) (h:ab) (next6:NT):Prop:=
 ah .add s26 (I 1) fun t38=>
 next6 [s3,t38] h
def kw (s3 s26:AV) (h:ab) (next6:NT):Prop:=
 o5 s3 s26 h next6
def tI (s25 s24 s19:AV) (next2:NT) (vs6:List AV) (h:ab) (next6:NT):Prop:=
 ah .lss (af vs6 1) s25 fun t27=>
 ifB t27 (
 ao 1 s24 (af vs6 1) fun t28=>
 ai t28 h fun t29=>
 C cX [(af vs6 0),t29] h fun t32 h7=>
 qUn .not t32 fun t33=>
 ifB t33 (
 ap 1 1 [t29] fun t36=>
 bL 1 16 (af vs6 0) t36 h7 fun t37 h8=>
 kw t37 (af vs6 1) h8 next6) (
 kw (af vs6 0) (af vs6 1) h7 next6)) (
 ah .add s19 (I 1) fun t39=>
 next2 [(af vs6 0),t39] h)
def sA (s18 s17:AV) (Q:QT) (vs2:List AV) (h:ab) (next2:NT):Prop:=
 ah .lss (af vs2 1) s18 fun t20=>
 ifB t20 (
 ao 4 s17 (af vs2 1) fun t21=>
 aD 4 t21 h fun t22=>
 gR [(I 0),(I 0),(S ⟨#[]⟩),(.full 0 [])] h fun t5 h3=>
 aw 4 t5 t22 h3 fun h4=>
 aD 4 t5 h4 fun t23=>
 C jb [t23] h4 fun t24 h5=>
 bh t24 fun t25=>
 bG [(af vs2 0),(I 0)] h5 fun vs6 h next6=>tI t25 t24 (af vs2 1) next2 vs6 h next6) (
 C dC [(af vs2 0)] h fun t41 h12=>
 Q t41 h12)
def j1 (s3 s1:AV) (h:ab) (Q:QT):Prop:=
 ae 3 s1 fun t16=>
 ai t16 h fun t17=>
 bh t17 fun t18=>
 bG [s3,(I 0)] h fun vs2 h next2=>sA t18 t17 Q vs2 h next2
def AQ (a0:AV) (h:ab) (Q:QT):Prop:=
 lP a0 h fun t1 h0=>
 ae 0 t1 fun t8=>
 ai t8 h0 fun t9=>
 ah .eql t9 (I 2) fun t10=>
 ifB t10 (
 ae 2 t1 fun t12=>
 ai t12 h0 fun t13=>
 ap 1 1 [t13] fun t14=>
 bL 1 16 (.full 0 []) t14 h0 fun t15 h1=>
 j1 t15 t1 h1 Q) (
 j1 (.full 0 []) t1 h0 Q)
theorem CB (a0:AV) (h:ab) (Q:QT) (k:AQ a0 h Q):C jb [a0] h Q:=
 okF (pl:=[(6,[3,5,7,19,20,21,22,23,24,25,26,27,28,29,30,31,32,33,34,35,36,37,38,39],[3,19]),(9,[3,7,26,27,28,29,30,31,32,33,34,35,36,37,38],[3,26])]) Tryz.func62 Tryz.ntmps62 (by kernel_rfl) rfl (by kernel_rfl) k
def BT (a0:AV) (h:ab) (Q:QT):Prop:=
 gR [(I 0),(I 0),(S ⟨#[]⟩),(.full 0 [])] h fun t2 h0=>
 au [(S ⟨#[]⟩),(I 0),(B false)] [(0,1,a0)] fun t6=>
 lP t6 h0 fun t7 h1=>
 C cq [t7,(I 0)] h1 fun t9 h2=>
 aw 4 t2 t9 h2 fun h3=>
 C eH [t7] h3 fun t11 h4=>
 aJ t7 fun t13=>
 ae 2 t13 fun t14=>
 ai t14 h4 fun t15=>
 ifB t15 (au [(I 0),(I 0),(S ⟨#[]⟩),(.full 0 [])] [] fun t23=>
 aw 4 t2 t23 h4 fun h5=>
 aD 4 t2 h5 fun r6=>
 Q (.tup [r6,(B false)]) h5) (
 aJ t7 fun t18=>
 ae 0 t18 fun t19=>
 ai t19 h4 fun t20=>
 ah .neq t20 (S ⟨#[]⟩) fun t21=>
 ifB t21 (
 au [(I 0),(I 0),(S ⟨#[]⟩),(.full 0 [])] [] fun t23=>
 aw 4 t2 t23 h4 fun h7=>
 aD 4 t2 h7 fun r8=>
 Q (.tup [r8,(B false)]) h7) (
 aD 4 t2 h4 fun t24=>
 aw 4 t2 t24 h4 fun h9=>
 aD 4 t2 h9 fun r10=>
 Q (.tup [r10,(B true)]) h9))
theorem Cr (a0:AV) (h:ab) (Q:QT) (k:BT a0 h Q):C pr [a0] h Q:=
 okF (pl:=[]) Tryz.func177 Tryz.ntmps177 (by kernel_rfl) rfl (by kernel_rfl) k
def Bg (s8 s0 s1:AV) (Q:QT) (vs1:List AV) (h:ab) (next1:NT):Prop:=
 vU s8 h fun t9 h2=>
 am 0 t9 fun t10=>
 ifB t10 (
 am 1 t9 fun t11=>
 am 2 t9 fun t12=>
 CV s1 [t12] h2 fun t15 h3=>
 qUn .not t15 fun t16=>
 ifB t16 (
 aM s0 none (some t11) fun t19=>
 Q t19 h3) (
 next1 [(af vs1 0)] h3)) (
 Q s0 h2)
def LK (a0 a1:AV) (h:ab) (Q:QT):Prop:=
 qI a0 h fun t8 h0=>
 bG [(S ⟨#[]⟩)] h0 fun vs1 h next1=>Bg t8 a0 a1 Q vs1 h next1
theorem La (a0 a1:AV) (h:ab) (Q:QT) (k:LK a0 a1 h Q):C cF [a0,a1] h Q:=
 okF (pl:=[(3,[4,5,6,9,10,11,12,13,14,15,16,17,18,19],[4])]) Tryz.func215 Tryz.ntmps215 (by kernel_rfl) rfl (by kernel_rfl) k
def D6 (a0 a1 a2:AV) (h:ab) (Q:QT):Prop:=
 ah .eql a0 (I 5) fun t10=>
 ifB t10 (
 ah .add a1 a2 fun t13=>
 C cx [t13] h fun t14 h0=>
 am 0 t14 fun t15=>
 am 1 t14 fun t16=>
 Q (.tup [t15,t16]) h0) (
 ah .eql a0 (I 6) fun t18=>
 ifB t18 (
 ah .sub a1 a2 fun t21=>
 C cx [t21] h fun t22 h1=>
 am 0 t22 fun t23=>
 am 1 t22 fun t24=>
 Q (.tup [t23,t24]) h1) (
 ah .eql a0 (I 7) fun t26=>
 ifB t26 (
 C lw [a1,a2] h fun t29 h2=>
 am 0 t29 fun t30=>
 am 1 t29 fun t31=>
 Q (.tup [t30,t31]) h2) (
 ah .eql a0 (I 8) fun t33=>
 ifB t33 (
 ah .and a1 a2 fun t36=>
 C cx [t36] h fun t37 h3=>
 am 0 t37 fun t38=>
 am 1 t37 fun t39=>
 Q (.tup [t38,t39]) h3) (
 ah .eql a0 (I 9) fun t41=>
 ifB t41 (
 ah .or a1 a2 fun t44=>
 C cx [t44] h fun t45 h4=>
 am 0 t45 fun t46=>
 am 1 t45 fun t47=>
 Q (.tup [t46,t47]) h4) (
 ah .lss a2 (I 0) fun t49=>
 ifB t49 (Q (.tup [(I 0),(I 6)]) h) (
 ah .gtr a2 (I 40) fun t52=>
 ifB t52 (
 Q (.tup [(I 0),(I 6)]) h) (
 ah .eql a0 (I 11) fun t55=>
 ifB t55 (
 ah .shr a1 a2 fun t58=>
 C cx [t58] h fun t59 h5=>
 am 0 t59 fun t60=>
 am 1 t59 fun t61=>
 Q (.tup [t60,t61]) h5) (
 ah .shl (I 1) a2 fun t64=>
 C lw [a1,t64] h fun t65 h6=>
 am 0 t65 fun t66=>
 am 1 t65 fun t67=>
 Q (.tup [t66,t67]) h6))))))))
theorem EX (a0 a1 a2:AV) (h:ab) (Q:QT) (k:D6 a0 a1 a2 h Q):C qk [a0,a1,a2] h Q:=
 okF (pl:=[]) Tryz.func99 Tryz.ntmps99 (by kernel_rfl) rfl (by kernel_rfl) k
def AB (a0:AV) (h:ab) (Q:QT):Prop:=
 ah .lss a0 (I (-1099511627776)) fun t5=>
 ifB t5 (Q (.tup [(I 0),(I 6)]) h) (
 ah .gtr a0 (I 1099511627776) fun t8=>
 ifB t8 (
 Q (.tup [(I 0),(I 6)]) h) (
 Q (.tup [a0,(I 0)]) h))
theorem CR (a0:AV) (h:ab) (Q:QT) (k:AB a0 h Q):C cx [a0] h Q:=
 okF (pl:=[]) Tryz.func96 Tryz.ntmps96 (by kernel_rfl) rfl (by kernel_rfl) k
def AZ (a0:AV) (h:ab) (Q:QT):Prop:=
 ah .geq a0 (.lit (.int .i32 48)) fun t4=>
 ifB t4 (ah .leq a0 (.lit (.int .i32 57)) fun t7=>
 Q t7 h) (
 Q (B false) h)
theorem Cq (a0:AV) (h:ab) (Q:QT) (k:AZ a0 h Q):C cK [a0] h Q:=
 okF (pl:=[]) Tryz.func219 Tryz.ntmps219 (by kernel_rfl) rfl (by kernel_rfl) k
def Hr (a0:AV) (h:ab) (Q:QT):Prop:=
 C cK [a0] h fun t4 h0=>
 ifB t4 (Q (B true) h0) (
 ah .geq a0 (.lit (.int .i32 97)) fun t7=>
 ifT t7 (ah .leq a0 (.lit (.int .i32 102)) fun t10=>
 Q t10 h0) (
 Q (B false) h0) (
 ifB (.tup []) (Q (.tup []) h0) (Q (B false) h0)))
theorem GN (a0:AV) (h:ab) (Q:QT) (k:Hr a0 h Q):C jH [a0] h Q:=
 okF (pl:=[]) Tryz.func216 Tryz.ntmps216 (by kernel_rfl) rfl (by kernel_rfl) k
def Ah (a0:AV) (h:ab) (Q:QT):Prop:=
 C o8 [a0] h fun t4 h0=>
 ifB t4 (Q (B true) h0) (
 C cK [a0] h0 fun t7 h1=>
 Q t7 h1)
theorem CO (a0:AV) (h:ab) (Q:QT) (k:Ah a0 h Q):C dJ [a0] h Q:=
 okF (pl:=[]) Tryz.func220 Tryz.ntmps220 (by kernel_rfl) rfl (by kernel_rfl) k
def yQ (h:ab) (Q:QT):Prop:=
 ap 1 1 [(I 9)] fun t1=>
 ap 1 1 [(I 8)] fun t2=>
 ap 2 1 [(I 10),(I 11)] fun t3=>
 ap 2 1 [(I 5),(I 6)] fun t4=>
 ap 1 1 [(I 7)] fun t5=>
 ap 5 1 [t1,t2,t3,t4,t5] fun t6=>
 Q t6 h
theorem A6 (h:ab) (Q:QT) (k:yQ  h Q):C gV [] h Q:=
 okF (pl:=[]) Tryz.func203 Tryz.ntmps203 (by kernel_rfl) rfl (by kernel_rfl) k
def j0 (a0 a1:AV) (h:ab) (Q:QT):Prop:=
 lP a1 h fun t3 h0=>
 gR [(I 0),(I 0),(S ⟨#[]⟩),(.full 0 [])] h0 fun t4 h1=>
 aJ a0 fun t6=>
 ae 0 t6 fun t7=>
 ai t7 h1 fun t8=>
 C cF [t8,(.fn (.func dJ) [] [])] h1 fun t9 h2=>
 ah .neq t9 (S ⟨#[]⟩) fun t10=>
 ifB t10 (
 C bP [a0] h2 fun t12 h3=>
 aw 4 t4 t12 h3 fun h4=>
 aD 4 t4 h4 fun r5=>
 Q r5 h4) (
 aD 4 t3 h2 fun t13=>
 aw 4 t4 t13 h2 fun h6=>
 aD 4 t4 h6 fun r7=>
 Q r7 h6)
theorem l6 (a0 a1:AV) (h:ab) (Q:QT) (k:j0 a0 a1 h Q):C cr [a0,a1] h Q:=
 okF (pl:=[]) Tryz.func217 Tryz.ntmps217 (by kernel_rfl) rfl (by kernel_rfl) k
def na (a0:AV) (h:ab) (Q:QT):Prop:=
 aJ a0 fun t4=>
 ae 0 t4 fun t5=>
 ai t5 h fun t6=>
 C iK [t6,(S ⟨#[32]⟩)] h fun t7 h0=>
 aJ a0 fun t8=>
 ae 0 t8 fun t9=>
 aw 1 t9 t7 h0 fun h1=>
 Q (.tup []) h1
theorem rM (a0:AV) (h:ab) (Q:QT) (k:na a0 h Q):C eH [a0] h Q:=
 okF (pl:=[]) Tryz.func191 Tryz.ntmps191 (by kernel_rfl) rfl (by kernel_rfl) k
def pz (a0:AV) (h:ab) (Q:QT):Prop:=
 gR [(I 0),(I 0),(S ⟨#[]⟩),(.full 0 [])] h fun t2 h0=>
 aJ a0 fun t4=>
 ae 2 t4 fun t5=>
 aw 1 t5 (B true) h0 fun h1=>
 au [(I 0),(I 0),(S ⟨#[]⟩),(.full 0 [])] [] fun t6=>
 aw 4 t2 t6 h1 fun h2=>
 aD 4 t2 h2 fun r3=>
 Q r3 h2
theorem uA (a0:AV) (h:ab) (Q:QT) (k:pz a0 h Q):C bP [a0] h Q:=
 okF (pl:=[]) Tryz.func222 Tryz.ntmps222 (by kernel_rfl) rfl (by kernel_rfl) k
def oH (a0:AV) (h:ab) (Q:QT):Prop:=
 gR [(I 0),(I 0),(S ⟨#[]⟩),(.full 0 [])] h fun t2 h0=>
 C cq [a0,(I 0)] h0 fun t5 h1=>
 gR [(I 0),(I 0),(S ⟨#[]⟩),(.full 0 [])] h1 fun t3 h2=>
 aw 4 t3 t5 h2 fun h3=>
 C cd [a0,(S ⟨#[41]⟩)] h3 fun t7 h4=>
 qUn .not t7 fun t8=>
 ifB t8 (
 C bP [a0] h4 fun t10 h5=>
 aw 4 t2 t10 h5 fun h6=>
 aD 4 t2 h6 fun r7=>
 Q r7 h6) (
 aD 4 t3 h4 fun t11=>
 aw 4 t2 t11 h4 fun h8=>
 aD 4 t2 h8 fun r9=>
 Q r9 h8)
theorem tr (a0:AV) (h:ab) (Q:QT) (k:oH a0 h Q):C eT [a0] h Q:=
 okF (pl:=[]) Tryz.func212 Tryz.ntmps212 (by kernel_rfl) rfl (by kernel_rfl) k
def iQ (s8 s7 s0:AV) (Q:QT) (vs0:List AV) (h:ab) (next0:NT):Prop:=
 ah .lss (af vs0 1) s8 fun t10=>
 ifB t10 (
 ao 1 s7 (af vs0 1) fun t11=>
 ai t11 h fun t12=>
 C o9 [] h fun t14 h1=>
 ao 1 t14 t12 fun t16=>
 ai t16 h1 fun t17=>
 C cd [s0,t17] h1 fun t18 h2=>
 ifB t18 (
 Q t12 h2) (
 ah .add (af vs0 1) (I 1) fun t20=>
 next0 [(af vs0 0),t20] h2)) (
 Q (I 0) h)
def ln (a0 a1:AV) (h:ab) (Q:QT):Prop:=
 bh a1 fun t8=>
 bG [(I 0),(I 0)] h fun vs0 h next0=>iQ t8 a1 a0 Q vs0 h next0
theorem mt (a0 a1:AV) (h:ab) (Q:QT) (k:ln a0 a1 h Q):C d9 [a0,a1] h Q:=
 okF (pl:=[(3,[4,6,9,10,11,12,13,14,15,16,17,18,19,20],[4,9])]) Tryz.func205 Tryz.ntmps205 (by kernel_rfl) rfl (by kernel_rfl) k
def oy (a0:AV) (h:ab) (Q:QT):Prop:=
 gR [(I 0),(I 0),(S ⟨#[]⟩),(.full 0 [])] h fun t2 h0=>
 C cN [a0] h0 fun t4 h1=>
 ap 1 4 [t4] fun t5=>
 au [(I 0),(I 0),(S ⟨#[]⟩),(.full 0 [])] [(0,1,(I 4)),(3,1,t5)] fun t6=>
 aw 4 t2 t6 h1 fun h2=>
 aD 4 t2 h2 fun r3=>
 Q r3 h2
theorem tC (a0:AV) (h:ab) (Q:QT) (k:oy a0 h Q):C eZ [a0] h Q:=
 okF (pl:=[]) Tryz.func213 Tryz.ntmps213 (by kernel_rfl) rfl (by kernel_rfl) k
def eI (s10 s7 s6 s0 s2:AV) (h:ab) (next2:NT) (Q:QT):Prop:=
 ah .mul s7 s2 fun t27=>
 ah .add t27 s10 fun t29=>
 ah .geq t29 (I 4294967296) fun t31=>
 ifB t31 (
 C bP [s0] h fun t33 h4=>
 aw 4 s6 t33 h4 fun h5=>
 aD 4 s6 h5 fun r6=>
 Q r6 h5) (
 next2 [t29] h)
def j3 (s12 s6 s0 s1 s2:AV) (Q:QT) (vs2:List AV) (h:ab) (next2:NT):Prop:=
 vU s12 h fun t13 h3=>
 am 0 t13 fun t14=>
 ifB t14 (
 am 2 t13 fun t15=>
 ah .sub t15 (.lit (.int .i32 48)) fun t17=>
 cz .i64 t17 fun t18=>
 ah .geq t15 (.lit (.int .i32 97)) fun t20=>
 ifB t20 (
 ah .sub t15 (.lit (.int .i32 97)) fun t22=>
 cz .i64 t22 fun t23=>
 ah .add t23 (I 10) fun t24=>
 eI t24 (af vs2 0) s6 s0 s2 h3 next2 Q) (
 eI t18 (af vs2 0) s6 s0 s2 h3 next2 Q)) (
 aJ s0 fun t36=>
 ae 0 t36 fun t37=>
 ai t37 h3 fun t38=>
 bZ s1 fun t40=>
 aM t38 (some t40) none fun t41=>
 aJ s0 fun t42=>
 ae 0 t42 fun t43=>
 aw 1 t43 t41 h3 fun h8=>
 au [(I 0),(I 0),(S ⟨#[]⟩),(.full 0 [])] [(0,1,(I 1)),(1,1,(af vs2 0))] fun t45=>
 aw 4 s6 t45 h8 fun h9=>
 aD 4 s6 h9 fun r10=>
 Q r10 h9)
def nz (a0 a1 a2:AV) (h:ab) (Q:QT):Prop:=
 gR [(I 0),(I 0),(S ⟨#[]⟩),(.full 0 [])] h fun t6 h0=>
 qI a1 h0 fun t12 h1=>
 bG [(I 0)] h1 fun vs2 h next2=>j3 t12 t6 a0 a1 a2 Q vs2 h next2
theorem rI (a0 a1 a2:AV) (h:ab) (Q:QT) (k:nz a0 a1 a2 h Q):C cg [a0,a1,a2] h Q:=
 okF (pl:=[(4,[7,9,10,13,14,15,16,17,18,19,20,21,22,23,24,25,26,27,28,29,30,31,32,33],[7])]) Tryz.func218 Tryz.ntmps218 (by kernel_rfl) rfl (by kernel_rfl) k
def rq (a0:AV) (h:ab) (Q:QT):Prop:=
 gR [(I 0),(I 0),(S ⟨#[]⟩),(.full 0 [])] h fun t2 h0=>
 C cd [a0,(S ⟨#[40]⟩)] h0 fun t7 h1=>
 ifB t7 (
 C cI [a0,(.fn (.func eT) [a0] [])] h1 fun t11 h2=>
 aw 4 t2 t11 h2 fun h3=>
 aD 4 t2 h3 fun r4=>
 Q r4 h3) (
 C cd [a0,(S ⟨#[45]⟩)] h1 fun t14 h5=>
 ifB t14 (
 C cI [a0,(.fn (.func eZ) [a0] [])] h5 fun t18 h6=>
 aw 4 t2 t18 h6 fun h7=>
 aD 4 t2 h7 fun r8=>
 Q r8 h7) (
 C cd [a0,(S ⟨#[46]⟩)] h5 fun t21 h9=>
 ifB t21 (
 au [(I 0),(I 0),(S ⟨#[]⟩),(.full 0 [])] [(0,1,(I 3))] fun t22=>
 aw 4 t2 t22 h9 fun h10=>
 aD 4 t2 h10 fun r11=>
 Q r11 h10) (
 aJ a0 fun t25=>
 ae 2 t25 fun t26=>
 ai t26 h9 fun t27=>
 ifB t27 (
 au [(I 0),(I 0),(S ⟨#[]⟩),(.full 0 [])] [] fun t28=>
 aw 4 t2 t28 h9 fun h12=>
 aD 4 t2 h12 fun r13=>
 Q r13 h12) (
 aJ a0 fun t30=>
 ae 0 t30 fun t31=>
 ai t31 h9 fun t32=>
 C eR [t32,(S ⟨#[48,120]⟩)] h9 fun t33 h14=>
 ifB t33 (aJ a0 fun t36=>
 ae 0 t36 fun t37=>
 ai t37 h14 fun t38=>
 aM t38 (some (I 2)) none fun t39=>
 C cF [t39,(.fn (.func jH) [] [])] h14 fun t40 h15=>
 ah .neq t40 (S ⟨#[]⟩) fun t41=>
 ifB t41 (
 aJ a0 fun t45=>
 ae 0 t45 fun t46=>
 ai t46 h15 fun t47=>
 aM t47 (some (I 2)) none fun t48=>
 aJ a0 fun t49=>
 ae 0 t49 fun t50=>
 aw 1 t50 t48 h15 fun h16=>
 aJ a0 fun t54=>
 ae 0 t54 fun t55=>
 ai t55 h16 fun t56=>
 C cF [t56,(.fn (.func jH) [] [])] h16 fun t57 h17=>
 C cg [a0,t57,(I 16)] h17 fun t58 h18=>
 C cr [a0,t58] h18 fun t59 h19=>
 aw 4 t2 t59 h19 fun h20=>
 aD 4 t2 h20 fun r21=>
 Q r21 h20) (
 aJ a0 fun t61=>
 ae 0 t61 fun t62=>
 ai t62 h15 fun t63=>
 C cF [t63,(.fn (.func cK) [] [])] h15 fun t64 h22=>
 ah .neq t64 (S ⟨#[]⟩) fun t66=>
 ifB t66 (
 C cg [a0,t64,(I 10)] h22 fun t70 h23=>
 C cr [a0,t70] h23 fun t71 h24=>
 aw 4 t2 t71 h24 fun h25=>
 aD 4 t2 h25 fun r26=>
 Q r26 h25) (
 aJ a0 fun t73=>
 ae 0 t73 fun t74=>
 ai t74 h22 fun t75=>
 C cF [t75,(.fn (.func dJ) [] [])] h22 fun t76 h27=>
 C j4 [t76] h27 fun t78 h28=>
 ifB t78 (
 aJ a0 fun t81=>
 ae 0 t81 fun t82=>
 ai t82 h28 fun t83=>
 bZ t76 fun t85=>
 aM t83 (some t85) none fun t86=>
 aJ a0 fun t87=>
 ae 0 t87 fun t88=>
 aw 1 t88 t86 h28 fun h29=>
 au [(I 0),(I 0),(S ⟨#[]⟩),(.full 0 [])] [(0,1,(I 2)),(2,1,t76)] fun t90=>
 aw 4 t2 t90 h29 fun h30=>
 aD 4 t2 h30 fun r31=>
 Q r31 h30) (
 C bP [a0] h28 fun t92 h32=>
 aw 4 t2 t92 h32 fun h33=>
 aD 4 t2 h33 fun r34=>
 Q r34 h33)))) (
 aJ a0 fun t61=>
 ae 0 t61 fun t62=>
 ai t62 h14 fun t63=>
 C cF [t63,(.fn (.func cK) [] [])] h14 fun t64 h35=>
 ah .neq t64 (S ⟨#[]⟩) fun t66=>
 ifB t66 (
 C cg [a0,t64,(I 10)] h35 fun t70 h36=>
 C cr [a0,t70] h36 fun t71 h37=>
 aw 4 t2 t71 h37 fun h38=>
 aD 4 t2 h38 fun r39=>
 Q r39 h38) (
 aJ a0 fun t73=>
 ae 0 t73 fun t74=>
 ai t74 h35 fun t75=>
 C cF [t75,(.fn (.func dJ) [] [])] h35 fun t76 h40=>
 C j4 [t76] h40 fun t78 h41=>
 ifB t78 (
 aJ a0 fun t81=>
 ae 0 t81 fun t82=>
 ai t82 h41 fun t83=>
 bZ t76 fun t85=>
 aM t83 (some t85) none fun t86=>
 aJ a0 fun t87=>
 ae 0 t87 fun t88=>
 aw 1 t88 t86 h41 fun h42=>
 au [(I 0),(I 0),(S ⟨#[]⟩),(.full 0 [])] [(0,1,(I 2)),(2,1,t76)] fun t90=>
 aw 4 t2 t90 h42 fun h43=>
 aD 4 t2 h43 fun r44=>
 Q r44 h43) (
 C bP [a0] h41 fun t92 h45=>
 aw 4 t2 t92 h45 fun h46=>
 aD 4 t2 h46 fun r47=>
 Q r47 h46)))))))
theorem vl (a0:AV) (h:ab) (Q:QT) (k:rq a0 h Q):C cN [a0] h Q:=
 okF (pl:=[]) Tryz.func204 Tryz.ntmps204 (by kernel_rfl) rfl (by kernel_rfl) k
def k5 (a0 a1:AV) (h:ab) (Q:QT):Prop:=
 C eH [a0] h fun t6 h0=>
 aJ a0 fun t8=>
 ae 2 t8 fun t9=>
 ai t9 h0 fun t10=>
 ifB t10 (Q (B false) h0) (
 aJ a0 fun t13=>
 ae 0 t13 fun t14=>
 ai t14 h0 fun t15=>
 C eR [t15,a1] h0 fun t17 h1=>
 qUn .not t17 fun t18=>
 ifB t18 (
 Q (B false) h1) (
 aJ a0 fun t22=>
 ae 0 t22 fun t23=>
 ai t23 h1 fun t24=>
 bZ a1 fun t26=>
 aM t24 (some t26) none fun t27=>
 aJ a0 fun t28=>
 ae 0 t28 fun t29=>
 aw 1 t29 t27 h1 fun h2=>
 Q (B true) h2))
theorem mC (a0 a1:AV) (h:ab) (Q:QT) (k:k5 a0 a1 h Q):C cd [a0,a1] h Q:=
 okF (pl:=[]) Tryz.func210 Tryz.ntmps210 (by kernel_rfl) rfl (by kernel_rfl) k
def iR (s5 s4 s0 s1:AV) (Q:QT) (vs10:List AV) (h:ab) (next10:NT):Prop:=
 ah .neq (af vs10 0) (I 0) fun t24=>
 ifB t24 (aJ s0 fun t27=>
 ae 2 t27 fun t28=>
 ai t28 h fun t29=>
 qUn .not t29 fun t30=>
 ifB t30 (
 aD 4 s5 h fun t39=>
 ah .add s1 (I 1) fun t42=>
 C cq [s0,t42] h fun t43 h11=>
 (aD 4 s5 h11 fun _t=>
 _t=t39)∧
 ap 2 4 [t39,t43] fun t44=>
 au [(I 0),(I 0),(S ⟨#[]⟩),(.full 0 [])] [(0,1,(af vs10 0)),(3,1,t44)] fun t45=>
 aw 4 s5 t45 h11 fun h12=>
 C gV [] h12 fun t33 h13=>
 ao 1 t33 s1 fun t35=>
 ai t35 h13 fun t36=>
 C d9 [s0,t36] h13 fun t37 h14=>
 next10 [t37] h14) (
 aD 4 s5 h fun t46=>
 aw 4 s4 t46 h fun h15=>
 aD 4 s4 h15 fun r16=>
 Q r16 h15)) (
 aD 4 s5 h fun t46=>
 aw 4 s4 t46 h fun h17=>
 aD 4 s4 h17 fun r18=>
 Q r18 h17)
def mo (a0 a1:AV) (h:ab) (Q:QT):Prop:=
 gR [(I 0),(I 0),(S ⟨#[]⟩),(.full 0 [])] h fun t4 h0=>
 C gV [] h0 fun t8 h1=>
 bh t8 fun t9=>
 ah .eql a1 t9 fun t10=>
 ifB t10 (
 C cN [a0] h1 fun t12 h2=>
 aw 4 t4 t12 h2 fun h3=>
 aD 4 t4 h3 fun r4=>
 Q r4 h3) (
 ah .add a1 (I 1) fun t15=>
 C cq [a0,t15] h1 fun t16 h5=>
 gR [(I 0),(I 0),(S ⟨#[]⟩),(.full 0 [])] h5 fun t5 h6=>
 aw 4 t5 t16 h6 fun h7=>
 C gV [] h7 fun t18 h8=>
 ao 1 t18 a1 fun t20=>
 ai t20 h8 fun t21=>
 C d9 [a0,t21] h8 fun t22 h9=>
 bG [t22] h9 fun vs10 h next10=>iR t5 t4 a0 a1 Q vs10 h next10)
theorem nK (a0 a1:AV) (h:ab) (Q:QT) (k:mo a0 a1 h Q):C cq [a0,a1] h Q:=
 okF (pl:=[(6,[6,23,24,25,26,27,28,29,30,31,32,33,34,35,36,37,38,39,40,41,42,43,44,45],[6]),(1000007,[0,1,2,3,4,5,6,7,8],[])]) Tryz.func190 Tryz.ntmps190 (by kernel_rfl) rfl (by kernel_rfl) k
def jp (a0 a1:AV) (h:ab) (Q:QT):Prop:=
 gR [(I 0),(I 0),(S ⟨#[]⟩),(.full 0 [])] h fun t4 h0=>
 aJ a0 fun t7=>
 ae 1 t7 fun t8=>
 ai t8 h0 fun t9=>
 ah .geq t9 (I 12) fun t10=>
 ifB t10 (
 C bP [a0] h0 fun t12 h1=>
 aw 4 t4 t12 h1 fun h2=>
 aD 4 t4 h2 fun r3=>
 Q r3 h2) (
 aJ a0 fun t14=>
 ae 1 t14 fun t15=>
 ai t15 h0 fun t16=>
 ah .add t16 (I 1) fun t17=>
 aJ a0 fun t18=>
 ae 1 t18 fun t19=>
 aw 1 t19 t17 h0 fun h4=>
 CV a1 [] h4 fun t21 h5=>
 gR [(I 0),(I 0),(S ⟨#[]⟩),(.full 0 [])] h5 fun t5 h6=>
 aw 4 t5 t21 h6 fun h7=>
 aJ a0 fun t23=>
 ae 1 t23 fun t24=>
 ai t24 h7 fun t25=>
 ah .sub t25 (I 1) fun t26=>
 aJ a0 fun t27=>
 ae 1 t27 fun t28=>
 aw 1 t28 t26 h7 fun h8=>
 aD 4 t5 h8 fun t29=>
 aw 4 t4 t29 h8 fun h9=>
 aD 4 t4 h9 fun r10=>
 Q r10 h9)
theorem kG (a0 a1:AV) (h:ab) (Q:QT) (k:jp a0 a1 h Q):C cI [a0,a1] h Q:=
 okF (pl:=[]) Tryz.func211 Tryz.ntmps211 (by kernel_rfl) rfl (by kernel_rfl) k
def Ak (h:ab) (Q:QT):Prop:=
 ap 12 1 [(S ⟨#[]⟩),(S ⟨#[]⟩),(S ⟨#[]⟩),(S ⟨#[46]⟩),(S ⟨#[45]⟩),(S ⟨#[43]⟩),(S ⟨#[45]⟩),(S ⟨#[42]⟩),(S ⟨#[38]⟩),(S ⟨#[124]⟩),(S ⟨#[60,60]⟩),(S ⟨#[62,62]⟩)] fun t1=>
 Q t1 h
theorem Cz (h:ab) (Q:QT) (k:Ak  h Q):C o9 [] h Q:=
 okF (pl:=[]) Tryz.func223 Tryz.ntmps223 (by kernel_rfl) rfl (by kernel_rfl) k
def B3 (a0:AV) (h:ab) (Q:QT):Prop:=
 ah .geq a0 (.lit (.int .i32 97)) fun t4=>
 ifB t4 (ah .leq a0 (.lit (.int .i32 122)) fun t7=>
 ifB t7 (Q (B true) h) (
 ah .eql a0 (.lit (.int .i32 95)) fun t11=>
 Q t11 h)) (
 ah .eql a0 (.lit (.int .i32 95)) fun t11=>
 Q t11 h)
theorem Cx (a0:AV) (h:ab) (Q:QT) (k:B3 a0 h Q):C o8 [a0] h Q:=
 okF (pl:=[]) Tryz.func230 Tryz.ntmps230 (by kernel_rfl) rfl (by kernel_rfl) k
def BL (a0 a1:AV) (h:ab) (Q:QT):Prop:=
 ah .eql a0 (I 0) fun t8=>
 ifB t8 (Q (.tup [(I 0),(I 0)]) h) (
 ah .eql a1 (I 0) fun t11=>
 ifB t11 (
 Q (.tup [(I 0),(I 0)]) h) (
 ah .mul a0 a1 fun t15=>
 qUn .neg a0 fun t18=>
 x3 a0 t18 fun t19=>
 qUn .neg a1 fun t22=>
 x3 a1 t22 fun t23=>
 ah .quo (I 1099511627776) t23 fun t24=>
 ah .gtr t19 t24 fun t25=>
 ifB t25 (
 Q (.tup [(I 0),(I 6)]) h) (
 C cx [t15] h fun t27 h0=>
 am 0 t27 fun t28=>
 am 1 t27 fun t29=>
 Q (.tup [t28,t29]) h0)))
theorem C5 (a0 a1:AV) (h:ab) (Q:QT) (k:BL a0 a1 h Q):C lw [a0,a1] h Q:=
 okF (pl:=[]) Tryz.func129 Tryz.ntmps129 (by kernel_rfl) rfl (by kernel_rfl) k
def Dk (a0:AV) (h:ab) (Q:QT):Prop:=
 ah .eql a0 (S ⟨#[]⟩) fun t4=>
 ifB t4 (Q (B false) h) (
 bZ a0 fun t7=>
 ah .gtr t7 (I 12) fun t8=>
 ifB t8 (Q (B false) h) (
 aV a0 (I 0) fun t12=>
 cz .i32 t12 fun t13=>
 C cK [t13] h fun t14 h0=>
 ifB t14 (Q (B false) h0) (
 C cF [a0,(.fn (.func dJ) [] [])] h0 fun t18 h1=>
 ah .neq t18 a0 fun t20=>
 ifB t20 (
 Q (B false) h1) (
 aV a0 (I 0) fun t23=>
 ah .neq t23 (.lit (.int .u8 114)) fun t24=>
 ifB t24 (Q (B true) h1) (
 bZ a0 fun t27=>
 ah .eql t27 (I 1) fun t28=>
 ifB t28 (Q (B true) h1) (
 aM a0 (some (I 1)) none fun t32=>
 aM a0 (some (I 1)) none fun t35=>
 C cF [t32,(.fn (.func cK) [] [])] h1 fun t33 h2=>
 ah .neq t33 t35 fun t36=>
 Q t36 h2))))))
theorem Fh (a0:AV) (h:ab) (Q:QT) (k:Dk a0 h Q):C j4 [a0] h Q:=
 okF (pl:=[(1000003,[0,1,2,3,4,5,6,7,8,9,10,12,13,11,14,15,16],[])]) Tryz.func221 Tryz.ntmps221 (by kernel_rfl) rfl (by kernel_rfl) k
def ip (s0 s4 s2:AV) (h:ab) (Q:QT):Prop:=
 ah .eql s0 (S ⟨#[]⟩) fun t47=>
 ifB t47 (
 aJ s4 fun t49=>
 ae 0 t49 fun t50=>
 ae 1 t50 fun t51=>
 ai t51 h fun t52=>
 ah .eql t52 (S ⟨#[]⟩) fun t53=>
 ifB t53 (
 au [(I 0),(S ⟨#[]⟩),(I 0),(I 0),(S ⟨#[]⟩),(.full 0 [])] [] fun t54=>
 aw 6 s2 t54 h fun h12=>
 aD 6 s2 h12 fun r13=>
 Q (.tup [r13,(B true)]) h12) (
 aJ s4 fun t56=>
 ae 0 t56 fun t57=>
 aD 6 t57 h fun t58=>
 aw 6 s2 t58 h fun h14=>
 aD 6 s2 h14 fun r15=>
 Q (.tup [r15,(B true)]) h14)) (
 C ej [s0,(.fn (.func lF) [] [])] h fun t60 h16=>
 aM s0 none (some t60) fun t64=>
 aM s0 (some t60) none fun t67=>
 C eN [t67,(S ⟨#[32,9]⟩)] h16 fun t68 h17=>
 C fl [s4,t64,t68] h17 fun t69 h18=>
 qUn .not t69 fun t70=>
 ifB t70 (
 au [(I 0),(S ⟨#[]⟩),(I 0),(I 0),(S ⟨#[]⟩),(.full 0 [])] [] fun t71=>
 aw 6 s2 t71 h18 fun h19=>
 aD 6 s2 h19 fun r20=>
 Q (.tup [r20,(B false)]) h19) (
 aJ s4 fun t74=>
 ae 0 t74 fun t75=>
 ae 5 t75 fun t76=>
 ai t76 h18 fun t77=>
 C df [t77] h18 fun t78 h21=>
 aJ s4 fun t79=>
 ae 0 t79 fun t80=>
 ae 5 t80 fun t81=>
 aw 1 t81 t78 h21 fun h22=>
 aJ s4 fun t83=>
 ae 0 t83 fun t84=>
 aD 6 t84 h22 fun t85=>
 aw 6 s2 t85 h22 fun h23=>
 aD 6 s2 h23 fun r24=>
 Q (.tup [r24,(B true)]) h23))
def Iu (a0:AV) (h:ab) (Q:QT):Prop:=
 gR [(I 0),(S ⟨#[]⟩),(I 0),(I 0),(S ⟨#[]⟩),(.full 0 [])] h fun t2 h0=>
 C g7 [a0,(.lit (.int .u8 10))] h0 fun t8 h1=>
 ah .geq t8 (I 0) fun t9=>
 ifB t9 (
 au [(I 0),(S ⟨#[]⟩),(I 0),(I 0),(S ⟨#[]⟩),(.full 0 [])] [] fun t10=>
 aw 6 t2 t10 h1 fun h2=>
 aD 6 t2 h2 fun r3=>
 Q (.tup [r3,(B false)]) h2) (
 C qz [a0] h1 fun t12 h4=>
 au [(I 0),(S ⟨#[]⟩),(I 0),(I 0),(S ⟨#[]⟩),(.full 0 [])] [(0,1,(I 1))] fun t13=>
 au [(I 0),(S ⟨#[]⟩),(I 0),(I 0),(S ⟨#[]⟩),(.full 0 [])] [(0,6,t13)] fun t14=>
 lP t14 h4 fun t15 h5=>
 C ej [t12,(.fn (.func iV) [] [])] h5 fun t17 h6=>
 bZ t12 fun t20=>
 ah .lss t17 t20 fun t21=>
 ifB t21 (aV t12 t17 fun t25=>
 ah .eql t25 (.lit (.int .u8 58)) fun t26=>
 ifB t26 (
 aM t12 none (some t17) fun t30=>
 C mV [t30] h6 fun t31 h7=>
 qUn .not t31 fun t32=>
 ifB t32 (
 au [(I 0),(S ⟨#[]⟩),(I 0),(I 0),(S ⟨#[]⟩),(.full 0 [])] [] fun t33=>
 aw 6 t2 t33 h7 fun h8=>
 aD 6 t2 h8 fun r9=>
 Q (.tup [r9,(B false)]) h8) (
 aM t12 none (some t17) fun t37=>
 ah .add t17 (I 1) fun t40=>
 aM t12 (some t40) none fun t41=>
 C eN [t41,(S ⟨#[32,9]⟩)] h7 fun t42 h10=>
 aJ t15 fun t43=>
 ae 0 t43 fun t44=>
 ae 1 t44 fun t45=>
 aw 1 t45 t37 h10 fun h11=>
 ip t42 t15 t2 h11 Q)) (
 ip t12 t15 t2 h6 Q)) (
 ip t12 t15 t2 h6 Q))
theorem Js (a0:AV) (h:ab) (Q:QT) (k:Iu a0 h Q):C sT [a0] h Q:=
 okF (pl:=[(1000009,[0,1,2,3,4,5,6,7,8,9,10,11,12,13],[]),(1000015,[0,1,2,3,4,5,6,7,8,9],[])]) Tryz.func73 Tryz.ntmps73 (by kernel_rfl) rfl (by kernel_rfl) k
def Av (a0:AV) (h:ab) (Q:QT):Prop:=
 ah .neq a0 (.lit (.int .u8 32)) fun t4=>
 ifB t4 (ah .neq a0 (.lit (.int .u8 9)) fun t7=>
 Q t7 h) (
 Q (B false) h)
theorem CT (a0:AV) (h:ab) (Q:QT) (k:Av a0 h Q):C lF [a0] h Q:=
 okF (pl:=[]) Tryz.func112 Tryz.ntmps112 (by kernel_rfl) rfl (by kernel_rfl) k
def o3 (s3 s2 s11:AV) (h:ab) (next1:NT):Prop:=
 ah .add s11 (I 1) fun t40=>
 next1 [s2,s3,t40] h
def oR (s3 s2 s11:AV) (h:ab) (next1:NT):Prop:=
 o3 s3 s2 s11 h next1
def ja (s3 s2 s11:AV) (h:ab) (next1:NT):Prop:=
 oR s3 s2 s11 h next1
def tt (s10 s9:AV) (Q:QT) (vs1:List AV) (h:ab) (next1:NT):Prop:=
 ah .lss (af vs1 2) s10 fun t12=>
 ifB t12 (
 ao 1 s9 (af vs1 2) fun t14=>
 ai t14 h fun t15=>
 C sT [t15] h fun t18 h2=>
 am 0 t18 fun t19=>
 am 1 t18 fun t20=>
 gR [(I 0),(S ⟨#[]⟩),(I 0),(I 0),(S ⟨#[]⟩),(.full 0 [])] h2 fun t6 h3=>
 aw 6 t6 t19 h3 fun h4=>
 qUn .not t20 fun t23=>
 ifB t23 (
 ah .add (af vs1 2) (I 1) fun t26=>
 ap 1 1 [t26] fun t27=>
 bL 1 8 (af vs1 1) t27 h4 fun t28 h5=>
 ja t28 (af vs1 0) (af vs1 2) h5 next1) (
 ae 0 t6 fun t30=>
 ai t30 h4 fun t31=>
 ah .gtr t31 (I 0) fun t32=>
 ifB t32 (
 ah .add (af vs1 2) (I 1) fun t34=>
 ae 0 t6 fun t35=>
 aw 1 t35 t34 h4 fun h9=>
 aD 6 t6 h9 fun t37=>
 ap 1 6 [t37] fun t38=>
 bL 6 80 (af vs1 0) t38 h9 fun t39 h10=>
 ja (af vs1 1) t39 (af vs1 2) h10 next1) (
 ja (af vs1 1) (af vs1 0) (af vs1 2) h4 next1))) (
 C cR [(af vs1 0)] h fun t42 h11=>
 C dI [(af vs1 1)] h11 fun t44 h12=>
 Q (.tup [t42,t44]) h12)
def BF (a0:AV) (h:ab) (Q:QT):Prop:=
 C fG [a0,(S ⟨#[10]⟩)] h fun t9 h0=>
 bh t9 fun t10=>
 bG [(.full 0 []),(.full 0 []),(I 0)] h0 fun vs1 h next1=>tt t10 t9 Q vs1 h next1
theorem CA (a0:AV) (h:ab) (Q:QT) (k:BF a0 h Q):C pi [a0] h Q:=
 okF (pl:=[(3,[2,3,4,5,6,7,11,12,13,14,15,16,17,18,19,20,21,22,23,24,25,26,27,28,29,30,31,32,33,34,35,36,37,38,39,40],[2,3,11])]) Tryz.func50 Tryz.ntmps50 (by kernel_rfl) rfl (by kernel_rfl) k
def Dc (a0:AV) (h:ab) (Q:QT):Prop:=
 ah .eql a0 (S ⟨#[]⟩) fun t4=>
 ifB t4 (Q (B false) h) (
 bZ a0 fun t7=>
 ah .gtr t7 (I 12) fun t8=>
 ifB t8 (Q (B false) h) (
 aV a0 (I 0) fun t12=>
 C dK [t12] h fun t13 h0=>
 ifB t13 (Q (B false) h0) (
 C ej [a0,(.fn (.func iV) [] [])] h0 fun t17 h1=>
 bZ a0 fun t19=>
 ah .neq t17 t19 fun t20=>
 ifB t20 (
 Q (B false) h1) (
 aV a0 (I 0) fun t23=>
 ah .neq t23 (.lit (.int .u8 114)) fun t24=>
 ifB t24 (Q (B true) h1) (
 bZ a0 fun t27=>
 ah .eql t27 (I 1) fun t28=>
 ifB t28 (Q (B true) h1) (
 aM a0 (some (I 1)) none fun t32=>
 C ej [t32,(.fn (.func dK) [] [])] h1 fun t33 h2=>
 bZ a0 fun t35=>
 ah .sub t35 (I 1) fun t36=>
 ah .neq t33 t36 fun t37=>
 Q t37 h2))))))
theorem FM (a0:AV) (h:ab) (Q:QT) (k:Dc a0 h Q):C mV [a0] h Q:=
 okF (pl:=[]) Tryz.func110 Tryz.ntmps110 (by kernel_rfl) rfl (by kernel_rfl) k
def su (s0 s1:AV) (Q:QT) (vs0:List AV) (h:ab) (next0:NT):Prop:=
 bh s1 fun t14=>
 ah .lss (af vs0 1) t14 fun t15=>
 ifB t15 (ifB (af vs0 0) (
 ao 1 s1 (af vs0 1) fun t23=>
 ai t23 h fun t24=>
 ao 1 s0 (af vs0 1) fun t27=>
 ai t27 h fun t28=>
 CV t24 [t28] h fun t29 h1=>
 ah .add (af vs0 1) (I 1) fun t20=>
 next0 [t29,t20] h1) (
 Q (af vs0 0) h)) (
 Q (af vs0 0) h)
def Ir (a0 a1:AV) (h:ab) (Q:QT):Prop:=
 bh a0 fun t8=>
 bh a1 fun t10=>
 ah .eql t8 t10 fun t11=>
 bG [t11,(I 0)] h fun vs0 h next0=>su a0 a1 Q vs0 h next0
theorem Hz (a0 a1:AV) (h:ab) (Q:QT) (k:Ir a0 a1 h Q):C eU [a0,a1] h Q:=
 okF (pl:=[(4,[5,6,12,13,14,15,16,17,18,19,20,21,22,23,24,25,26,27,28,29],[5,6]),(1000005,[0,1,2,3,4,5,6,7,8,9],[])]) Tryz.func148 Tryz.ntmps148 (by kernel_rfl) rfl (by kernel_rfl) k
def BU (a0:AV) (h:ab) (Q:QT):Prop:=
 ah .geq a0 (.lit (.int .u8 48)) fun t4=>
 ifB t4 (ah .leq a0 (.lit (.int .u8 57)) fun t7=>
 Q t7 h) (
 Q (B false) h)
theorem CD (a0:AV) (h:ab) (Q:QT) (k:BU a0 h Q):C dK [a0] h Q:=
 okF (pl:=[]) Tryz.func136 Tryz.ntmps136 (by kernel_rfl) rfl (by kernel_rfl) k
def uR (s0 s1:AV) (Q:QT) (vs0:List AV) (h:ab) (next0:NT):Prop:=
 bZ s0 fun t8=>
 ah .lss (af vs0 0) t8 fun t9=>
 ifB t9 (aV s0 (af vs0 0) fun t14=>
 CV s1 [t14] h fun t15 h1=>
 ifB t15 (
 ah .add (af vs0 0) (I 1) fun t18=>
 next0 [t18] h1) (
 Q (af vs0 0) h1)) (
 Q (af vs0 0) h)
def AO (a0 a1:AV) (h:ab) (Q:QT):Prop:=
 bG [(I 0)] h fun vs0 h next0=>uR a0 a1 Q vs0 h next0
theorem Cw (a0 a1:AV) (h:ab) (Q:QT) (k:AO a0 a1 h Q):C ej [a0,a1] h Q:=
 okF (pl:=[(3,[5,6,7,8,9,10,11,12,13,14,15,16,17,18],[5])]) Tryz.func108 Tryz.ntmps108 (by kernel_rfl) rfl (by kernel_rfl) k
def Ci (h:ab) (Q:QT):Prop:=
 ap 3 1 [(S ⟨#[98]⟩),(S ⟨#[98,108]⟩),(S ⟨#[98,99]⟩)] fun t1=>
 Q t1 h
theorem C8 (h:ab) (Q:QT) (k:Ci  h Q):C oW [] h Q:=
 okF (pl:=[]) Tryz.func147 Tryz.ntmps147 (by kernel_rfl) rfl (by kernel_rfl) k
def Cb (a0:AV) (h:ab) (Q:QT):Prop:=
 ah .geq a0 (.lit (.int .u8 97)) fun t4=>
 ifB t4 (ah .leq a0 (.lit (.int .u8 122)) fun t7=>
 ifB t7 (Q (B true) h) (
 ah .eql a0 (.lit (.int .u8 95)) fun t11=>
 ifB t11 (Q (B true) h) (
 C dK [a0] h fun t15 h0=>
 Q t15 h0))) (
 ah .eql a0 (.lit (.int .u8 95)) fun t11=>
 ifB t11 (Q (B true) h) (
 C dK [a0] h fun t15 h1=>
 Q t15 h1))
theorem C1 (a0:AV) (h:ab) (Q:QT) (k:Cb a0 h Q):C iV [a0] h Q:=
 okF (pl:=[]) Tryz.func109 Tryz.ntmps109 (by kernel_rfl) rfl (by kernel_rfl) k
def p9 (s10 s3:AV) (Q:QT) (vs1:List AV) (h:ab) (next1:NT):Prop:=
 ah .lss (af vs1 0) s10 fun t12=>
 ifB t12 (
 ao 1 s3 (af vs1 0) fun t18=>
 ai t18 h fun t19=>
 C eN [t19,(S ⟨#[32,9]⟩)] h fun t20 h2=>
 ao 1 s3 (af vs1 0) fun t21=>
 aw 1 t21 t20 h2 fun h3=>
 ah .add (af vs1 0) (I 1) fun t22=>
 next1 [t22] h3) (
 Q s3 h)
def uE (a0:AV) (h:ab) (Q:QT):Prop:=
 ah .eql a0 (S ⟨#[]⟩) fun t6=>
 ifB t6 (
 Q (.full 0 []) h) (
 C fG [a0,(S ⟨#[44]⟩)] h fun t8 h0=>
 bh t8 fun t10=>
 bG [(I 0)] h0 fun vs1 h next1=>p9 t10 t8 Q vs1 h next1)
theorem x5 (a0:AV) (h:ab) (Q:QT) (k:uE a0 h Q):C kX [a0] h Q:=
 okF (pl:=[(6,[4,11,12,13,14,15,16,17,18,19,20,21,22],[11])]) Tryz.func144 Tryz.ntmps144 (by kernel_rfl) rfl (by kernel_rfl) k
def oE (a0 a1:AV) (h:ab) (Q:QT):Prop:=
 bZ a1 fun t6=>
 ah .lss t6 (I 2) fun t7=>
 ifB t7 (Q (B false) h) (
 bZ a1 fun t10=>
 ah .gtr t10 (I 62) fun t11=>
 ifB t11 (Q (B false) h) (
 aV a1 (I 0) fun t15=>
 ah .neq t15 (.lit (.int .u8 34)) fun t16=>
 ifB t16 (Q (B false) h) (
 bZ a1 fun t21=>
 ah .sub t21 (I 1) fun t22=>
 aV a1 t22 fun t23=>
 ah .neq t23 (.lit (.int .u8 34)) fun t24=>
 ifB t24 (
 Q (B false) h) (
 bZ a1 fun t29=>
 ah .sub t29 (I 1) fun t30=>
 aM a1 (some (I 1)) (some t30) fun t31=>
 aJ a0 fun t32=>
 ae 0 t32 fun t33=>
 ae 4 t33 fun t34=>
 aw 1 t34 t31 h fun h0=>
 aJ a0 fun t36=>
 ae 0 t36 fun t37=>
 ae 4 t37 fun t38=>
 ai t38 h0 fun t39=>
 aJ a0 fun t42=>
 ae 0 t42 fun t43=>
 ae 4 t43 fun t44=>
 ai t44 h0 fun t45=>
 bZ t45 fun t46=>
 C ej [t39,(.fn (.func ed) [] [])] h0 fun t40 h1=>
 (ai t44 h1 fun _t=>
 _t=t45)∧
 ah .eql t40 t46 fun t47=>
 Q t47 h1))))
theorem th (a0 a1:AV) (h:ab) (Q:QT) (k:oE a0 a1 h Q):C gZ [a0,a1] h Q:=
 okF (pl:=[(1000004,[0,1,2,3,4,6,7,8,9,10,11,5,12,13],[])]) Tryz.func151 Tryz.ntmps151 (by kernel_rfl) rfl (by kernel_rfl) k
def mD (a0:AV) (h:ab) (Q:QT):Prop:=
 ah .geq a0 (.lit (.int .u8 32)) fun t4=>
 ifB t4 (ah .leq a0 (.lit (.int .u8 126)) fun t7=>
 ifB t7 (ah .neq a0 (.lit (.int .u8 34)) fun t11=>
 Q t11 h) (
 Q (B false) h)) (
 Q (B false) h)
theorem qJ (a0:AV) (h:ab) (Q:QT) (k:mD a0 h Q):C ed [a0] h Q:=
 okF (pl:=[]) Tryz.func178 Tryz.ntmps178 (by kernel_rfl) rfl (by kernel_rfl) k
def eE (s5 s16:AV) (h:ab) (next2:NT):Prop:=
 ah .add s16 (I 1) fun t34=>
 next2 [s5,t34] h
def cZ (s5 s16:AV) (h:ab) (next2:NT):Prop:=
 eE s5 s16 h next2
def gS (s15 s14 s0 s1:AV) (Q:QT) (vs2:List AV) (h:ab) (next2:NT):Prop:=
 ah .lss (af vs2 1) s15 fun t17=>
 ifB t17 (
 ao 1 s14 (af vs2 1) fun t18=>
 ai t18 h fun t19=>
 ah .add (S ⟨#[32]⟩) t19 fun t21=>
 ah .add t21 (S ⟨#[32]⟩) fun t22=>
 C iz [(S ⟨#[32,88,32,89,32,68,32,65,32,66,32]⟩),t22] h fun t23 h3=>
 ifB t23 (
 ap 1 1 [(.fn (.func dY) [s0] [])] fun t27=>
 bL 1 8 (af vs2 0) t27 h3 fun t28 h4=>
 cZ t28 (af vs2 1) h4 next2) (
 ap 1 1 [(.fn (.func bB) [s0] [])] fun t32=>
 bL 1 8 (af vs2 0) t32 h3 fun t33 h7=>
 cZ t33 (af vs2 1) h7 next2)) (
 C eU [s1,(af vs2 0)] h fun t37 h8=>
 Q t37 h8)
def jF (a0 a1:AV) (h:ab) (Q:QT):Prop:=
 aJ a0 fun t9=>
 ae 0 t9 fun t10=>
 ae 3 t10 fun t11=>
 ai t11 h fun t12=>
 C mR [t12] h fun t13 h0=>
 C dX [t13] h0 fun t14 h1=>
 bh t14 fun t15=>
 bG [(.full 0 []),(I 0)] h1 fun vs2 h next2=>gS t15 t14 a0 a1 Q vs2 h next2
theorem nF (a0 a1:AV) (h:ab) (Q:QT) (k:jF a0 a1 h Q):C ez [a0,a1] h Q:=
 okF (pl:=[(4,[5,7,16,17,18,19,20,21,22,23,24,25,26,27,28,29,30,31,32,33,34],[5,16])]) Tryz.func146 Tryz.ntmps146 (by kernel_rfl) rfl (by kernel_rfl) k
def md (a0 a1:AV) (h:ab) (Q:QT):Prop:=
 C kN [a1] h fun t9 h0=>
 am 0 t9 fun t10=>
 am 1 t9 fun t11=>
 aJ a0 fun t14=>
 ae 0 t14 fun t15=>
 ae 5 t15 fun t16=>
 ai t16 h0 fun t17=>
 au [(I 0),(I 0),(I 0),(S ⟨#[]⟩),(.full 0 [])] [(0,1,t10)] fun t19=>
 ap 1 5 [t19] fun t20=>
 bL 5 64 t17 t20 h0 fun t21 h1=>
 aJ a0 fun t22=>
 ae 0 t22 fun t23=>
 ae 5 t23 fun t24=>
 aw 1 t24 t21 h1 fun h2=>
 Q t11 h2
theorem qg (a0 a1:AV) (h:ab) (Q:QT) (k:md a0 a1 h Q):C dY [a0,a1] h Q:=
 okF (pl:=[]) Tryz.func176 Tryz.ntmps176 (by kernel_rfl) rfl (by kernel_rfl) k
def cA (s93 s54 s7 s0 s1:AV) (h:ab) (Q:QT):Prop:=
 ifB s93 (
 ap 2 1 [(S ⟨#[46,97,108,105,103,110]⟩),(S ⟨#[46,115,112,97,99,101]⟩)] fun t97=>
 C bC [t97,s1] h fun t99 h17=>
 ah .add (I 7) t99 fun t100=>
 aJ s0 fun t101=>
 ae 0 t101 fun t102=>
 ae 2 t102 fun t103=>
 aw 1 t103 t100 h17 fun h18=>
 C ia [(.fn (.func bB) [s0] []),(I 1)] h18 fun t107 h19=>
 C eU [s7,t107] h19 fun t108 h20=>
 Q t108 h20) (
 ah .eql s54 (S ⟨#[46,101,113,117]⟩) fun t110=>
 ifB t110 (
 aJ s0 fun t112=>
 ae 0 t112 fun t113=>
 ae 2 t113 fun t114=>
 aw 1 t114 (I 9) h fun h21=>
 ap 2 1 [(.fn (.func fx) [s0] []),(.fn (.func bB) [s0] [])] fun t120=>
 C eU [s7,t120] h21 fun t121 h22=>
 Q t121 h22) (
 Q (B false) h))
def bU (s55 s54 s7 s0 s1 s2:AV) (h:ab) (Q:QT):Prop:=
 ifB s55 (
 ap 3 1 [(S ⟨#[46,98,121,116,101]⟩),(S ⟨#[46,104,97,108,102]⟩),(S ⟨#[46,108,111,110,103]⟩)] fun t60=>
 C bC [t60,s1] h fun t62 h11=>
 ah .add (I 3) t62 fun t63=>
 aJ s0 fun t64=>
 ae 0 t64 fun t65=>
 ae 2 t65 fun t66=>
 aw 1 t66 t63 h11 fun h12=>
 bh s7 fun t68=>
 ah .geq t68 (I 1) fun t69=>
 ifB t69 (bh s7 fun t72=>
 ah .leq t72 (I 16) fun t73=>
 ifB t73 (bh s7 fun t80=>
 C ia [(.fn (.func bB) [s0] []),t80] h12 fun t81 h13=>
 C eU [s7,t81] h13 fun t82 h14=>
 Q t82 h14) (
 Q (B false) h12)) (
 Q (B false) h12)) (
 ah .eql s54 (S ⟨#[46,97,115,99,105,105]⟩) fun t85=>
 ifB t85 (
 aJ s0 fun t87=>
 ae 0 t87 fun t88=>
 ae 2 t88 fun t89=>
 aw 1 t89 (I 6) h fun h15=>
 C gZ [s0,s2] h15 fun t92 h16=>
 Q t92 h16) (
 ah .eql s54 (S ⟨#[46,97,108,105,103,110]⟩) fun t94=>
 ifB t94 (
 cA t94 s54 s7 s0 s1 h Q) (
 ah .eql s54 (S ⟨#[46,115,112,97,99,101]⟩) fun t95=>
 cA t95 s54 s7 s0 s1 h Q)))
def kL (a0 a1 a2:AV) (h:ab) (Q:QT):Prop:=
 C kX [a2] h fun t12 h0=>
 C oI [a1] h0 fun t15 h1=>
 am 0 t15 fun t16=>
 am 1 t15 fun t17=>
 ifB t17 (
 aJ a0 fun t22=>
 ae 0 t22 fun t23=>
 ae 2 t23 fun t24=>
 aw 1 t24 (I 1) h1 fun h2=>
 aJ a0 fun t25=>
 ae 0 t25 fun t26=>
 ae 3 t26 fun t27=>
 aw 1 t27 t16 h2 fun h3=>
 C ez [a0,t12] h3 fun t30 h4=>
 Q t30 h4) (
 C oW [] h1 fun t31 h5=>
 C bC [t31,a1] h5 fun t33 h6=>
 ah .geq t33 (I 0) fun t35=>
 ifB t35 (
 aJ a0 fun t39=>
 ae 0 t39 fun t40=>
 ae 2 t40 fun t41=>
 aw 1 t41 (I 2) h6 fun h7=>
 aJ a0 fun t42=>
 ae 0 t42 fun t43=>
 ae 3 t43 fun t44=>
 aw 1 t44 t33 h7 fun h8=>
 ah .quo t33 (I 2) fun t49=>
 ah .mul t49 (I 2) fun t50=>
 ah .add (I 1) t50 fun t51=>
 C ia [(.fn (.func bB) [a0] []),t51] h8 fun t52 h9=>
 C eU [t12,t52] h9 fun t53 h10=>
 Q t53 h10) (
 ah .eql a1 (S ⟨#[46,98,121,116,101]⟩) fun t56=>
 ifB t56 (
 bU t56 a1 t12 a0 a1 a2 h6 Q) (
 ah .eql a1 (S ⟨#[46,104,97,108,102]⟩) fun t57=>
 ifB t57 (
 bU t57 a1 t12 a0 a1 a2 h6 Q) (
 ah .eql a1 (S ⟨#[46,108,111,110,103]⟩) fun t58=>
 bU t58 a1 t12 a0 a1 a2 h6 Q))))
theorem oU (a0 a1 a2:AV) (h:ab) (Q:QT) (k:kL a0 a1 a2 h Q):C fl [a0,a1,a2] h Q:=
 okF (pl:=[]) Tryz.func113 Tryz.ntmps113 (by kernel_rfl) rfl (by kernel_rfl) k
def od (a0 a1:AV) (h:ab) (Q:QT):Prop:=
 C pr [a1] h fun t9 h0=>
 am 0 t9 fun t10=>
 am 1 t9 fun t11=>
 gR [(I 0),(I 0),(S ⟨#[]⟩),(.full 0 [])] h0 fun t5 h1=>
 aw 4 t5 t10 h1 fun h2=>
 aJ a0 fun t14=>
 ae 0 t14 fun t15=>
 ae 5 t15 fun t16=>
 ai t16 h2 fun t17=>
 aD 4 t5 h2 fun t18=>
 au [(I 0),(I 0),(I 0),(S ⟨#[]⟩),(.full 0 [])] [(0,1,(I (-1))),(1,4,t18)] fun t19=>
 ap 1 5 [t19] fun t20=>
 bL 5 64 t17 t20 h2 fun t21 h3=>
 aJ a0 fun t22=>
 ae 0 t22 fun t23=>
 ae 5 t23 fun t24=>
 aw 1 t24 t21 h3 fun h4=>
 Q t11 h4
theorem tm (a0 a1:AV) (h:ab) (Q:QT) (k:od a0 a1 h Q):C bB [a0,a1] h Q:=
 okF (pl:=[(1000002,[0,1,2,3,4,5,6,7,8,9,10,11,12,13],[])]) Tryz.func150 Tryz.ntmps150 (by kernel_rfl) rfl (by kernel_rfl) k
def qa (a0 a1:AV) (h:ab) (Q:QT):Prop:=
 aJ a0 fun t7=>
 ae 0 t7 fun t8=>
 ae 4 t8 fun t9=>
 aw 1 t9 a1 h fun h0=>
 C mV [a1] h0 fun t11 h1=>
 Q t11 h1
theorem uv (a0 a1:AV) (h:ab) (Q:QT) (k:qa a0 a1 h Q):C fx [a0,a1] h Q:=
 okF (pl:=[]) Tryz.func152 Tryz.ntmps152 (by kernel_rfl) rfl (by kernel_rfl) k
def uO (a0:AV) (h:ab) (Q:QT):Prop:=
 bZ a0 fun t7=>
 ah .lss t7 (I 2) fun t8=>
 ifB t8 (Q (.tup [(I 0),(B false)]) h) (
 bZ a0 fun t11=>
 ah .gtr t11 (I 3) fun t12=>
 ifB t12 (Q (.tup [(I 0),(B false)]) h) (
 aV a0 (I 0) fun t16=>
 ah .neq t16 (.lit (.int .u8 114)) fun t17=>
 ifB t17 (Q (.tup [(I 0),(B false)]) h) (
 aM a0 (some (I 1)) none fun t21=>
 C ej [t21,(.fn (.func dK) [] [])] h fun t22 h0=>
 bZ a0 fun t24=>
 ah .sub t24 (I 1) fun t25=>
 ah .neq t22 t25 fun t26=>
 ifB t26 (Q (.tup [(I 0),(B false)]) h0) (
 bZ a0 fun t30=>
 ah .eql t30 (I 3) fun t31=>
 ifT t31 (aV a0 (I 1) fun t34=>
 ah .eql t34 (.lit (.int .u8 48)) fun t35=>
 ifB t35 (
 Q (.tup [(I 0),(B false)]) h0) (
 aM a0 (some (I 1)) none fun t40=>
 C d7 [t40] h0 fun t41 h1=>
 am 0 t41 fun t42=>
 am 1 t41 fun t43=>
 ah .lss t42 (I 32) fun t46=>
 Q (.tup [t42,t46]) h1)) (
 aM a0 (some (I 1)) none fun t40=>
 C d7 [t40] h0 fun t41 h2=>
 am 0 t41 fun t42=>
 am 1 t41 fun t43=>
 ah .lss t42 (I 32) fun t46=>
 Q (.tup [t42,t46]) h2) (
 ifB (.tup []) (ifB (.tup []) (
 Q (.tup [(I 0),(B false)]) h0) (
 aM a0 (some (I 1)) none fun t40=>
 C d7 [t40] h0 fun t41 h3=>
 am 0 t41 fun t42=>
 am 1 t41 fun t43=>
 ah .lss t42 (I 32) fun t46=>
 Q (.tup [t42,t46]) h3)) (aM a0 (some (I 1)) none fun t40=>
 C d7 [t40] h0 fun t41 h4=>
 am 0 t41 fun t42=>
 am 1 t41 fun t43=>
 ah .lss t42 (I 32) fun t46=>
 Q (.tup [t42,t46]) h4))))))
theorem xw (a0:AV) (h:ab) (Q:QT) (k:uO a0 h Q):C kN [a0] h Q:=
 okF (pl:=[]) Tryz.func189 Tryz.ntmps189 (by kernel_rfl) rfl (by kernel_rfl) k
def vZ (s6 s0:AV) (Q:QT) (vs0:List AV) (h:ab) (next0:NT):Prop:=
 ah .lss (af vs0 1) s6 fun t8=>
 ifB t8 (
 ap 1 1 [s0] fun t11=>
 bL 1 8 (af vs0 0) t11 h fun t12 h1=>
 ah .add (af vs0 1) (I 1) fun t13=>
 next0 [t12,t13] h1) (
 Q (af vs0 0) h)
def Er (a0 a1:AV) (h:ab) (Q:QT):Prop:=
 bG [(.full 0 []),(I 0)] h fun vs0 h next0=>vZ a1 a0 Q vs0 h next0
theorem FH (a0 a1:AV) (h:ab) (Q:QT) (k:Er a0 a1 h Q):C ia [a0,a1] h Q:=
 okF (pl:=[(4,[5,7,8,9,10,11,12,13],[5,7])]) Tryz.func149 Tryz.ntmps149 (by kernel_rfl) rfl (by kernel_rfl) k
def UX:Code→Code
 | .seq a _=>a
 | c=>c
def SZ:Code→Code
 | .seq _ (.scope c)=>c
 | c=>c
def ou (a0 s4:AV) (h:ab) (Q:QT):Prop:=
 aM a0 none (some s4) fun t21=>
 C eN [t21,(S ⟨#[32,9]⟩)] h fun t22 h1=>
 Q t22 h1
def n7 (s3 s4:AV) (h:ab) (next:NT):Prop:=
 ah .add s4 (I 1) fun t30=>
 next [s3,t30] h
def oc (a0 s3 s4:AV) (h:ab) (next:NT):Prop:=
 aV a0 s4 fun t25=>
 ah .eql t25 (.lit (.int .u8 34)) fun t26=>
 ifB t26 (qUn .not s3 fun t28=>n7 t28 s4 h next) (n7 s3 s4 h next)
def n9 (a0 s3 s4:AV) (h:ab) (Q:QT) (next:NT):Prop:=
 bZ a0 fun t7=>
 ah .eql s4 t7 fun t8=>
 ifB t8 (ou a0 s4 h Q) (
 aV a0 s4 fun t12=>
 ah .eql t12 (.lit (.int .u8 35)) fun t13=>
 ifT t13 (qUn .not s3 fun t16=>
 ifB t16 (ou a0 s4 h Q) (oc a0 s3 s4 h next)) (oc a0 s3 s4 h next) False)
def xA (a0:AV) (h:ab) (Q:QT):Prop:=
 n9 a0 (B false) (I 0) h Q fun vs h=>bG vs h fun vs h next=>n9 a0 (af vs 0) (af vs 1) h Q next
theorem FQ (a0:AV) (h:ab) (Q:QT):UH Pg [] Tryz.f107 (UX (qD Tryz.f107)) (SZ (qD Tryz.f107)) ((findLabel (SZ (qD Tryz.f107)) 0).getD .skip) 0 [2,3,4,5,6,7,8,9,10,11,12,13,14,15,16,17,18,19,20,21,22,23,24,25,26,27,28,29,30] [3,4] [a0] h Q=xA a0 h Q:=by kernel_rfl
theorem EN (a0:AV) (h:ab) (Q:QT) (k:xA a0 h Q):C qz [a0] h Q:=
 Cv (pl:=[]) Tryz.func107 (A:=UX (qD Tryz.f107)) (c:=SZ (qD Tryz.f107)) (rest:=(findLabel (SZ (qD Tryz.f107)) 0).getD .skip) (l:=0) (ws:=[2,3,4,5,6,7,8,9,10,11,12,13,14,15,16,17,18,19,20,21,22,23,24,25,26,27,28,29,30]) (ks:=[3,4]) (by kernel_rfl) (by kernel_rfl) (by kernel_rfl) (by kernel_rfl) (by kernel_rfl) (by kernel_rfl) (by have:=Tryz.ntmps107;simp only[List.length_cons,List.length_nil];omega) (by rw[FQ];exact k)
