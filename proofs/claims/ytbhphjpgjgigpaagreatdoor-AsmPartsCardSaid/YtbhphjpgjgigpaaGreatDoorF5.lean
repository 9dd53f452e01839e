import Derived.Test.YtbhphjpgjgigpaaGreatDoorF5A
set_option linter.all false
set_option autoImplicit true
set_option relaxedAutoImplicit true
set_option maxRecDepth 100000
namespace Go.Proofs.YtbhphjpgjgigpaaGreatDoor.AL
noncomputable section
open Go.Proofs
variable [Tabs]
def q9 (s27 s26 s6:AV) (Q:QT) (vs2:List AV) (h:ab) (next2:NT):Prop:=
 ag .lss (an vs2 1) s27 fun t29=>
 ifB t29 (
 am 1 s26 (an vs2 1) fun t30=>
 ah t30 h fun t31=>
 C iw [s6,t31] h fun t35 h3=>
 bF 1 1 (an vs2 0) t35 h3 fun t36 h4=>
 ag .add (an vs2 1) (I 1) fun t37=>
 next2 [t36,t37] h4) (
 C db [(an vs2 0)] h fun t39 h5=>
 Q (.tup [t39,(.full 0 [])]) h5)
def vW (a0 a1:AV) (h:ab) (Q:QT):Prop:=
 C oh [a0,a1] h fun t11 h0=>
 aE t11 fun t13=>
 ae 3 t13 fun t14=>
 ah t14 h0 fun t15=>
 bd t15 fun t16=>
 ag .gtr t16 (I 0) fun t17=>
 ifB t17 (
 aE t11 fun t19=>
 ae 3 t19 fun t20=>
 ah t20 h0 fun t21=>
 C cN [t21] h0 fun t22 h1=>
 Q (.tup [(.full 0 []),t22]) h1) (
 aE t11 fun t24=>
 ae 0 t24 fun t25=>
 ah t25 h0 fun t26=>
 bd t26 fun t27=>
 cC [(.full 0 []),(I 0)] h0 fun vs2 h next2=>q9 t27 t26 t11 Q vs2 h next2)
theorem y0 (a0 a1:AV) (h:ab) (Q:QT) (k:vW a0 a1 h Q):C dS [a0,a1] h Q:=
 okF (pl:=[(6,[4,8,28,29,30,31,32,33,34,35,36,37],[4,28])]) Tryz.func9 Tryz.ntmps9 (by kernel_rfl) rfl (by kernel_rfl) k
def qm (s4 s23:AV) (h:ab) (next1:NT):Prop:=
 ag .add s23 (I 1) fun t39=>
 next1 [s4,t39] h
def mH (s4 s23:AV) (h:ab) (next1:NT):Prop:=
 qm s4 s23 h next1
def vQ (s22 s21 s6:AV) (Q:QT) (vs1:List AV) (h:ab) (next1:NT):Prop:=
 ag .lss (an vs1 1) s22 fun t24=>
 ifB t24 (
 am 1 s21 (an vs1 1) fun t25=>
 ah t25 h fun t26=>
 aE t26 fun t28=>
 ae 1 t28 fun t29=>
 ae 2 t29 fun t30=>
 ah t30 h fun t31=>
 ag .eql t31 (I 2) fun t32=>
 ifB t32 (
 C ep [s6,t26] h fun t36 h2=>
 ao 1 1 [t36] fun t37=>
 bF 1 8 (an vs1 0) t37 h2 fun t38 h3=>
 mH t38 (an vs1 1) h3 next1) (
 mH (an vs1 0) (an vs1 1) h next1)) (
 C dD [(an vs1 0)] h fun t41 h6=>
 Q (.tup [t41,(B true)]) h6)
def DD (a0 a1:AV) (h:ab) (Q:QT):Prop:=
 C oh [a0,a1] h fun t11 h0=>
 aE t11 fun t13=>
 ae 3 t13 fun t14=>
 ah t14 h0 fun t15=>
 bd t15 fun t16=>
 ag .gtr t16 (I 0) fun t17=>
 ifB t17 (
 Q (.tup [(.full 0 []),(B false)]) h0) (
 aE t11 fun t19=>
 ae 0 t19 fun t20=>
 ah t20 h0 fun t21=>
 bd t21 fun t22=>
 cC [(.full 0 []),(I 0)] h0 fun vs1 h next1=>vQ t22 t21 t11 Q vs1 h next1)
theorem Ek (a0 a1:AV) (h:ab) (Q:QT) (k:DD a0 a1 h Q):C qv [a0,a1] h Q:=
 okF (pl:=[(6,[4,8,23,24,25,26,27,28,29,30,31,32,33,34,35,36,37,38,39],[4,23])]) Tryz.func14 Tryz.ntmps14 (by kernel_rfl) rfl (by kernel_rfl) k
def gC (s8 s16 s5:AV) (h:ab) (next6:NT):Prop:=
 ae 1 s5 fun t34=>
 ah t34 h fun t35=>
 ao 1 1 [s8] fun t37=>
 bF 1 8 t35 t37 h fun t38 h7=>
 ae 1 s5 fun t39=>
 au 1 t39 t38 h7 fun h8=>
 ag .add s16 (I 1) fun t40=>
 next6 [t40] h8
def nj (s15 s14 s5 s4 s0 s1:AV) (Q:QT) (vs6:List AV) (h:ab) (next6:NT):Prop:=
 ag .lss (an vs6 0) s15 fun t17=>
 ifB t17 (
 am 1 s14 (an vs6 0) fun t19=>
 ah t19 h fun t20=>
 am 1 s1 (an vs6 0) fun t23=>
 ah t23 h fun t24=>
 bM t20 (I 0) fun t26=>
 ag .eql t26 (.lit (.int .u8 84)) fun t27=>
 ifB t27 (
 aE s0 fun t30=>
 ae 7 t30 fun t31=>
 ah t31 h fun t32=>
 ag .sub t24 t32 fun t33=>
 gC t33 (an vs6 0) s5 h next6) (
 gC t24 (an vs6 0) s5 h next6)) (
 ay 2 s5 h fun t41=>
 au 2 s4 t41 h fun h10=>
 ay 2 s4 h10 fun r11=>
 Q r11 h10)
def tk (a0 a1:AV) (h:ab) (Q:QT):Prop:=
 gK [(I 0),(.full 0 [])] h fun t4 h0=>
 C kr [a0] h0 fun t10 h1=>
 gK [(I 0),(.full 0 [])] h1 fun t5 h2=>
 au 2 t5 t10 h2 fun h3=>
 ae 0 t5 fun t11=>
 ah t11 h3 fun t12=>
 C mP [t12] h3 fun t13 h4=>
 C dM [t13] h4 fun t14 h5=>
 bd t14 fun t15=>
 cC [(I 0)] h5 fun vs6 h next6=>nj t15 t14 t5 t4 a0 a1 Q vs6 h next6
theorem wz (a0 a1:AV) (h:ab) (Q:QT) (k:tk a0 a1 h Q):C gy [a0,a1] h Q:=
 okF (pl:=[(4,[6,7,8,16,17,18,19,20,21,22,23,24,25,26,27,28,29,30,31,32,33,34,35,36,37,38,39,40],[16])]) Tryz.func37 Tryz.ntmps37 (by kernel_rfl) rfl (by kernel_rfl) k
def sN (a0:AV) (h:ab) (Q:QT):Prop:=
 gK [(I 0),(.full 0 [])] h fun t2 h0=>
 aE a0 fun t5=>
 ae 1 t5 fun t6=>
 ae 2 t6 fun t7=>
 ah t7 h0 fun t8=>
 ag .eql t8 (I 1) fun t9=>
 ifB t9 (
 aE a0 fun t11=>
 ae 1 t11 fun t12=>
 ae 3 t12 fun t13=>
 ah t13 h0 fun t14=>
 aq [(I 0),(.full 0 [])] [(0,1,t14)] fun t15=>
 au 2 t2 t15 h0 fun h1=>
 ay 2 t2 h1 fun r2=>
 Q r2 h1) (
 aE a0 fun t18=>
 ae 8 t18 fun t19=>
 ah t19 h0 fun t20=>
 ifB t20 (
 aE a0 fun t22=>
 ae 1 t22 fun t23=>
 ae 3 t23 fun t24=>
 ah t24 h0 fun t25=>
 C qX [t25] h0 fun t26 h3=>
 aq [(I 0),(.full 0 [])] [(0,1,t26)] fun t27=>
 au 2 t2 t27 h3 fun h4=>
 ay 2 t2 h4 fun r5=>
 Q r5 h4) (
 aE a0 fun t29=>
 ae 1 t29 fun t30=>
 ae 3 t30 fun t31=>
 ah t31 h0 fun t32=>
 C mF [t32] h0 fun t33 h6=>
 aq [(I 0),(.full 0 [])] [(0,1,t33)] fun t34=>
 au 2 t2 t34 h6 fun h7=>
 ay 2 t2 h7 fun r8=>
 Q r8 h7))
theorem wH (a0:AV) (h:ab) (Q:QT) (k:sN a0 h Q):C kr [a0] h Q:=
 okF (pl:=[]) Tryz.func58 Tryz.ntmps58 (by kernel_rfl) rfl (by kernel_rfl) k
def rV (a0:AV) (h:ab) (Q:QT):Prop:=
 gK [(I 0),(I 0),(S ⟨#[]⟩),(.full 0 [])] h fun t2 h0=>
 aE a0 fun t4=>
 ae 1 t4 fun t5=>
 ae 5 t5 fun t6=>
 ah t6 h0 fun t7=>
 aE a0 fun t9=>
 ae 1 t9 fun t10=>
 ae 5 t10 fun t11=>
 ah t11 h0 fun t12=>
 bd t12 fun t13=>
 ag .sub t13 (I 1) fun t14=>
 am 5 t7 t14 fun t15=>
 ae 1 t15 fun t16=>
 ay 4 t16 h0 fun t17=>
 au 4 t2 t17 h0 fun h1=>
 ay 4 t2 h1 fun r2=>
 Q r2 h1
theorem wD (a0:AV) (h:ab) (Q:QT) (k:rV a0 h Q):C bj [a0] h Q:=
 okF (pl:=[(1000001,[0,1,2,3,4,5,6,7,8,9,10,11,12,13,14,15],[])]) Tryz.func40 Tryz.ntmps40 (by kernel_rfl) rfl (by kernel_rfl) k
def tf (s8 s16:AV) (h:ab) (next2:NT):Prop:=
 ag .add s16 (I 1) fun t33=>
 next2 [s8,t33] h
def n6 (s8 s16:AV) (h:ab) (next2:NT):Prop:=
 tf s8 s16 h next2
def yH (s15 s14 s3 s1 s2:AV) (Q:QT) (vs2:List AV) (h:ab) (next2:NT):Prop:=
 ag .lss (an vs2 1) s15 fun t17=>
 ifB t17 (
 am 1 s14 (an vs2 1) fun t18=>
 ah t18 h fun t19=>
 hY .string true (I 0) s2 t19 h fun t23=>
 aj 0 t23 fun t24=>
 aj 1 t23 fun t25=>
 ifB t25 (
 aq [(S ⟨#[]⟩),(I 0)] [(0,1,t19),(1,1,t24)] fun t30=>
 ao 1 2 [t30] fun t31=>
 bF 2 24 (an vs2 0) t31 h fun t32 h3=>
 n6 t32 (an vs2 1) h3 next2) (
 n6 (an vs2 0) (an vs2 1) h next2)) (
 ay 4 s3 h fun t34=>
 C j7 [t34,s1,(an vs2 0)] h fun t37 h6=>
 aj 0 t37 fun t38=>
 aj 1 t37 fun t39=>
 Q (.tup [t38,t39]) h6)
def Hb (a0 a1 a2:AV) (h:ab) (Q:QT):Prop:=
 lQ a0 h fun t3 h0=>
 ay 4 t3 h0 fun t13=>
 C iZ [t13] h0 fun t14 h1=>
 bd t14 fun t15=>
 cC [(.full 0 []),(I 0)] h1 fun vs2 h next2=>yH t15 t14 t3 a1 a2 Q vs2 h next2
theorem GP (a0 a1 a2:AV) (h:ab) (Q:QT) (k:Hb a0 a1 a2 h Q):C eT [a0,a1,a2] h Q:=
 okF (pl:=[(4,[8,10,11,12,16,17,18,19,20,21,22,23,24,25,26,27,28,29,30,31,32,33],[8,16])]) Tryz.func39 Tryz.ntmps39 (by kernel_rfl) rfl (by kernel_rfl) k
def DS (a0:AV) (h:ab) (Q:QT):Prop:=
 ao 3 1 [(S ⟨#[101,95,98]⟩),(S ⟨#[101,95,98,108]⟩),(S ⟨#[101,95,98,99]⟩)] fun t3=>
 am 1 t3 a0 fun t5=>
 ah t5 h fun t6=>
 C uc [t6] h fun t7 h0=>
 Q t7 h0
theorem F0 (a0:AV) (h:ab) (Q:QT) (k:DS a0 h Q):C qX [a0] h Q:=
 okF (pl:=[]) Tryz.func88 Tryz.ntmps88 (by kernel_rfl) rfl (by kernel_rfl) k
def Hn (a0:AV) (h:ab) (Q:QT):Prop:=
 lQ a0 h fun t1 h0=>
 ae 0 t1 fun t3=>
 ah t3 h0 fun t4=>
 ag .eql t4 (I 3) fun t5=>
 ifB t5 (Q (B true) h0) (
 ae 3 t1 fun t7=>
 ah t7 h0 fun t8=>
 C bx [t8,(.fn (.func d9) [] [])] h0 fun t9 h1=>
 Q t9 h1)
theorem GV (a0:AV) (h:ab) (Q:QT) (k:Hn a0 h Q):C d9 [a0] h Q:=
 okF (pl:=[]) Tryz.func53 Tryz.ntmps53 (by kernel_rfl) rfl (by kernel_rfl) k
def jw (s5:AV) (h:ab) (Q:QT):Prop:=
 Q s5 h
def g6 (s5:AV) (h:ab) (Q:QT):Prop:=
 jw s5 h Q
def yB (s20 s19 s5:AV) (Q:QT) (vs1:List AV) (h:ab) (next1:NT):Prop:=
 ag .lss (an vs1 0) s20 fun t22=>
 ifB t22 (
 am 1 s19 (an vs1 0) fun t23=>
 ah t23 h fun t24=>
 aE s5 fun t26=>
 ae 3 t26 fun t27=>
 ah t27 h fun t28=>
 bd t28 fun t29=>
 ag .gtr t29 (I 0) fun t30=>
 ifB t30 (
 g6 s5 h Q) (
 CV t24 [] h fun t32 h4=>
 ag .add (an vs1 0) (I 1) fun t33=>
 next1 [t33] h4)) (
 g6 s5 h Q)
def Gm (a0 a1:AV) (h:ab) (Q:QT):Prop:=
 C rN [a0,a1] h fun t10 h0=>
 ao 4 1 [(.fn (.func bU) [t10] []),(.fn (.func bV) [t10] []),(.fn (.func bP) [t10] []),(.fn (.func bW) [t10] [])] fun t19=>
 bd t19 fun t20=>
 cC [(I 0)] h0 fun vs1 h next1=>yB t20 t19 t10 Q vs1 h next1
theorem HH (a0 a1:AV) (h:ab) (Q:QT) (k:Gm a0 a1 h Q):C oh [a0,a1] h Q:=
 okF (pl:=[(4,[7,21,22,23,24,25,26,27,28,29,30,31,32,33],[21])]) Tryz.func18 Tryz.ntmps18 (by kernel_rfl) rfl (by kernel_rfl) k
def Qd (a0:AV) (h:ab) (Q:QT):Prop:=
 C om [a0] h fun t7 h0=>
 aj 0 t7 fun t8=>
 aj 1 t7 fun t9=>
 Q t8 h0
theorem My (a0:AV) (h:ab) (Q:QT) (k:Qd a0 h Q):C uc [a0] h Q:=
 okF (pl:=[]) Tryz.func116 Tryz.ntmps116 (by kernel_rfl) rfl (by kernel_rfl) k
def wV (s68 s67 s9 s36 s5:AV) (next6:NT) (vs16:List AV) (h:ab) (next16:NT):Prop:=
 ag .lss (an vs16 0) s68 fun t70=>
 ifB t70 (
 am 1 s67 (an vs16 0) fun t71=>
 ah t71 h fun t72=>
 ae 0 s9 fun t74=>
 ah t74 h fun t75=>
 C aM [s5,t75,t72,(I 1)] h fun t77 h17=>
 ag .add (an vs16 0) (I 1) fun t78=>
 next16 [t78] h17) (
 ag .add s36 (I 1) fun t79=>
 next6 [t79] h)
def v8 (s47 s46 s11 s9 s36 s5:AV) (next6:NT) (vs10:List AV) (h:ab) (next10:NT):Prop:=
 ag .lss (an vs10 0) s47 fun t49=>
 ifB t49 (
 am 6 s46 (an vs10 0) fun t50=>
 ay 6 t50 h fun t51=>
 gK [(I 0),(S ⟨#[]⟩),(I 0),(I 0),(S ⟨#[]⟩),(.full 0 [])] h fun t13 h11=>
 au 6 t13 t51 h11 fun h12=>
 aE s5 fun t54=>
 ae 0 t54 fun t55=>
 ah t55 h12 fun t56=>
 ae 0 s9 fun t57=>
 ah t57 h12 fun t58=>
 ay 6 t13 h12 fun t59=>
 aq [(S ⟨#[]⟩),(I 0),(S ⟨#[]⟩),(I 0),(I 0),(S ⟨#[]⟩),(.full 0 []),(I 0),(B false)] [(0,1,t58),(1,6,t59)] fun t60=>
 lQ t60 h12 fun t61 h13=>
 (ah t55 h13 fun _t=>
 _t=t56)∧
 ao 1 1 [t61] fun t62=>
 bF 1 8 t56 t62 h13 fun t63 h14=>
 aE s5 fun t64=>
 ae 0 t64 fun t65=>
 au 1 t65 t63 h14 fun h15=>
 ag .add (an vs10 0) (I 1) fun t66=>
 next10 [t66] h15) (
 bd s11 fun t68=>
 cC [(I 0)] h fun vs16 h next16=>wV t68 s11 s9 s36 s5 next6 vs16 h next16)
def wR (s35 s34 s5:AV) (Q:QT) (vs6:List AV) (h:ab) (next6:NT):Prop:=
 ag .lss (an vs6 0) s35 fun t37=>
 ifB t37 (
 am 2 s34 (an vs6 0) fun t38=>
 ay 2 t38 h fun t39=>
 gK [(S ⟨#[]⟩),(S ⟨#[]⟩)] h fun t9 h7=>
 au 2 t9 t39 h7 fun h8=>
 ae 1 t9 fun t41=>
 ah t41 h8 fun t42=>
 C oZ [t42] h8 fun t43 h9=>
 aj 0 t43 fun t44=>
 aj 1 t43 fun t45=>
 bd t44 fun t47=>
 cC [(I 0)] h9 fun vs10 h next10=>v8 t47 t44 t45 t9 (an vs6 0) s5 next6 vs10 h next10) (
 Q s5 h)
def wb (s20 s19 s5 s0:AV) (Q:QT) (vs2:List AV) (h:ab) (next2:NT):Prop:=
 ag .lss (an vs2 0) s20 fun t22=>
 ifB t22 (
 am 2 s19 (an vs2 0) fun t23=>
 ay 2 t23 h fun t24=>
 gK [(S ⟨#[]⟩),(I 0)] h fun t7 h3=>
 au 2 t7 t24 h3 fun h4=>
 aE s5 fun t26=>
 ae 1 t26 fun t27=>
 ah t27 h4 fun t28=>
 ae 0 t7 fun t29=>
 ah t29 h4 fun t30=>
 ae 1 t7 fun t31=>
 ah t31 h4 fun t32=>
 dU .string t28 t30 t32 h4 fun h5=>
 ag .add (an vs2 0) (I 1) fun t33=>
 next2 [t33] h5) (
 bd s0 fun t35=>
 cC [(I 0)] h fun vs6 h next6=>wR t35 s0 s5 Q vs6 h next6)
def Im (a0 a1:AV) (h:ab) (Q:QT):Prop:=
 m5 h fun t16 h0=>
 aq [(.full 0 []),(.lit (.map none)),(.lit (.map none)),(.full 0 []),(I 0)] [(1,1,t16)] fun t17=>
 lQ t17 h0 fun t18 h1=>
 bd a1 fun t20=>
 cC [(I 0)] h1 fun vs2 h next2=>wb t20 a1 t18 a0 Q vs2 h next2
theorem HB (a0 a1:AV) (h:ab) (Q:QT) (k:Im a0 a1 h Q):C rN [a0,a1] h Q:=
 okF (pl:=[(4,[7,21,22,23,24,25,26,27,28,29,30,31,32,33],[21]),(1000005,[0,1,2,3,4,5,6,7,8],[]),(9,[9,10,11,13,15,36,37,38,39,40,41,42,43,44,45,46,47,48,49,50,51,52,53,54,55,56,57,58,59,60,61,62,63,64,65,66,67,68,69,70,71,72,73,74,75,76,77,78,79],[36]),(13,[13,48,49,50,51,52,53,54,55,56,57,58,59,60,61,62,63,64,65,66],[48]),(1000014,[0,1,2,3,4,5,6,7,8,9,10,11,12,13,14],[]),(18,[15,69,70,71,72,73,74,75,76,77,78],[69])]) Tryz.func30 Tryz.ntmps30 (by kernel_rfl) rfl (by kernel_rfl) k
def DX (a0:AV) (h:ab) (Q:QT):Prop:=
 ao 3 1 [(S ⟨#[115,101,95,98]⟩),(S ⟨#[115,101,95,98,108]⟩),(S ⟨#[115,101,95,98,99]⟩)] fun t3=>
 am 1 t3 a0 fun t5=>
 ah t5 h fun t6=>
 C uc [t6] h fun t7 h0=>
 Q t7 h0
theorem F5 (a0:AV) (h:ab) (Q:QT) (k:DX a0 h Q):C mF [a0] h Q:=
 okF (pl:=[]) Tryz.func78 Tryz.ntmps78 (by kernel_rfl) rfl (by kernel_rfl) k
def mp (s11 s41:AV) (next3:NT) (vs4:List AV) (h:ab) (next4:NT):Prop:=
 ag .geq (an vs4 1) (I 0) fun t54=>
 ifB t54 (
 ag .shr s11 (an vs4 1) fun t60=>
 ct .u8 t60 fun t61=>
 ao 1 1 [t61] fun t62=>
 bF 1 1 (an vs4 0) t62 h fun t63 h5=>
 ag .sub (an vs4 1) (I 8) fun t56=>
 next4 [t63,t56] h5) (
 ag .add s41 (I 1) fun t64=>
 next3 [(an vs4 0),t64] h)
def mq (s40 s39 s1:AV) (Q:QT) (vs3:List AV) (h:ab) (next3:NT):Prop:=
 ag .lss (an vs3 1) s40 fun t42=>
 ifB t42 (
 am 1 s39 (an vs3 1) fun t43=>
 ah t43 h fun t44=>
 aE s1 fun t46=>
 ae 1 t46 fun t47=>
 ae 2 t47 fun t48=>
 ah t48 h fun t49=>
 ag .sub t49 (I 3) fun t50=>
 ag .shl (I 8) t50 fun t51=>
 ag .sub t51 (I 8) fun t52=>
 cC [(an vs3 0),t52] h fun vs4 h next4=>mp t44 (an vs3 1) next3 vs4 h next4) (
 Q (an vs3 0) h)
def dI (s35 s23 s5 s0 s1:AV) (h:ab) (Q:QT):Prop:=
 ifB s35 (
 bd s5 fun t40=>
 cC [(.full 0 []),(I 0)] h fun vs3 h next3=>mq t40 s5 s1 Q vs3 h next3) (
 ag .eql s23 (I 6) fun t67=>
 ifB t67 (
 aE s1 fun t69=>
 ae 1 t69 fun t70=>
 ae 4 t70 fun t71=>
 ah t71 h fun t72=>
 mU t72 h fun t73 h8=>
 Q t73 h8) (
 C ep [s0,s1] h fun t76 h9=>
 jp 1 (.lit (.int .u8 0)) t76 t76 h9 fun t77 h10=>
 Q t77 h10))
def eS (s24 s23 s5 s0 s1:AV) (h:ab) (Q:QT):Prop:=
 ifB s24 (
 C gy [s1,s5] h fun t30 h1=>
 C o9 [t30] h1 fun t31 h2=>
 aj 0 t31 fun t32=>
 aj 1 t31 fun t33=>
 Q t32 h2) (
 ag .eql s23 (I 3) fun t36=>
 ifB t36 (
 dI t36 s23 s5 s0 s1 h Q) (
 ag .eql s23 (I 4) fun t37=>
 ifB t37 (
 dI t37 s23 s5 s0 s1 h Q) (
 ag .eql s23 (I 5) fun t38=>
 dI t38 s23 s5 s0 s1 h Q)))
def pQ (a0 a1:AV) (h:ab) (Q:QT):Prop:=
 C eL [a0,a1] h fun t16 h0=>
 aj 0 t16 fun t17=>
 aj 1 t16 fun t18=>
 aE a1 fun t20=>
 ae 1 t20 fun t21=>
 ae 2 t21 fun t22=>
 ah t22 h0 fun t23=>
 ag .eql t23 (I 1) fun t25=>
 ifB t25 (
 eS t25 t23 t17 a0 a1 h0 Q) (
 ag .eql t23 (I 2) fun t26=>
 eS t26 t23 t17 a0 a1 h0 Q)
theorem ug (a0 a1:AV) (h:ab) (Q:QT) (k:pQ a0 a1 h Q):C iw [a0,a1] h Q:=
 okF (pl:=[(13,[9,11,12,41,42,43,44,45,46,47,48,49,50,51,52,53,54,55,56,57,58,59,60,61,62,63,64],[9,41]),(16,[9,12,53,54,55,56,57,58,59,60,61,62,63],[9,12])]) Tryz.func20 Tryz.ntmps20 (by kernel_rfl) rfl (by kernel_rfl) k
def iL (s10:AV) (h:ab) (next0:NT):Prop:=
 ag .add s10 (I 1) fun t31=>
 next0 [t31] h
def fp (s10:AV) (h:ab) (next0:NT):Prop:=
 iL s10 h next0
def mn (s9 s8 s0:AV) (Q:QT) (vs0:List AV) (h:ab) (next0:NT):Prop:=
 ag .lss (an vs0 0) s9 fun t11=>
 ifB t11 (
 am 1 s8 (an vs0 0) fun t12=>
 ah t12 h fun t13=>
 C iG [s0,t13] h fun t16 h1=>
 ag .neq t16 (I 0) fun t18=>
 ifB t18 (
 aE t13 fun t21=>
 ae 0 t21 fun t22=>
 ah t22 h1 fun t23=>
 aE t13 fun t25=>
 ae 1 t25 fun t26=>
 ae 0 t26 fun t27=>
 ah t27 h1 fun t28=>
 C aM [s0,t23,t28,t16] h1 fun t30 h2=>
 fp (an vs0 0) h2 next0) (
 fp (an vs0 0) h1 next0)) (
 Q (.tup []) h)
def pZ (a0:AV) (h:ab) (Q:QT):Prop:=
 aE a0 fun t6=>
 ae 0 t6 fun t7=>
 ah t7 h fun t8=>
 bd t8 fun t9=>
 cC [(I 0)] h fun vs0 h next0=>mn t9 t8 a0 Q vs0 h next0
theorem um (a0:AV) (h:ab) (Q:QT) (k:pZ a0 h Q):C bW [a0] h Q:=
 okF (pl:=[(2,[3,4,10,11,12,13,14,15,16,17,18,19,20,21,22,23,24,25,26,27,28,29,30,31],[10]),(1000005,[0,1,2,3,4,5,6,7,8,9,10,11],[])]) Tryz.func34 Tryz.ntmps34 (by kernel_rfl) rfl (by kernel_rfl) k
def jP (s11 s10 s0:AV) (Q:QT) (vs2:List AV) (h:ab) (next2:NT):Prop:=
 ag .lss (an vs2 1) s11 fun t13=>
 ifB t13 (
 am 1 s10 (an vs2 1) fun t14=>
 ah t14 h fun t15=>
 gK [(S ⟨#[]⟩)] h fun t6 h3=>
 au 1 t6 t15 h3 fun h4=>
 aE s0 fun t18=>
 ae 2 t18 fun t19=>
 ah t19 h4 fun t20=>
 ah t6 h4 fun t21=>
 hY .string true (I 0) t20 t21 h4 fun t22=>
 aj 0 t22 fun t23=>
 aj 1 t22 fun t24=>
 qUn .not t24 fun t26=>
 ifB t26 (aE s0 fun t29=>
 ae 0 t29 fun t30=>
 ah t30 h4 fun t31=>
 C bO [t31,(.fn (.func fb) [] [t6])] h4 fun t33 h5=>
 qUn .not t33 fun t34=>
 ifB t34 (
 Q (B false) h5) (
 ag .add (an vs2 1) (I 1) fun t36=>
 next2 [(an vs2 0),t36] h5)) (
 ag .add (an vs2 1) (I 1) fun t36=>
 next2 [(an vs2 0),t36] h4)) (
 Q (B true) h)
def mw (a0 a1:AV) (h:ab) (Q:QT):Prop:=
 lQ a1 h fun t3 h0=>
 ay 4 t3 h0 fun t9=>
 C iZ [t9] h0 fun t10 h1=>
 bd t10 fun t11=>
 cC [(B false),(I 0)] h1 fun vs2 h next2=>jP t11 t10 a0 Q vs2 h next2
theorem qU (a0 a1:AV) (h:ab) (Q:QT) (k:mw a0 a1 h Q):C fR [a0,a1] h Q:=
 okF (pl:=[(3,[4,6,7,8,12,13,14,15,16,17,18,19,20,21,22,23,24,25,26,27,28,29,30,31,32,33,34,35,36],[4,12]),(1000004,[0,1,2,3,4,5,6,7,8,9,10],[])]) Tryz.func79 Tryz.ntmps79 (by kernel_rfl) rfl (by kernel_rfl) k
def kA (a0 a1:AV) (h:ab) (Q:QT):Prop:=
 aE a0 fun t5=>
 ae 1 t5 fun t6=>
 ae 2 t6 fun t7=>
 ah t7 h fun t8=>
 ag .eql t8 (I 9) fun t9=>
 ifB t9 (aE a0 fun t12=>
 ae 1 t12 fun t13=>
 ae 4 t13 fun t14=>
 ah t14 h fun t15=>
 ah a1 h fun t16=>
 ag .eql t15 t16 fun t17=>
 Q t17 h) (
 Q (B false) h)
theorem pc (a0 a1:AV) (h:ab) (Q:QT) (k:kA a0 a1 h Q):C fb [a0,a1] h Q:=
 okF (pl:=[(1000001,[0,1,2,3,4,5,6,7,8,9,10,11,12,13,14,15],[])]) Tryz.func118 Tryz.ntmps118 (by kernel_rfl) rfl (by kernel_rfl) k
def je (s3 s15:AV) (h:ab) (next0:NT):Prop:=
 ag .add s15 (I 1) fun t64=>
 next0 [s3,t64] h
def cn (s3 s15:AV) (h:ab) (next0:NT):Prop:=
 je s3 s15 h next0
def mD (s66 s65 s3:AV) (Q:QT) (vs8:List AV) (h:ab) (next8:NT):Prop:=
 ag .lss (an vs8 0) s66 fun t68=>
 ifB t68 (
 am 1 s65 (an vs8 0) fun t69=>
 ah t69 h fun t70=>
 aE t70 fun t72=>
 ae 8 t72 fun t73=>
 au 1 t73 (B true) h fun h9=>
 ag .add (an vs8 0) (I 1) fun t74=>
 next8 [t74] h9) (
 bd s3 fun t76=>
 ag .gtr t76 (I 0) fun t77=>
 Q t77 h)
def mu (s14 s13 s0:AV) (Q:QT) (vs0:List AV) (h:ab) (next0:NT):Prop:=
 ag .lss (an vs0 1) s14 fun t16=>
 ifB t16 (
 am 1 s13 (an vs0 1) fun t17=>
 ah t17 h fun t18=>
 aE t18 fun t20=>
 ae 1 t20 fun t21=>
 ae 2 t21 fun t22=>
 ah t22 h fun t23=>
 ag .neq t23 (I 2) fun t24=>
 ifB t24 (cn (an vs0 0) (an vs0 1) h next0) (
 aE t18 fun t27=>
 ae 8 t27 fun t28=>
 ah t28 h fun t29=>
 ifB t29 (
 cn (an vs0 0) (an vs0 1) h next0) (
 aE t18 fun t35=>
 ae 7 t35 fun t36=>
 ah t36 h fun t37=>
 aE s0 fun t39=>
 ae 2 t39 fun t40=>
 ah t40 h fun t41=>
 C bj [t18] h fun t33 h3=>
 (ah t40 h3 fun _t=>
 _t=t41)∧
 (ah t36 h3 fun _t=>
 _t=t37)∧
 C eT [t33,t37,t41] h3 fun t42 h4=>
 aj 0 t42 fun t43=>
 aj 1 t42 fun t44=>
 ag .eql t44 (I 0) fun t46=>
 ifB t46 (aE t18 fun t51=>
 ae 7 t51 fun t52=>
 ah t52 h4 fun t53=>
 ag .sub t43 t53 fun t54=>
 ao 1 1 [t54] fun t55=>
 C mF [(I 0)] h4 fun t48 h5=>
 (ah t52 h5 fun _t=>
 _t=t53)∧
 aq [(I 0),(.full 0 [])] [(0,1,t48),(1,1,t55)] fun t56=>
 C mJ [t56] h5 fun t57 h6=>
 qUn .not t57 fun t58=>
 ifB t58 (
 ao 1 1 [t18] fun t62=>
 bF 1 8 (an vs0 0) t62 h6 fun t63 h7=>
 cn t63 (an vs0 1) h7 next0) (
 cn (an vs0 0) (an vs0 1) h6 next0)) (
 cn (an vs0 0) (an vs0 1) h4 next0)))) (
 bd (an vs0 0) fun t66=>
 cC [(I 0)] h fun vs8 h next8=>mD t66 (an vs0 0) (an vs0 0) Q vs8 h next8)
def rt (a0:AV) (h:ab) (Q:QT):Prop:=
 aE a0 fun t11=>
 ae 0 t11 fun t12=>
 ah t12 h fun t13=>
 bd t13 fun t14=>
 cC [(.full 0 []),(I 0)] h fun vs0 h next0=>mu t14 t13 a0 Q vs0 h next0
theorem u5 (a0:AV) (h:ab) (Q:QT) (k:rt a0 h Q):C ju [a0] h Q:=
 okF (pl:=[(4,[3,5,6,7,15,16,17,18,19,20,21,22,23,24,25,26,27,28,29,30,31,32,33,34,35,36,37,38,39,40,41,42,43,44,45,46,47,48,49,50,51,52,53,54,55,56,57,58,59,60,61,62,63,64],[3,15]),(1000006,[0,2,3,4,5,6,7,8,9,1,10,11,12,13,14,15],[]),(1000007,[0,1,2,4,5,6,7,8,9,10,3,11,12,13,14],[]),(12,[9,67,68,69,70,71,72,73,74],[67])]) Tryz.func55 Tryz.ntmps55 (by kernel_rfl) rfl (by kernel_rfl) k
def ga (s6 s4 s39 s0:AV) (h:ab) (next6:NT):Prop:=
 C ep [s0,s6] h fun t66 h9=>
 ag .add s4 t66 fun t67=>
 ag .add s39 (I 1) fun t68=>
 next6 [t67,t68] h9
def jl (s7 s79:AV) (h:ab) (next13:NT):Prop:=
 ag .add s79 (I 1) fun t133=>
 next13 [s7,t133] h
def cL (s7 s79:AV) (h:ab) (next13:NT):Prop:=
 jl s7 s79 h next13
def nb (s78 s77 s0:AV) (next12:NT) (vs13:List AV) (h:ab) (next13:NT):Prop:=
 ag .lss (an vs13 1) s78 fun t80=>
 ifB t80 (
 am 1 s77 (an vs13 1) fun t81=>
 ah t81 h fun t82=>
 aE s0 fun t85=>
 ae 2 t85 fun t86=>
 ah t86 h fun t87=>
 aE t82 fun t89=>
 ae 1 t89 fun t90=>
 ae 4 t90 fun t91=>
 ah t91 h fun t92=>
 hY .string true (I 0) t87 t92 h fun t93=>
 aj 0 t93 fun t94=>
 aj 1 t93 fun t95=>
 aE t82 fun t97=>
 ae 1 t97 fun t98=>
 ae 2 t98 fun t99=>
 ah t99 h fun t100=>
 ag .neq t100 (I 9) fun t101=>
 ifB t101 (cL (an vs13 0) (an vs13 1) h next13) (
 ifB t95 (
 cL (an vs13 0) (an vs13 1) h next13) (
 aE t82 fun t109=>
 ae 7 t109 fun t110=>
 ah t110 h fun t111=>
 aE s0 fun t113=>
 ae 2 t113 fun t114=>
 ah t114 h fun t115=>
 C bj [t82] h fun t107 h16=>
 (ah t114 h16 fun _t=>
 _t=t115)∧
 (ah t110 h16 fun _t=>
 _t=t111)∧
 C eT [t107,t111,t115] h16 fun t116 h17=>
 aj 0 t116 fun t117=>
 aj 1 t116 fun t118=>
 ag .eql t118 (I 0) fun t120=>
 ifB t120 (
 aE s0 fun t122=>
 ae 2 t122 fun t123=>
 ah t123 h17 fun t124=>
 aE t82 fun t126=>
 ae 1 t126 fun t127=>
 ae 4 t127 fun t128=>
 ah t128 h17 fun t129=>
 mR .string (I 0) t124 t129 h17 fun t131 h18=>
 aj 1 t131 fun t132=>
 jH t124 t132 t117 h18 fun h19=>
 cL (B true) (an vs13 1) h19 next13) (
 cL (an vs13 0) (an vs13 1) h17 next13)))) (
 next12 [(an vs13 0)] h)
def fX (s0:AV) (Q:QT) (vs12:List AV) (h:ab) (next12:NT):Prop:=
 ifB (an vs12 0) (
 aE s0 fun t75=>
 ae 0 t75 fun t76=>
 ah t76 h fun t77=>
 bd t77 fun t78=>
 cC [(B false),(I 0)] h fun vs13 h next13=>nb t78 t77 s0 next12 vs13 h next13) (
 Q (.tup []) h)
def jb (s38 s37 s0:AV) (Q:QT) (vs6:List AV) (h:ab) (next6:NT):Prop:=
 ag .lss (an vs6 1) s38 fun t40=>
 ifB t40 (
 am 1 s37 (an vs6 1) fun t41=>
 ah t41 h fun t42=>
 aE t42 fun t45=>
 ae 7 t45 fun t46=>
 au 1 t46 (an vs6 0) h fun h7=>
 aE t42 fun t48=>
 ae 1 t48 fun t49=>
 ae 1 t49 fun t50=>
 ah t50 h7 fun t51=>
 ag .neq t51 (S ⟨#[]⟩) fun t52=>
 ifB t52 (
 aE s0 fun t54=>
 ae 2 t54 fun t55=>
 ah t55 h7 fun t56=>
 aE t42 fun t58=>
 ae 1 t58 fun t59=>
 ae 1 t59 fun t60=>
 ah t60 h7 fun t61=>
 dU .string t56 t61 (an vs6 0) h7 fun h8=>
 ga t42 (an vs6 0) (an vs6 1) s0 h8 next6) (
 ga t42 (an vs6 0) (an vs6 1) s0 h7 next6)) (
 aE s0 fun t71=>
 ae 4 t71 fun t72=>
 au 1 t72 (an vs6 0) h fun h11=>
 cC [(B true)] h11 fun vs12 h next12=>fX s0 Q vs12 h next12)
def nz (s22 s0:AV) (Q:QT) (h:ab) (next3:NT):Prop:=
 vz s22 h fun t23 h4=>
 aj 0 t23 fun t24=>
 ifB t24 (
 vw s22 h4 fun t25=>
 aj 0 t25 fun t26=>
 aj 1 t25 fun t27=>
 aE s0 fun t29=>
 ae 2 t29 fun t30=>
 ah t30 h4 fun t31=>
 dU .string t31 t26 t27 h4 fun h5=>
 next3 [] h5) (
 aE s0 fun t35=>
 ae 0 t35 fun t36=>
 ah t36 h4 fun t37=>
 bd t37 fun t38=>
 cC [(I 0),(I 0)] h4 fun vs6 h next6=>jb t38 t37 s0 Q vs6 h next6)
def sB (a0:AV) (h:ab) (Q:QT):Prop:=
 m5 h fun t15 h0=>
 aE a0 fun t16=>
 ae 2 t16 fun t17=>
 au 1 t17 t15 h0 fun h1=>
 aE a0 fun t19=>
 ae 1 t19 fun t20=>
 ah t20 h1 fun t21=>
 qr t21 h1 fun t22 h2=>
 cC [] h2 fun _ h next3=>nz t22 a0 Q h next3
theorem vM (a0:AV) (h:ab) (Q:QT) (k:sB a0 h Q):C gH [a0] h Q:=
 okF (pl:=[(3,[2,3,23,24,25,26,27,28,29,30,31,32,33],[]),(8,[4,6,39,40,41,42,43,44,45,46,47,48,49,50,51,52,53,54,55,56,57,58,59,60,61,62,63,64,65,66,67,68],[4,39]),(1000011,[0,1,2,3,4,5,6,7,8,9,10],[]),(17,[7,9,10,11,12,13,73,74,75,76,77,78,79,80,81,82,83,84,85,86,87,88,89,90,91,92,93,94,95,96,97,98,99,100,101,102,103,104,105,106,107,108,109,110,111,112,113,114,115,116,117,118,119,120,121,122,123,124,125,126,127,128,129,130,131,132,133],[7]),(20,[7,9,10,11,12,13,79,80,81,82,83,84,85,86,87,88,89,90,91,92,93,94,95,96,97,98,99,100,101,102,103,104,105,106,107,108,109,110,111,112,113,114,115,116,117,118,119,120,121,122,123,124,125,126,127,128,129,130,131,132,133],[7,79]),(1000021,[0,1,2,3,4,5,6,7,8,9,10,11,12,13,14],[]),(1000023,[0,2,3,4,5,6,7,8,9,1,10,11,12,13,14,15],[]),(1000025,[0,1,2,3,4,5,6,7,8,9,10,11,12,13],[])]) Tryz.func54 Tryz.ntmps54 (by kernel_rfl) rfl (by kernel_rfl) k
def fY (s5:AV) (h:ab) (Q:QT):Prop:=
 Q s5 h
def fW (s51 s0 s1:AV) (h:ab) (Q:QT):Prop:=
 ifB s51 (
 aE s0 fun t58=>
 ae 1 t58 fun t59=>
 ah t59 h fun t60=>
 C bj [s1] h fun t56 h1=>
 (ah t59 h1 fun _t=>
 _t=t60)∧
 C eT [t56,(I 0),t60] h1 fun t61 h2=>
 aj 0 t61 fun t62=>
 aj 1 t61 fun t63=>
 aE s1 fun t65=>
 ae 1 t65 fun t66=>
 ae 2 t66 fun t67=>
 ah t67 h2 fun t68=>
 ag .eql t68 (I 7) fun t69=>
 ifB t69 (
 aE s1 fun t72=>
 ae 7 t72 fun t73=>
 ah t73 h2 fun t74=>
 ag .rem t74 t62 fun t76=>
 ag .sub t62 t76 fun t77=>
 ag .rem t77 t62 fun t79=>
 fY t79 h2 Q) (
 fY t62 h2 Q)) (
 Q (I 0) h)
def ez (s26 s11 s0 s1:AV) (h:ab) (Q:QT):Prop:=
 ifB s26 (
 aE s1 fun t31=>
 ae 1 t31 fun t32=>
 ae 5 t32 fun t33=>
 ah t33 h fun t34=>
 bd t34 fun t35=>
 aE s1 fun t37=>
 ae 1 t37 fun t38=>
 ae 2 t38 fun t39=>
 ah t39 h fun t40=>
 ag .sub t40 (I 3) fun t41=>
 ag .shl t35 t41 fun t42=>
 Q t42 h) (
 ag .eql s11 (I 6) fun t44=>
 ifB t44 (
 aE s1 fun t46=>
 ae 1 t46 fun t47=>
 ae 4 t47 fun t48=>
 ah t48 h fun t49=>
 ce t49 fun t50=>
 Q t50 h) (
 ag .eql s11 (I 7) fun t52=>
 ifB t52 (
 fW t52 s0 s1 h Q) (
 ag .eql s11 (I 8) fun t53=>
 fW t53 s0 s1 h Q)))
def rv (a0 a1:AV) (h:ab) (Q:QT):Prop:=
 aE a1 fun t8=>
 ae 1 t8 fun t9=>
 ae 2 t9 fun t10=>
 ah t10 h fun t11=>
 ag .eql t11 (I 1) fun t13=>
 ifB t13 (
 aE a1 fun t15=>
 ae 1 t15 fun t16=>
 ae 3 t16 fun t17=>
 ah t17 h fun t18=>
 C nY [t18] h fun t19 h0=>
 Q t19 h0) (
 ag .eql t11 (I 2) fun t21=>
 ifB t21 (
 aE a1 fun t23=>
 ae 8 t23 fun t24=>
 ah t24 h fun t25=>
 ifB t25 (
 Q (I 4) h) (
 Q (I 2) h)) (
 ag .eql t11 (I 3) fun t27=>
 ifB t27 (
 ez t27 t11 a0 a1 h Q) (
 ag .eql t11 (I 4) fun t28=>
 ifB t28 (
 ez t28 t11 a0 a1 h Q) (
 ag .eql t11 (I 5) fun t29=>
 ez t29 t11 a0 a1 h Q))))
theorem vm (a0 a1:AV) (h:ab) (Q:QT) (k:rv a0 a1 h Q):C ep [a0,a1] h Q:=
 okF (pl:=[(1000011,[0,1,2,3,4,5,6,7,8,9,10,11,12,13],[]),(1000016,[0,2,3,4,5,1,6,7,8,9,10,11],[])]) Tryz.func22 Tryz.ntmps22 (by kernel_rfl) rfl (by kernel_rfl) k
def l7 (s0:AV) (Q:QT) (h:ab) (next1:NT):Prop:=
 C ju [s0] h fun t5 h2=>
 ifB t5 (
 C gH [s0] h2 fun t7 h3=>
 next1 [] h3) (
 aE s0 fun t9=>
 ae 4 t9 fun t10=>
 ah t10 h2 fun t11=>
 ag .gtr t11 (I 4096) fun t12=>
 ifB t12 (
 C aM [s0,(S ⟨#[]⟩),(I 0),(I 8)] h2 fun t14 h4=>
 Q (.tup []) h4) (
 Q (.tup []) h2))
def og (a0:AV) (h:ab) (Q:QT):Prop:=
 C gH [a0] h fun t3 h0=>
 cC [] h0 fun _ h next1=>l7 a0 Q h next1
theorem rM (a0:AV) (h:ab) (Q:QT) (k:og a0 h Q):C bP [a0] h Q:=
 okF (pl:=[(2,[4,5,6,7],[])]) Tryz.func33 Tryz.ntmps33 (by kernel_rfl) rfl (by kernel_rfl) k
def fo (s12:AV) (h:ab) (next0:NT):Prop:=
 ag .add s12 (I 1) fun t77=>
 next0 [t77] h
def aG (s12:AV) (h:ab) (next0:NT):Prop:=
 fo s12 h next0
def bq (s6 s5 s3 s12 s0:AV) (h:ab) (next0:NT):Prop:=
 C bj [s3] h fun t56 h6=>
 C d9 [t56] h6 fun t57 h7=>
 ifB t57 (aE s3 fun t68=>
 ae 0 t68 fun t69=>
 ah t69 h7 fun t70=>
 aE s3 fun t72=>
 ae 1 t72 fun t73=>
 ae 0 t73 fun t74=>
 ah t74 h7 fun t75=>
 C aM [s0,t70,t75,(I 3)] h7 fun t76 h8=>
 aG s12 h8 next0) (
 ag .neq s5 (I 0) fun t60=>
 ifB t60 (aE s3 fun t68=>
 ae 0 t68 fun t69=>
 ah t69 h7 fun t70=>
 aE s3 fun t72=>
 ae 1 t72 fun t73=>
 ae 0 t73 fun t74=>
 ah t74 h7 fun t75=>
 C aM [s0,t70,t75,(I 3)] h7 fun t76 h9=>
 aG s12 h9 next0) (
 qUn .not s6 fun t64=>
 ifB t64 (
 aE s3 fun t68=>
 ae 0 t68 fun t69=>
 ah t69 h7 fun t70=>
 aE s3 fun t72=>
 ae 1 t72 fun t73=>
 ae 0 t73 fun t74=>
 ah t74 h7 fun t75=>
 C aM [s0,t70,t75,(I 3)] h7 fun t76 h10=>
 aG s12 h10 next0) (
 aG s12 h7 next0)))
def lP (s6 s5 s3 s12 s0:AV) (h:ab) (next0:NT):Prop:=
 C bj [s3] h fun t56 h13=>
 C d9 [t56] h13 fun t57 h14=>
 ifB t57 (aE s3 fun t68=>
 ae 0 t68 fun t69=>
 ah t69 h14 fun t70=>
 aE s3 fun t72=>
 ae 1 t72 fun t73=>
 ae 0 t73 fun t74=>
 ah t74 h14 fun t75=>
 C aM [s0,t70,t75,(I 3)] h14 fun t76 h15=>
 aG s12 h15 next0) (
 ag .neq s5 (I 0) fun t60=>
 ifB t60 (aE s3 fun t68=>
 ae 0 t68 fun t69=>
 ah t69 h14 fun t70=>
 aE s3 fun t72=>
 ae 1 t72 fun t73=>
 ae 0 t73 fun t74=>
 ah t74 h14 fun t75=>
 C aM [s0,t70,t75,(I 3)] h14 fun t76 h16=>
 aG s12 h16 next0) (
 qUn .not s6 fun t64=>
 ifB t64 (
 aE s3 fun t68=>
 ae 0 t68 fun t69=>
 ah t69 h14 fun t70=>
 aE s3 fun t72=>
 ae 1 t72 fun t73=>
 ae 0 t73 fun t74=>
 ah t74 h14 fun t75=>
 C aM [s0,t70,t75,(I 3)] h14 fun t76 h17=>
 aG s12 h17 next0) (
 aG s12 h14 next0)))
def lD (s6 s5 s3 s12 s0:AV) (h:ab) (next0:NT):Prop:=
 C bj [s3] h fun t56 h22=>
 C d9 [t56] h22 fun t57 h23=>
 ifB t57 (aE s3 fun t68=>
 ae 0 t68 fun t69=>
 ah t69 h23 fun t70=>
 aE s3 fun t72=>
 ae 1 t72 fun t73=>
 ae 0 t73 fun t74=>
 ah t74 h23 fun t75=>
 C aM [s0,t70,t75,(I 3)] h23 fun t76 h24=>
 aG s12 h24 next0) (
 ag .neq s5 (I 0) fun t60=>
 ifB t60 (aE s3 fun t68=>
 ae 0 t68 fun t69=>
 ah t69 h23 fun t70=>
 aE s3 fun t72=>
 ae 1 t72 fun t73=>
 ae 0 t73 fun t74=>
 ah t74 h23 fun t75=>
 C aM [s0,t70,t75,(I 3)] h23 fun t76 h25=>
 aG s12 h25 next0) (
 qUn .not s6 fun t64=>
 ifB t64 (
 aE s3 fun t68=>
 ae 0 t68 fun t69=>
 ah t69 h23 fun t70=>
 aE s3 fun t72=>
 ae 1 t72 fun t73=>
 ae 0 t73 fun t74=>
 ah t74 h23 fun t75=>
 C aM [s0,t70,t75,(I 3)] h23 fun t76 h26=>
 aG s12 h26 next0) (
 aG s12 h23 next0)))
def lU (s6 s5 s3 s12 s0:AV) (h:ab) (next0:NT):Prop:=
 C bj [s3] h fun t56 h29=>
 C d9 [t56] h29 fun t57 h30=>
 ifB t57 (aE s3 fun t68=>
 ae 0 t68 fun t69=>
 ah t69 h30 fun t70=>
 aE s3 fun t72=>
 ae 1 t72 fun t73=>
 ae 0 t73 fun t74=>
 ah t74 h30 fun t75=>
 C aM [s0,t70,t75,(I 3)] h30 fun t76 h31=>
 aG s12 h31 next0) (
 ag .neq s5 (I 0) fun t60=>
 ifB t60 (aE s3 fun t68=>
 ae 0 t68 fun t69=>
 ah t69 h30 fun t70=>
 aE s3 fun t72=>
 ae 1 t72 fun t73=>
 ae 0 t73 fun t74=>
 ah t74 h30 fun t75=>
 C aM [s0,t70,t75,(I 3)] h30 fun t76 h32=>
 aG s12 h32 next0) (
 qUn .not s6 fun t64=>
 ifB t64 (
 aE s3 fun t68=>
 ae 0 t68 fun t69=>
 ah t69 h30 fun t70=>
 aE s3 fun t72=>
 ae 1 t72 fun t73=>
 ae 0 t73 fun t74=>
 ah t74 h30 fun t75=>
 C aM [s0,t70,t75,(I 3)] h30 fun t76 h33=>
 aG s12 h33 next0) (
 aG s12 h30 next0)))
def lW (s11 s10 s0:AV) (Q:QT) (vs0:List AV) (h:ab) (next0:NT):Prop:=
 ag .lss (an vs0 0) s11 fun t13=>
 ifB t13 (
 am 1 s10 (an vs0 0) fun t14=>
 ah t14 h fun t15=>
 aE t15 fun t17=>
 ae 1 t17 fun t18=>
 ae 2 t18 fun t19=>
 ah t19 h fun t20=>
 ag .neq t20 (I 7) fun t21=>
 ifB t21 (aE t15 fun t24=>
 ae 1 t24 fun t25=>
 ae 2 t25 fun t26=>
 ah t26 h fun t27=>
 ag .neq t27 (I 8) fun t28=>
 ifB t28 (
 aG (an vs0 0) h next0) (
 aE s0 fun t34=>
 ae 1 t34 fun t35=>
 ah t35 h fun t36=>
 C bj [t15] h fun t32 h3=>
 (ah t35 h3 fun _t=>
 _t=t36)∧
 C eT [t32,(I 0),t36] h3 fun t37 h4=>
 aj 0 t37 fun t38=>
 aj 1 t37 fun t39=>
 ag .geq t38 (I 0) fun t41=>
 ifB t41 (ag .leq t38 (I 1000) fun t44=>
 aE t15 fun t47=>
 ae 1 t47 fun t48=>
 ae 2 t48 fun t49=>
 ah t49 h4 fun t50=>
 ag .eql t50 (I 7) fun t51=>
 ifB t51 (
 ao 5 1 [(I 1),(I 2),(I 4),(I 8),(I 16)] fun t52=>
 C aX [t52,t38] h4 fun t54 h5=>
 bq t54 t39 t15 (an vs0 0) s0 h5 next0) (
 bq t44 t39 t15 (an vs0 0) s0 h4 next0)) (
 aE t15 fun t47=>
 ae 1 t47 fun t48=>
 ae 2 t48 fun t49=>
 ah t49 h4 fun t50=>
 ag .eql t50 (I 7) fun t51=>
 ifB t51 (
 ao 5 1 [(I 1),(I 2),(I 4),(I 8),(I 16)] fun t52=>
 C aX [t52,t38] h4 fun t54 h12=>
 lP t54 t39 t15 (an vs0 0) s0 h12 next0) (
 lP (B false) t39 t15 (an vs0 0) s0 h4 next0)))) (
 aE s0 fun t34=>
 ae 1 t34 fun t35=>
 ah t35 h fun t36=>
 C bj [t15] h fun t32 h19=>
 (ah t35 h19 fun _t=>
 _t=t36)∧
 C eT [t32,(I 0),t36] h19 fun t37 h20=>
 aj 0 t37 fun t38=>
 aj 1 t37 fun t39=>
 ag .geq t38 (I 0) fun t41=>
 ifB t41 (ag .leq t38 (I 1000) fun t44=>
 aE t15 fun t47=>
 ae 1 t47 fun t48=>
 ae 2 t48 fun t49=>
 ah t49 h20 fun t50=>
 ag .eql t50 (I 7) fun t51=>
 ifB t51 (
 ao 5 1 [(I 1),(I 2),(I 4),(I 8),(I 16)] fun t52=>
 C aX [t52,t38] h20 fun t54 h21=>
 lD t54 t39 t15 (an vs0 0) s0 h21 next0) (
 lD t44 t39 t15 (an vs0 0) s0 h20 next0)) (
 aE t15 fun t47=>
 ae 1 t47 fun t48=>
 ae 2 t48 fun t49=>
 ah t49 h20 fun t50=>
 ag .eql t50 (I 7) fun t51=>
 ifB t51 (
 ao 5 1 [(I 1),(I 2),(I 4),(I 8),(I 16)] fun t52=>
 C aX [t52,t38] h20 fun t54 h28=>
 lU t54 t39 t15 (an vs0 0) s0 h28 next0) (
 lU (B false) t39 t15 (an vs0 0) s0 h20 next0)))) (
 Q (.tup []) h)
def pY (a0:AV) (h:ab) (Q:QT):Prop:=
 aE a0 fun t8=>
 ae 0 t8 fun t9=>
 ah t9 h fun t10=>
 bd t10 fun t11=>
 cC [(I 0)] h fun vs0 h next0=>lW t11 t10 a0 Q vs0 h next0
theorem ul (a0:AV) (h:ab) (Q:QT) (k:pY a0 h Q):C bV [a0] h Q:=
 okF (pl:=[(2,[3,4,5,6,12,13,14,15,16,17,18,19,20,21,22,23,24,25,26,27,28,29,30,31,32,33,34,35,36,37,38,39,40,41,42,43,44,45,46,47,48,49,50,51,52,53,54,55,56,57,58,59,60,61,62,63,64,65,66,67,68,69,70,71,72,73,74,75,76,77],[12]),(1000004,[0,2,3,4,5,1,6,7,8,9,10,11],[]),(1000009,[0,1,2,3,4,5,6,7,8,9,10],[])]) Tryz.func32 Tryz.ntmps32 (by kernel_rfl) rfl (by kernel_rfl) k
def ri (a0 a1 a2 a3:AV) (h:ab) (Q:QT):Prop:=
 aE a0 fun t10=>
 ae 3 t10 fun t11=>
 ah t11 h fun t12=>
 aq [(S ⟨#[]⟩),(I 0),(I 0)] [(0,1,a1),(1,1,a2),(2,1,a3)] fun t16=>
 ao 1 3 [t16] fun t17=>
 bF 3 32 t12 t17 h fun t18 h0=>
 aE a0 fun t19=>
 ae 3 t19 fun t20=>
 au 1 t20 t18 h0 fun h1=>
 Q (.tup []) h1
theorem vi (a0 a1 a2 a3:AV) (h:ab) (Q:QT) (k:ri a0 a1 a2 a3 h Q):C aM [a0,a1,a2,a3] h Q:=
 okF (pl:=[]) Tryz.func51 Tryz.ntmps51 (by kernel_rfl) rfl (by kernel_rfl) k
def ix (s52:AV) (h:ab) (next7:NT):Prop:=
 ag .add s52 (I 1) fun t77=>
 next7 [t77] h
def fu (s52:AV) (h:ab) (next7:NT):Prop:=
 ix s52 h next7
def eO (s8 s52 s2:AV) (h:ab) (next7:NT):Prop:=
 hY .string false (I 0) s2 s8 h fun t75=>
 ag .add t75 (I 1) fun t76=>
 dU .string s2 s8 t76 h fun h11=>
 fu s52 h11 next7
def lK (s51 s50 s5 s26 s2 s0:AV) (next5:NT) (vs7:List AV) (h:ab) (next7:NT):Prop:=
 ag .lss (an vs7 0) s51 fun t53=>
 ifB t53 (
 am 1 s50 (an vs7 0) fun t54=>
 ah t54 h fun t55=>
 ag .eql t55 (S ⟨#[]⟩) fun t57=>
 ifB t57 (
 fu (an vs7 0) h next7) (
 hY .string false (I 0) s2 t55 h fun t60=>
 ag .gtr t60 (I 0) fun t61=>
 ifB t61 (
 aE s5 fun t64=>
 ae 0 t64 fun t65=>
 ah t65 h fun t66=>
 aE s5 fun t68=>
 ae 1 t68 fun t69=>
 ae 0 t69 fun t70=>
 ah t70 h fun t71=>
 C aM [s0,t66,t71,(I 2)] h fun t72 h10=>
 eO t55 (an vs7 0) s2 h10 next7) (
 eO t55 (an vs7 0) s2 h next7))) (
 ag .add s26 (I 1) fun t78=>
 next5 [t78] h)
def eK (s6 s5 s26 s2 s0:AV) (h:ab) (next5:NT):Prop:=
 bd s6 fun t51=>
 cC [(I 0)] h fun vs7 h next7=>lK t51 s6 s5 s26 s2 s0 next5 vs7 h next7
def lN (s25 s24 s2 s0:AV) (Q:QT) (vs5:List AV) (h:ab) (next5:NT):Prop:=
 ag .lss (an vs5 0) s25 fun t27=>
 ifB t27 (
 am 1 s24 (an vs5 0) fun t28=>
 ah t28 h fun t29=>
 aE t29 fun t31=>
 ae 1 t31 fun t32=>
 ae 1 t32 fun t33=>
 ah t33 h fun t34=>
 ao 1 1 [t34] fun t35=>
 aE t29 fun t37=>
 ae 1 t37 fun t38=>
 ae 2 t38 fun t39=>
 ah t39 h fun t40=>
 ag .eql t40 (I 9) fun t41=>
 ifB t41 (
 aE t29 fun t44=>
 ae 1 t44 fun t45=>
 ae 4 t45 fun t46=>
 ah t46 h fun t47=>
 ao 1 1 [t47] fun t48=>
 bF 1 16 t35 t48 h fun t49 h6=>
 eK t49 t29 (an vs5 0) s2 s0 h6 next5) (
 eK t35 t29 (an vs5 0) s2 s0 h next5)) (
 Q (.tup []) h)
def lO (s14 s2 s0:AV) (Q:QT) (h:ab) (next2:NT):Prop:=
 vz s14 h fun t15 h3=>
 aj 0 t15 fun t16=>
 ifB t16 (
 vw s14 h3 fun t17=>
 aj 0 t17 fun t18=>
 dU .string s2 t18 (I 1) h3 fun h4=>
 next2 [] h4) (
 aE s0 fun t22=>
 ae 0 t22 fun t23=>
 ah t23 h3 fun t24=>
 bd t24 fun t25=>
 cC [(I 0)] h3 fun vs5 h next5=>lN t25 t24 s2 s0 Q vs5 h next5)
def p8 (a0:AV) (h:ab) (Q:QT):Prop:=
 m5 h fun t9 h0=>
 aE a0 fun t11=>
 ae 1 t11 fun t12=>
 ah t12 h0 fun t13=>
 qr t13 h0 fun t14 h1=>
 cC [] h1 fun _ h next2=>lO t14 t9 a0 Q h next2
theorem uq (a0:AV) (h:ab) (Q:QT) (k:p8 a0 h Q):C bU [a0] h Q:=
 okF (pl:=[(3,[3,15,16,17,18,19,20],[]),(7,[5,6,8,26,27,28,29,30,31,32,33,34,35,36,37,38,39,40,41,42,43,44,45,46,47,48,49,50,51,52,53,54,55,56,57,58,59,60,61,62,63,64,65,66,67,68,69,70,71,72,73,74,75,76,77,78],[26]),(13,[8,52,53,54,55,56,57,58,59,60,61,62,63,64,65,66,67,68,69,70,71,72,73,74,75,76,77],[52]),(1000016,[0,1,2,3,4,5,6,7,8,9,10],[])]) Tryz.func31 Tryz.ntmps31 (by kernel_rfl) rfl (by kernel_rfl) k
def eV (s10 s9 s4 s5 s6 s17:AV) (h:ab) (next0:NT) (Q:QT):Prop:=
 ag .neq s10 (I 0) fun t40=>
 ifB t40 (
 Q (.tup [(.full 0 []),s10]) h) (
 ao 1 1 [s9] fun t44=>
 bF 1 8 s6 t44 h fun t45 h4=>
 ag .add s17 (I 1) fun t46=>
 next0 [s4,s5,t45,t46] h4)
def l6 (s16 s15 s0 s1:AV) (Q:QT) (vs0:List AV) (h:ab) (next0:NT):Prop:=
 ag .lss (an vs0 3) s16 fun t18=>
 ifB t18 (
 am 5 s15 (an vs0 3) fun t19=>
 ay 5 t19 h fun t20=>
 gK [(I 0),(I 0),(I 0),(S ⟨#[]⟩),(.full 0 [])] h fun t8 h1=>
 au 5 t8 t20 h1 fun h2=>
 ae 0 t8 fun t21=>
 ah t21 h2 fun t22=>
 ag .lss t22 (I 0) fun t24=>
 ifB t24 (
 ae 1 t8 fun t26=>
 ay 4 t26 h2 fun t27=>
 aE s1 fun t29=>
 ae 7 t29 fun t30=>
 ah t30 h2 fun t31=>
 aE s0 fun t33=>
 ae 2 t33 fun t34=>
 ah t34 h2 fun t35=>
 C eT [t27,t31,t35] h2 fun t36 h3=>
 aj 0 t36 fun t37=>
 aj 1 t36 fun t38=>
 eV t38 t37 (an vs0 0) (an vs0 1) (an vs0 2) (an vs0 3) h3 next0 Q) (
 eV (I 0) t22 (an vs0 0) (an vs0 1) (an vs0 2) (an vs0 3) h2 next0 Q)) (
 Q (.tup [(an vs0 2),(I 0)]) h)
def nJ (a0 a1:AV) (h:ab) (Q:QT):Prop:=
 aE a1 fun t12=>
 ae 1 t12 fun t13=>
 ae 5 t13 fun t14=>
 ah t14 h fun t15=>
 bd t15 fun t16=>
 cC [(.full 0 []),(I 0),(.full 0 []),(I 0)] h fun vs0 h next0=>l6 t16 t15 a0 a1 Q vs0 h next0
theorem tL (a0 a1:AV) (h:ab) (Q:QT) (k:nJ a0 a1 h Q):C eL [a0,a1] h Q:=
 okF (pl:=[(4,[4,5,6,8,9,10,17,18,19,20,21,22,23,24,25,26,27,28,29,30,31,32,33,34,35,36,37,38,39,40,41,42,43,44,45,46],[4,5,6,17]),(1000007,[0,1,2,3,4,5,6,7,8,9,10,11,12,13,14,15],[])]) Tryz.func35 Tryz.ntmps35 (by kernel_rfl) rfl (by kernel_rfl) k
def SU (h:ab) (Q:QT):Prop:=Q (I 0) h
def Dv (a1 t37:AV) (h:ab) (Q:QT):Prop:=
 aE a1 fun t94=>
 ae 1 t94 fun t95=>
 ae 2 t95 fun t96=>
 ah t96 h fun t97=>
 C pn [t97] h fun t98 h5=>
 aj 0 t98 fun t99=>
 aj 1 t98 fun t100=>
 C fQ [t37] h5 fun t102 h6=>
 ag .lss t102 t99 fun t104=>
 ifB t104 (Q (I 6) h6) (
 C gc [t37] h6 fun t107 h7=>
 ag .gtr t107 t100 fun t109=>
 ifB t109 (
 Q (I 6) h7) (
 SU h7 Q))
def Af (a1 t37:AV) (h:ab) (Q:QT):Prop:=
 aE a1 fun t71=>
 ae 1 t71 fun t72=>
 ae 2 t72 fun t73=>
 ah t73 h fun t74=>
 ag .eql t74 (I 3) fun t75=>
 ifB t75 (Dv a1 t37 h Q) (
 aE a1 fun t78=>
 ae 1 t78 fun t79=>
 ae 2 t79 fun t80=>
 ah t80 h fun t81=>
 ag .eql t81 (I 4) fun t82=>
 ifB t82 (Dv a1 t37 h Q) (
 aE a1 fun t86=>
 ae 1 t86 fun t87=>
 ae 2 t87 fun t88=>
 ah t88 h fun t89=>
 ag .eql t89 (I 5) fun t90=>
 ifB t90 (Dv a1 t37 h Q) (
 SU h Q)))
def Ak (a1 t37:AV) (h:ab) (Q:QT):Prop:=
 C gy [a1,t37] h fun t65 h3=>
 C mJ [t65] h3 fun t66 h4=>
 qUn .not t66 fun t67=>
 ifB t67 (
 Q (I 6) h4) (
 Af a1 t37 h4 Q)
def wrA (a1 t37 t38:AV) (h:ab) (Q:QT):Prop:=
 ag .neq t38 (I 0) fun t58=>
 ifB t58 (
 Q t38 h) (
 Ak a1 t37 h Q)
def wrB (t22 a1 t37 t38:AV) (h:ab) (Q:QT):Prop:=
 ag .neq t38 (I 0) fun t58=>
 ifB t58 (
 Q t38 h) (
 ifB t22 (Ak a1 t37 h Q) (Af a1 t37 h Q))
def A4 (a0 a1:AV) (tail:AV→QT) (h:ab) (Q:QT):Prop:=
 C eL [a0,a1] h fun t36 h0=>
 aj 0 t36 fun t37=>
 aj 1 t36 fun t38=>
 ag .eql t38 (I 4) fun t41=>
 ifB t41 (aE a1 fun t44=>
 ae 1 t44 fun t45=>
 ae 2 t45 fun t46=>
 ah t46 h0 fun t47=>
 ag .eql t47 (I 9) fun t48=>
 ifB t48 (C bj [a1] h0 fun t53 h1=>
 C fR [a0,t53] h1 fun t54 h2=>
 ifB t54 (
 Q (I 5) h2) (
 tail t37 t38 h2)) (
 tail t37 t38 h0)) (
 tail t37 t38 h0)
def pH (a0 a1:AV) (h:ab) (Q:QT):Prop:=
 aE a1 fun t11=>
 ae 1 t11 fun t12=>
 ae 2 t12 fun t13=>
 ah t13 h fun t14=>
 ag .eql t14 (I 1) fun t15=>
 ifB t15 (aE a1 fun t27=>
 ae 7 t27 fun t28=>
 ah t28 h fun t29=>
 ag .rem t29 (I 2) fun t30=>
 ag .neq t30 (I 0) fun t31=>
 ifB t31 (
 Q (I 7) h) (
 A4 a0 a1 (fun t37 t38 h=>wrA a1 t37 t38 h Q) h Q)) (
 aE a1 fun t18=>
 ae 1 t18 fun t19=>
 ae 2 t19 fun t20=>
 ah t20 h fun t21=>
 ag .eql t21 (I 2) fun t22=>
 ifB t22 (aE a1 fun t27=>
 ae 7 t27 fun t28=>
 ah t28 h fun t29=>
 ag .rem t29 (I 2) fun t30=>
 ag .neq t30 (I 0) fun t31=>
 ifB t31 (
 Q (I 7) h) (
 A4 a0 a1 (fun t37 t38 h=>wrB t22 a1 t37 t38 h Q) h Q)) (
 A4 a0 a1 (fun t37 t38 h=>wrB t22 a1 t37 t38 h Q) h Q))
theorem uj (a0 a1:AV) (h:ab) (Q:QT) (k:pH a0 a1 h Q):C iG [a0,a1] h Q:=
 okF (pl:=[]) Tryz.func56 Tryz.ntmps56 (by kernel_rfl) rfl (by kernel_rfl) k
def AB (a0:AV) (h:ab) (Q:QT):Prop:=
 ag .eql a0 (I 3) fun t6=>
 ifB t6 (
 Q (.tup [(I (-128)),(I 255)]) h) (
 ag .eql a0 (I 4) fun t8=>
 ifB t8 (
 Q (.tup [(I (-32768)),(I 65535)]) h) (
 Q (.tup [(I (-2147483648)),(I 4294967295)]) h))
theorem CO (a0:AV) (h:ab) (Q:QT) (k:AB a0 h Q):C pn [a0] h Q:=
 okF (pl:=[]) Tryz.func80 Tryz.ntmps80 (by kernel_rfl) rfl (by kernel_rfl) k
def k5 (a0 a1 a2:AV) (h:ab) (Q:QT):Prop:=
 lQ a0 h fun t3 h0=>
 ae 0 t3 fun t13=>
 ah t13 h0 fun t14=>
 ag .eql t14 (I 1) fun t15=>
 ifB t15 (
 ae 1 t3 fun t16=>
 ah t16 h0 fun t17=>
 C cq [t17] h0 fun t18 h1=>
 aj 0 t18 fun t19=>
 aj 1 t18 fun t20=>
 Q (.tup [t19,t20]) h1) (
 ae 0 t3 fun t22=>
 ah t22 h0 fun t23=>
 ag .eql t23 (I 3) fun t24=>
 ifB t24 (
 C cq [a1] h0 fun t26 h2=>
 aj 0 t26 fun t27=>
 aj 1 t26 fun t28=>
 Q (.tup [t27,t28]) h2) (
 ae 0 t3 fun t30=>
 ah t30 h0 fun t31=>
 ag .eql t31 (I 2) fun t32=>
 ifB t32 (
 C cy [a2,(.fn (.func m1) [] [t3])] h0 fun t35 h3=>
 ag .lss t35 (I 0) fun t37=>
 ifB t37 (
 Q (.tup [(I 0),(I 4)]) h3) (
 am 2 a2 t35 fun t40=>
 ae 1 t40 fun t41=>
 ah t41 h3 fun t42=>
 C cq [t42] h3 fun t43 h4=>
 aj 0 t43 fun t44=>
 aj 1 t43 fun t45=>
 Q (.tup [t44,t45]) h4)) (
 ae 3 t3 fun t47=>
 ah t47 h0 fun t48=>
 bd t48 fun t49=>
 ag .eql t49 (I 0) fun t50=>
 ifB t50 (
 Q (.tup [(I 0),(I 6)]) h0) (
 ae 3 t3 fun t52=>
 ah t52 h0 fun t53=>
 am 4 t53 (I 0) fun t54=>
 ay 4 t54 h0 fun t55=>
 C j7 [t55,a1,a2] h0 fun t58 h5=>
 aj 0 t58 fun t59=>
 aj 1 t58 fun t60=>
 ag .neq t60 (I 0) fun t63=>
 ifB t63 (
 Q (.tup [(I 0),t60]) h5) (
 ae 3 t3 fun t66=>
 ah t66 h5 fun t67=>
 bd t67 fun t68=>
 ag .eql t68 (I 1) fun t69=>
 ifB t69 (
 qUn .neg t59 fun t71=>
 C cq [t71] h5 fun t72 h6=>
 aj 0 t72 fun t73=>
 aj 1 t72 fun t74=>
 Q (.tup [t73,t74]) h6) (
 ae 3 t3 fun t76=>
 ah t76 h5 fun t77=>
 am 4 t77 (I 1) fun t78=>
 ay 4 t78 h5 fun t79=>
 C j7 [t79,a1,a2] h5 fun t82 h7=>
 aj 0 t82 fun t83=>
 aj 1 t82 fun t84=>
 ag .neq t84 (I 0) fun t86=>
 ifB t86 (
 Q (.tup [(I 0),t84]) h7) (
 ae 0 t3 fun t88=>
 ah t88 h7 fun t89=>
 C qq [t89,t59,t83] h7 fun t92 h8=>
 aj 0 t92 fun t93=>
 aj 1 t92 fun t94=>
 Q (.tup [t93,t94]) h8)))))))
theorem hQ (a0 a1 a2:AV) (h:ab) (Q:QT) (k:k5 a0 a1 a2 h Q):C j7 [a0,a1,a2] h Q:=
 okF (pl:=[]) Tryz.func63 Tryz.ntmps63 (by kernel_rfl) rfl (by kernel_rfl) k
def yk (a0 a1:AV) (h:ab) (Q:QT):Prop:=
 lQ a0 h fun t2 h0=>
 ae 0 t2 fun t4=>
 ah t4 h0 fun t5=>
 ae 2 a1 fun t6=>
 ah t6 h0 fun t7=>
 ag .eql t5 t7 fun t8=>
 Q t8 h0
theorem zZ (a0 a1:AV) (h:ab) (Q:QT) (k:yk a0 a1 h Q):C m1 [a0,a1] h Q:=
 okF (pl:=[]) Tryz.func98 Tryz.ntmps98 (by kernel_rfl) rfl (by kernel_rfl) k
def oG (s3 s26:AV) (h:ab) (next6:NT):Prop:=
 ag .add s26 (I 1) fun t38=>
 next6 [s3,t38] h
def jZ (s3 s26:AV) (h:ab) (next6:NT):Prop:=
 oG s3 s26 h next6
def rG (s25 s24 s19:AV) (next2:NT) (vs6:List AV) (h:ab) (next6:NT):Prop:=
 ag .lss (an vs6 1) s25 fun t27=>
 ifB t27 (
 am 1 s24 (an vs6 1) fun t28=>
 ah t28 h fun t29=>
 C cS [(an vs6 0),t29] h fun t32 h7=>
 qUn .not t32 fun t33=>
 ifB t33 (
 ao 1 1 [t29] fun t36=>
 bF 1 16 (an vs6 0) t36 h7 fun t37 h8=>
 jZ t37 (an vs6 1) h8 next6) (
 jZ (an vs6 0) (an vs6 1) h7 next6)) (
 ag .add s19 (I 1) fun t39=>
 next2 [(an vs6 0),t39] h)
def tK (s18 s17:AV) (Q:QT) (vs2:List AV) (h:ab) (next2:NT):Prop:=
 ag .lss (an vs2 1) s18 fun t20=>
 ifB t20 (
 am 4 s17 (an vs2 1) fun t21=>
 ay 4 t21 h fun t22=>
 gK [(I 0),(I 0),(S ⟨#[]⟩),(.full 0 [])] h fun t5 h3=>
 au 4 t5 t22 h3 fun h4=>
 ay 4 t5 h4 fun t23=>
 C iZ [t23] h4 fun t24 h5=>
 bd t24 fun t25=>
 cC [(an vs2 0),(I 0)] h5 fun vs6 h next6=>rG t25 t24 (an vs2 1) next2 vs6 h next6) (
 C du [(an vs2 0)] h fun t41 h12=>
 Q t41 h12)
def kw (s3 s1:AV) (h:ab) (Q:QT):Prop:=
 ae 3 s1 fun t16=>
 ah t16 h fun t17=>
 bd t17 fun t18=>
 cC [s3,(I 0)] h fun vs2 h next2=>tK t18 t17 Q vs2 h next2
def z6 (a0:AV) (h:ab) (Q:QT):Prop:=
 lQ a0 h fun t1 h0=>
 ae 0 t1 fun t8=>
 ah t8 h0 fun t9=>
 ag .eql t9 (I 2) fun t10=>
 ifB t10 (
 ae 2 t1 fun t12=>
 ah t12 h0 fun t13=>
 ao 1 1 [t13] fun t14=>
 bF 1 16 (.full 0 []) t14 h0 fun t15 h1=>
 kw t15 t1 h1 Q) (
 kw (.full 0 []) t1 h0 Q)
theorem Cz (a0:AV) (h:ab) (Q:QT) (k:z6 a0 h Q):C iZ [a0] h Q:=
 okF (pl:=[(6,[3,5,7,19,20,21,22,23,24,25,26,27,28,29,30,31,32,33,34,35,36,37,38,39],[3,19]),(9,[3,7,26,27,28,29,30,31,32,33,34,35,36,37,38],[3,26])]) Tryz.func62 Tryz.ntmps62 (by kernel_rfl) rfl (by kernel_rfl) k
def zT (a0:AV) (h:ab) (Q:QT):Prop:=
 gK [(I 0),(I 0),(S ⟨#[]⟩),(.full 0 [])] h fun t2 h0=>
 aq [(S ⟨#[]⟩),(I 0),(B false)] [(0,1,a0)] fun t6=>
 lQ t6 h0 fun t7 h1=>
 C cj [t7,(I 0)] h1 fun t9 h2=>
 au 4 t2 t9 h2 fun h3=>
 C eA [t7] h3 fun t11 h4=>
 aE t7 fun t13=>
 ae 2 t13 fun t14=>
 ah t14 h4 fun t15=>
 ifB t15 (aq [(I 0),(I 0),(S ⟨#[]⟩),(.full 0 [])] [] fun t23=>
 au 4 t2 t23 h4 fun h5=>
 ay 4 t2 h5 fun r6=>
 Q (.tup [r6,(B false)]) h5) (
 aE t7 fun t18=>
 ae 0 t18 fun t19=>
 ah t19 h4 fun t20=>
 ag .neq t20 (S ⟨#[]⟩) fun t21=>
 ifB t21 (
 aq [(I 0),(I 0),(S ⟨#[]⟩),(.full 0 [])] [] fun t23=>
 au 4 t2 t23 h4 fun h7=>
 ay 4 t2 h7 fun r8=>
 Q (.tup [r8,(B false)]) h7) (
 ay 4 t2 h4 fun t24=>
 au 4 t2 t24 h4 fun h9=>
 ay 4 t2 h9 fun r10=>
 Q (.tup [r10,(B true)]) h9))
theorem Cl (a0:AV) (h:ab) (Q:QT) (k:zT a0 h Q):C oC [a0] h Q:=
 okF (pl:=[]) Tryz.func177 Tryz.ntmps177 (by kernel_rfl) rfl (by kernel_rfl) k
def Bn (s8 s0 s1:AV) (Q:QT) (vs1:List AV) (h:ab) (next1:NT):Prop:=
 vk s8 h fun t9 h2=>
 aj 0 t9 fun t10=>
 ifB t10 (
 aj 1 t9 fun t11=>
 aj 2 t9 fun t12=>
 CV s1 [t12] h2 fun t15 h3=>
 qUn .not t15 fun t16=>
 ifB t16 (
 bk s0 none (some t11) fun t19=>
 Q t19 h3) (
 next1 [(an vs1 0)] h3)) (
 Q s0 h2)
def LJ (a0 a1:AV) (h:ab) (Q:QT):Prop:=
 qg a0 h fun t8 h0=>
 cC [(S ⟨#[]⟩)] h0 fun vs1 h next1=>Bn t8 a0 a1 Q vs1 h next1
theorem J8 (a0 a1:AV) (h:ab) (Q:QT) (k:LJ a0 a1 h Q):C cx [a0,a1] h Q:=
 okF (pl:=[(3,[4,5,6,9,10,11,12,13,14,15,16,17,18,19],[4])]) Tryz.func215 Tryz.ntmps215 (by kernel_rfl) rfl (by kernel_rfl) k
def C6 (a0 a1 a2:AV) (h:ab) (Q:QT):Prop:=
 ag .eql a0 (I 5) fun t10=>
 ifB t10 (
 ag .add a1 a2 fun t13=>
 C cq [t13] h fun t14 h0=>
 aj 0 t14 fun t15=>
 aj 1 t14 fun t16=>
 Q (.tup [t15,t16]) h0) (
 ag .eql a0 (I 6) fun t18=>
 ifB t18 (
 ag .sub a1 a2 fun t21=>
 C cq [t21] h fun t22 h1=>
 aj 0 t22 fun t23=>
 aj 1 t22 fun t24=>
 Q (.tup [t23,t24]) h1) (
 ag .eql a0 (I 7) fun t26=>
 ifB t26 (
 C ll [a1,a2] h fun t29 h2=>
 aj 0 t29 fun t30=>
 aj 1 t29 fun t31=>
 Q (.tup [t30,t31]) h2) (
 ag .eql a0 (I 8) fun t33=>
 ifB t33 (
 ag .and a1 a2 fun t36=>
 C cq [t36] h fun t37 h3=>
 aj 0 t37 fun t38=>
 aj 1 t37 fun t39=>
 Q (.tup [t38,t39]) h3) (
 ag .eql a0 (I 9) fun t41=>
 ifB t41 (
 ag .or a1 a2 fun t44=>
 C cq [t44] h fun t45 h4=>
 aj 0 t45 fun t46=>
 aj 1 t45 fun t47=>
 Q (.tup [t46,t47]) h4) (
 ag .lss a2 (I 0) fun t49=>
 ifB t49 (Q (.tup [(I 0),(I 6)]) h) (
 ag .gtr a2 (I 40) fun t52=>
 ifB t52 (
 Q (.tup [(I 0),(I 6)]) h) (
 ag .eql a0 (I 11) fun t55=>
 ifB t55 (
 ag .shr a1 a2 fun t58=>
 C cq [t58] h fun t59 h5=>
 aj 0 t59 fun t60=>
 aj 1 t59 fun t61=>
 Q (.tup [t60,t61]) h5) (
 ag .shl (I 1) a2 fun t64=>
 C ll [a1,t64] h fun t65 h6=>
 aj 0 t65 fun t66=>
 aj 1 t65 fun t67=>
 Q (.tup [t66,t67]) h6))))))))
theorem FV (a0 a1 a2:AV) (h:ab) (Q:QT) (k:C6 a0 a1 a2 h Q):C qq [a0,a1,a2] h Q:=
 okF (pl:=[]) Tryz.func99 Tryz.ntmps99 (by kernel_rfl) rfl (by kernel_rfl) k
def Bs (a0:AV) (h:ab) (Q:QT):Prop:=
 ag .lss a0 (I (-1099511627776)) fun t5=>
 ifB t5 (Q (.tup [(I 0),(I 6)]) h) (
 ag .gtr a0 (I 1099511627776) fun t8=>
 ifB t8 (
 Q (.tup [(I 0),(I 6)]) h) (
 Q (.tup [a0,(I 0)]) h))
theorem Ck (a0:AV) (h:ab) (Q:QT) (k:Bs a0 h Q):C cq [a0] h Q:=
 okF (pl:=[]) Tryz.func96 Tryz.ntmps96 (by kernel_rfl) rfl (by kernel_rfl) k
def BV (a0:AV) (h:ab) (Q:QT):Prop:=
 ag .geq a0 (.lit (.int .i32 48)) fun t4=>
 ifB t4 (ag .leq a0 (.lit (.int .i32 57)) fun t7=>
 Q t7 h) (
 Q (B false) h)
theorem Cu (a0:AV) (h:ab) (Q:QT) (k:BV a0 h Q):C cG [a0] h Q:=
 okF (pl:=[]) Tryz.func219 Tryz.ntmps219 (by kernel_rfl) rfl (by kernel_rfl) k
def Ip (a0:AV) (h:ab) (Q:QT):Prop:=
 C cG [a0] h fun t4 h0=>
 ifB t4 (Q (B true) h0) (
 ag .geq a0 (.lit (.int .i32 97)) fun t7=>
 ifT t7 (ag .leq a0 (.lit (.int .i32 102)) fun t10=>
 Q t10 h0) (
 Q (B false) h0) (
 ifB (.tup []) (Q (.tup []) h0) (Q (B false) h0)))
theorem Ir (a0:AV) (h:ab) (Q:QT) (k:Ip a0 h Q):C jD [a0] h Q:=
 okF (pl:=[]) Tryz.func216 Tryz.ntmps216 (by kernel_rfl) rfl (by kernel_rfl) k
def zX (a0:AV) (h:ab) (Q:QT):Prop:=
 C o6 [a0] h fun t4 h0=>
 ifB t4 (Q (B true) h0) (
 C cG [a0] h0 fun t7 h1=>
 Q t7 h1)
theorem Ce (a0:AV) (h:ab) (Q:QT) (k:zX a0 h Q):C dF [a0] h Q:=
 okF (pl:=[]) Tryz.func220 Tryz.ntmps220 (by kernel_rfl) rfl (by kernel_rfl) k
def yR (h:ab) (Q:QT):Prop:=
 ao 1 1 [(I 9)] fun t1=>
 ao 1 1 [(I 8)] fun t2=>
 ao 2 1 [(I 10),(I 11)] fun t3=>
 ao 2 1 [(I 5),(I 6)] fun t4=>
 ao 1 1 [(I 7)] fun t5=>
 ao 5 1 [t1,t2,t3,t4,t5] fun t6=>
 Q t6 h
theorem z7 (h:ab) (Q:QT) (k:yR  h Q):C gL [] h Q:=
 okF (pl:=[]) Tryz.func203 Tryz.ntmps203 (by kernel_rfl) rfl (by kernel_rfl) k
def j4 (a0 a1:AV) (h:ab) (Q:QT):Prop:=
 lQ a1 h fun t3 h0=>
 gK [(I 0),(I 0),(S ⟨#[]⟩),(.full 0 [])] h0 fun t4 h1=>
 aE a0 fun t6=>
 ae 0 t6 fun t7=>
 ah t7 h1 fun t8=>
 C cx [t8,(.fn (.func dF) [] [])] h1 fun t9 h2=>
 ag .neq t9 (S ⟨#[]⟩) fun t10=>
 ifB t10 (
 C bK [a0] h2 fun t12 h3=>
 au 4 t4 t12 h3 fun h4=>
 ay 4 t4 h4 fun r5=>
 Q r5 h4) (
 ay 4 t3 h2 fun t13=>
 au 4 t4 t13 h2 fun h6=>
 ay 4 t4 h6 fun r7=>
 Q r7 h6)
theorem lX (a0 a1:AV) (h:ab) (Q:QT) (k:j4 a0 a1 h Q):C co [a0,a1] h Q:=
 okF (pl:=[]) Tryz.func217 Tryz.ntmps217 (by kernel_rfl) rfl (by kernel_rfl) k
def na (a0:AV) (h:ab) (Q:QT):Prop:=
 aE a0 fun t4=>
 ae 0 t4 fun t5=>
 ah t5 h fun t6=>
 C ir [t6,(S ⟨#[32]⟩)] h fun t7 h0=>
 aE a0 fun t8=>
 ae 0 t8 fun t9=>
 au 1 t9 t7 h0 fun h1=>
 Q (.tup []) h1
theorem rD (a0:AV) (h:ab) (Q:QT) (k:na a0 h Q):C eA [a0] h Q:=
 okF (pl:=[]) Tryz.func191 Tryz.ntmps191 (by kernel_rfl) rfl (by kernel_rfl) k
def pP (a0:AV) (h:ab) (Q:QT):Prop:=
 gK [(I 0),(I 0),(S ⟨#[]⟩),(.full 0 [])] h fun t2 h0=>
 aE a0 fun t4=>
 ae 2 t4 fun t5=>
 au 1 t5 (B true) h0 fun h1=>
 aq [(I 0),(I 0),(S ⟨#[]⟩),(.full 0 [])] [] fun t6=>
 au 4 t2 t6 h1 fun h2=>
 ay 4 t2 h2 fun r3=>
 Q r3 h2
theorem ut (a0:AV) (h:ab) (Q:QT) (k:pP a0 h Q):C bK [a0] h Q:=
 okF (pl:=[]) Tryz.func222 Tryz.ntmps222 (by kernel_rfl) rfl (by kernel_rfl) k
def oe (a0:AV) (h:ab) (Q:QT):Prop:=
 gK [(I 0),(I 0),(S ⟨#[]⟩),(.full 0 [])] h fun t2 h0=>
 C cj [a0,(I 0)] h0 fun t5 h1=>
 gK [(I 0),(I 0),(S ⟨#[]⟩),(.full 0 [])] h1 fun t3 h2=>
 au 4 t3 t5 h2 fun h3=>
 C bZ [a0,(S ⟨#[41]⟩)] h3 fun t7 h4=>
 qUn .not t7 fun t8=>
 ifB t8 (
 C bK [a0] h4 fun t10 h5=>
 au 4 t2 t10 h5 fun h6=>
 ay 4 t2 h6 fun r7=>
 Q r7 h6) (
 ay 4 t3 h4 fun t11=>
 au 4 t2 t11 h4 fun h8=>
 ay 4 t2 h8 fun r9=>
 Q r9 h8)
theorem sL (a0:AV) (h:ab) (Q:QT) (k:oe a0 h Q):C eP [a0] h Q:=
 okF (pl:=[]) Tryz.func212 Tryz.ntmps212 (by kernel_rfl) rfl (by kernel_rfl) k
def iJ (s8 s7 s0:AV) (Q:QT) (vs0:List AV) (h:ab) (next0:NT):Prop:=
 ag .lss (an vs0 1) s8 fun t10=>
 ifB t10 (
 am 1 s7 (an vs0 1) fun t11=>
 ah t11 h fun t12=>
 C pj [] h fun t14 h1=>
 am 1 t14 t12 fun t16=>
 ah t16 h1 fun t17=>
 C bZ [s0,t17] h1 fun t18 h2=>
 ifB t18 (
 Q t12 h2) (
 ag .add (an vs0 1) (I 1) fun t20=>
 next0 [(an vs0 0),t20] h2)) (
 Q (I 0) h)
def kV (a0 a1:AV) (h:ab) (Q:QT):Prop:=
 bd a1 fun t8=>
 cC [(I 0),(I 0)] h fun vs0 h next0=>iJ t8 a1 a0 Q vs0 h next0
theorem mj (a0 a1:AV) (h:ab) (Q:QT) (k:kV a0 a1 h Q):C d5 [a0,a1] h Q:=
 okF (pl:=[(3,[4,6,9,10,11,12,13,14,15,16,17,18,19,20],[4,9])]) Tryz.func205 Tryz.ntmps205 (by kernel_rfl) rfl (by kernel_rfl) k
def nO (a0:AV) (h:ab) (Q:QT):Prop:=
 gK [(I 0),(I 0),(S ⟨#[]⟩),(.full 0 [])] h fun t2 h0=>
 C cK [a0] h0 fun t4 h1=>
 ao 1 4 [t4] fun t5=>
 aq [(I 0),(I 0),(S ⟨#[]⟩),(.full 0 [])] [(0,1,(I 4)),(3,1,t5)] fun t6=>
 au 4 t2 t6 h1 fun h2=>
 ay 4 t2 h2 fun r3=>
 Q r3 h2
theorem rZ (a0:AV) (h:ab) (Q:QT) (k:nO a0 h Q):C eU [a0] h Q:=
 okF (pl:=[]) Tryz.func213 Tryz.ntmps213 (by kernel_rfl) rfl (by kernel_rfl) k
def eC (s10 s7 s6 s0 s2:AV) (h:ab) (next2:NT) (Q:QT):Prop:=
 ag .mul s7 s2 fun t27=>
 ag .add t27 s10 fun t29=>
 ag .geq t29 (I 4294967296) fun t31=>
 ifB t31 (
 C bK [s0] h fun t33 h4=>
 au 4 s6 t33 h4 fun h5=>
 ay 4 s6 h5 fun r6=>
 Q r6 h5) (
 next2 [t29] h)
def ku (s12 s6 s0 s1 s2:AV) (Q:QT) (vs2:List AV) (h:ab) (next2:NT):Prop:=
 vk s12 h fun t13 h3=>
 aj 0 t13 fun t14=>
 ifB t14 (
 aj 2 t13 fun t15=>
 ag .sub t15 (.lit (.int .i32 48)) fun t17=>
 ct .i64 t17 fun t18=>
 ag .geq t15 (.lit (.int .i32 97)) fun t20=>
 ifB t20 (
 ag .sub t15 (.lit (.int .i32 97)) fun t22=>
 ct .i64 t22 fun t23=>
 ag .add t23 (I 10) fun t24=>
 eC t24 (an vs2 0) s6 s0 s2 h3 next2 Q) (
 eC t18 (an vs2 0) s6 s0 s2 h3 next2 Q)) (
 aE s0 fun t36=>
 ae 0 t36 fun t37=>
 ah t37 h3 fun t38=>
 ce s1 fun t40=>
 bk t38 (some t40) none fun t41=>
 aE s0 fun t42=>
 ae 0 t42 fun t43=>
 au 1 t43 t41 h3 fun h8=>
 aq [(I 0),(I 0),(S ⟨#[]⟩),(.full 0 [])] [(0,1,(I 1)),(1,1,(an vs2 0))] fun t45=>
 au 4 s6 t45 h8 fun h9=>
 ay 4 s6 h9 fun r10=>
 Q r10 h9)
def nD (a0 a1 a2:AV) (h:ab) (Q:QT):Prop:=
 gK [(I 0),(I 0),(S ⟨#[]⟩),(.full 0 [])] h fun t6 h0=>
 qg a1 h0 fun t12 h1=>
 cC [(I 0)] h1 fun vs2 h next2=>ku t12 t6 a0 a1 a2 Q vs2 h next2
theorem rC (a0 a1 a2:AV) (h:ab) (Q:QT) (k:nD a0 a1 a2 h Q):C cb [a0,a1,a2] h Q:=
 okF (pl:=[(4,[7,9,10,13,14,15,16,17,18,19,20,21,22,23,24,25,26,27,28,29,30,31,32,33],[7])]) Tryz.func218 Tryz.ntmps218 (by kernel_rfl) rfl (by kernel_rfl) k
def rn (a0:AV) (h:ab) (Q:QT):Prop:=
 gK [(I 0),(I 0),(S ⟨#[]⟩),(.full 0 [])] h fun t2 h0=>
 C bZ [a0,(S ⟨#[40]⟩)] h0 fun t7 h1=>
 ifB t7 (
 C cF [a0,(.fn (.func eP) [a0] [])] h1 fun t11 h2=>
 au 4 t2 t11 h2 fun h3=>
 ay 4 t2 h3 fun r4=>
 Q r4 h3) (
 C bZ [a0,(S ⟨#[45]⟩)] h1 fun t14 h5=>
 ifB t14 (
 C cF [a0,(.fn (.func eU) [a0] [])] h5 fun t18 h6=>
 au 4 t2 t18 h6 fun h7=>
 ay 4 t2 h7 fun r8=>
 Q r8 h7) (
 C bZ [a0,(S ⟨#[46]⟩)] h5 fun t21 h9=>
 ifB t21 (
 aq [(I 0),(I 0),(S ⟨#[]⟩),(.full 0 [])] [(0,1,(I 3))] fun t22=>
 au 4 t2 t22 h9 fun h10=>
 ay 4 t2 h10 fun r11=>
 Q r11 h10) (
 aE a0 fun t25=>
 ae 2 t25 fun t26=>
 ah t26 h9 fun t27=>
 ifB t27 (
 aq [(I 0),(I 0),(S ⟨#[]⟩),(.full 0 [])] [] fun t28=>
 au 4 t2 t28 h9 fun h12=>
 ay 4 t2 h12 fun r13=>
 Q r13 h12) (
 aE a0 fun t30=>
 ae 0 t30 fun t31=>
 ah t31 h9 fun t32=>
 C eM [t32,(S ⟨#[48,120]⟩)] h9 fun t33 h14=>
 ifB t33 (aE a0 fun t36=>
 ae 0 t36 fun t37=>
 ah t37 h14 fun t38=>
 bk t38 (some (I 2)) none fun t39=>
 C cx [t39,(.fn (.func jD) [] [])] h14 fun t40 h15=>
 ag .neq t40 (S ⟨#[]⟩) fun t41=>
 ifB t41 (
 aE a0 fun t45=>
 ae 0 t45 fun t46=>
 ah t46 h15 fun t47=>
 bk t47 (some (I 2)) none fun t48=>
 aE a0 fun t49=>
 ae 0 t49 fun t50=>
 au 1 t50 t48 h15 fun h16=>
 aE a0 fun t54=>
 ae 0 t54 fun t55=>
 ah t55 h16 fun t56=>
 C cx [t56,(.fn (.func jD) [] [])] h16 fun t57 h17=>
 C cb [a0,t57,(I 16)] h17 fun t58 h18=>
 C co [a0,t58] h18 fun t59 h19=>
 au 4 t2 t59 h19 fun h20=>
 ay 4 t2 h20 fun r21=>
 Q r21 h20) (
 aE a0 fun t61=>
 ae 0 t61 fun t62=>
 ah t62 h15 fun t63=>
 C cx [t63,(.fn (.func cG) [] [])] h15 fun t64 h22=>
 ag .neq t64 (S ⟨#[]⟩) fun t66=>
 ifB t66 (
 C cb [a0,t64,(I 10)] h22 fun t70 h23=>
 C co [a0,t70] h23 fun t71 h24=>
 au 4 t2 t71 h24 fun h25=>
 ay 4 t2 h25 fun r26=>
 Q r26 h25) (
 aE a0 fun t73=>
 ae 0 t73 fun t74=>
 ah t74 h22 fun t75=>
 C cx [t75,(.fn (.func dF) [] [])] h22 fun t76 h27=>
 C j6 [t76] h27 fun t78 h28=>
 ifB t78 (
 aE a0 fun t81=>
 ae 0 t81 fun t82=>
 ah t82 h28 fun t83=>
 ce t76 fun t85=>
 bk t83 (some t85) none fun t86=>
 aE a0 fun t87=>
 ae 0 t87 fun t88=>
 au 1 t88 t86 h28 fun h29=>
 aq [(I 0),(I 0),(S ⟨#[]⟩),(.full 0 [])] [(0,1,(I 2)),(2,1,t76)] fun t90=>
 au 4 t2 t90 h29 fun h30=>
 ay 4 t2 h30 fun r31=>
 Q r31 h30) (
 C bK [a0] h28 fun t92 h32=>
 au 4 t2 t92 h32 fun h33=>
 ay 4 t2 h33 fun r34=>
 Q r34 h33)))) (
 aE a0 fun t61=>
 ae 0 t61 fun t62=>
 ah t62 h14 fun t63=>
 C cx [t63,(.fn (.func cG) [] [])] h14 fun t64 h35=>
 ag .neq t64 (S ⟨#[]⟩) fun t66=>
 ifB t66 (
 C cb [a0,t64,(I 10)] h35 fun t70 h36=>
 C co [a0,t70] h36 fun t71 h37=>
 au 4 t2 t71 h37 fun h38=>
 ay 4 t2 h38 fun r39=>
 Q r39 h38) (
 aE a0 fun t73=>
 ae 0 t73 fun t74=>
 ah t74 h35 fun t75=>
 C cx [t75,(.fn (.func dF) [] [])] h35 fun t76 h40=>
 C j6 [t76] h40 fun t78 h41=>
 ifB t78 (
 aE a0 fun t81=>
 ae 0 t81 fun t82=>
 ah t82 h41 fun t83=>
 ce t76 fun t85=>
 bk t83 (some t85) none fun t86=>
 aE a0 fun t87=>
 ae 0 t87 fun t88=>
 au 1 t88 t86 h41 fun h42=>
 aq [(I 0),(I 0),(S ⟨#[]⟩),(.full 0 [])] [(0,1,(I 2)),(2,1,t76)] fun t90=>
 au 4 t2 t90 h42 fun h43=>
 ay 4 t2 h43 fun r44=>
 Q r44 h43) (
 C bK [a0] h41 fun t92 h45=>
 au 4 t2 t92 h45 fun h46=>
 ay 4 t2 h46 fun r47=>
 Q r47 h46)))))))
theorem vn (a0:AV) (h:ab) (Q:QT) (k:rn a0 h Q):C cK [a0] h Q:=
 okF (pl:=[]) Tryz.func204 Tryz.ntmps204 (by kernel_rfl) rfl (by kernel_rfl) k
def lc (a0 a1:AV) (h:ab) (Q:QT):Prop:=
 C eA [a0] h fun t6 h0=>
 aE a0 fun t8=>
 ae 2 t8 fun t9=>
 ah t9 h0 fun t10=>
 ifB t10 (Q (B false) h0) (
 aE a0 fun t13=>
 ae 0 t13 fun t14=>
 ah t14 h0 fun t15=>
 C eM [t15,a1] h0 fun t17 h1=>
 qUn .not t17 fun t18=>
 ifB t18 (
 Q (B false) h1) (
 aE a0 fun t22=>
 ae 0 t22 fun t23=>
 ah t23 h1 fun t24=>
 ce a1 fun t26=>
 bk t24 (some t26) none fun t27=>
 aE a0 fun t28=>
 ae 0 t28 fun t29=>
 au 1 t29 t27 h1 fun h2=>
 Q (B true) h2))
theorem mo (a0 a1:AV) (h:ab) (Q:QT) (k:lc a0 a1 h Q):C bZ [a0,a1] h Q:=
 okF (pl:=[]) Tryz.func210 Tryz.ntmps210 (by kernel_rfl) rfl (by kernel_rfl) k
def iI (s5 s4 s0 s1:AV) (Q:QT) (vs10:List AV) (h:ab) (next10:NT):Prop:=
 ag .neq (an vs10 0) (I 0) fun t24=>
 ifB t24 (aE s0 fun t27=>
 ae 2 t27 fun t28=>
 ah t28 h fun t29=>
 qUn .not t29 fun t30=>
 ifB t30 (
 ay 4 s5 h fun t39=>
 ag .add s1 (I 1) fun t42=>
 C cj [s0,t42] h fun t43 h11=>
 (ay 4 s5 h11 fun _t=>
 _t=t39)∧
 ao 2 4 [t39,t43] fun t44=>
 aq [(I 0),(I 0),(S ⟨#[]⟩),(.full 0 [])] [(0,1,(an vs10 0)),(3,1,t44)] fun t45=>
 au 4 s5 t45 h11 fun h12=>
 C gL [] h12 fun t33 h13=>
 am 1 t33 s1 fun t35=>
 ah t35 h13 fun t36=>
 C d5 [s0,t36] h13 fun t37 h14=>
 next10 [t37] h14) (
 ay 4 s5 h fun t46=>
 au 4 s4 t46 h fun h15=>
 ay 4 s4 h15 fun r16=>
 Q r16 h15)) (
 ay 4 s5 h fun t46=>
 au 4 s4 t46 h fun h17=>
 ay 4 s4 h17 fun r18=>
 Q r18 h17)
def mi (a0 a1:AV) (h:ab) (Q:QT):Prop:=
 gK [(I 0),(I 0),(S ⟨#[]⟩),(.full 0 [])] h fun t4 h0=>
 C gL [] h0 fun t8 h1=>
 bd t8 fun t9=>
 ag .eql a1 t9 fun t10=>
 ifB t10 (
 C cK [a0] h1 fun t12 h2=>
 au 4 t4 t12 h2 fun h3=>
 ay 4 t4 h3 fun r4=>
 Q r4 h3) (
 ag .add a1 (I 1) fun t15=>
 C cj [a0,t15] h1 fun t16 h5=>
 gK [(I 0),(I 0),(S ⟨#[]⟩),(.full 0 [])] h5 fun t5 h6=>
 au 4 t5 t16 h6 fun h7=>
 C gL [] h7 fun t18 h8=>
 am 1 t18 a1 fun t20=>
 ah t20 h8 fun t21=>
 C d5 [a0,t21] h8 fun t22 h9=>
 cC [t22] h9 fun vs10 h next10=>iI t5 t4 a0 a1 Q vs10 h next10)
theorem nw (a0 a1:AV) (h:ab) (Q:QT) (k:mi a0 a1 h Q):C cj [a0,a1] h Q:=
 okF (pl:=[(6,[6,23,24,25,26,27,28,29,30,31,32,33,34,35,36,37,38,39,40,41,42,43,44,45],[6]),(1000007,[0,1,2,3,4,5,6,7,8],[])]) Tryz.func190 Tryz.ntmps190 (by kernel_rfl) rfl (by kernel_rfl) k
def jr (a0 a1:AV) (h:ab) (Q:QT):Prop:=
 gK [(I 0),(I 0),(S ⟨#[]⟩),(.full 0 [])] h fun t4 h0=>
 aE a0 fun t7=>
 ae 1 t7 fun t8=>
 ah t8 h0 fun t9=>
 ag .geq t9 (I 12) fun t10=>
 ifB t10 (
 C bK [a0] h0 fun t12 h1=>
 au 4 t4 t12 h1 fun h2=>
 ay 4 t4 h2 fun r3=>
 Q r3 h2) (
 aE a0 fun t14=>
 ae 1 t14 fun t15=>
 ah t15 h0 fun t16=>
 ag .add t16 (I 1) fun t17=>
 aE a0 fun t18=>
 ae 1 t18 fun t19=>
 au 1 t19 t17 h0 fun h4=>
 CV a1 [] h4 fun t21 h5=>
 gK [(I 0),(I 0),(S ⟨#[]⟩),(.full 0 [])] h5 fun t5 h6=>
 au 4 t5 t21 h6 fun h7=>
 aE a0 fun t23=>
 ae 1 t23 fun t24=>
 ah t24 h7 fun t25=>
 ag .sub t25 (I 1) fun t26=>
 aE a0 fun t27=>
 ae 1 t27 fun t28=>
 au 1 t28 t26 h7 fun h8=>
 ay 4 t5 h8 fun t29=>
 au 4 t4 t29 h8 fun h9=>
 ay 4 t4 h9 fun r10=>
 Q r10 h9)
theorem kF (a0 a1:AV) (h:ab) (Q:QT) (k:jr a0 a1 h Q):C cF [a0,a1] h Q:=
 okF (pl:=[]) Tryz.func211 Tryz.ntmps211 (by kernel_rfl) rfl (by kernel_rfl) k
def AN (h:ab) (Q:QT):Prop:=
 ao 12 1 [(S ⟨#[]⟩),(S ⟨#[]⟩),(S ⟨#[]⟩),(S ⟨#[46]⟩),(S ⟨#[45]⟩),(S ⟨#[43]⟩),(S ⟨#[45]⟩),(S ⟨#[42]⟩),(S ⟨#[38]⟩),(S ⟨#[124]⟩),(S ⟨#[60,60]⟩),(S ⟨#[62,62]⟩)] fun t1=>
 Q t1 h
theorem CE (h:ab) (Q:QT) (k:AN  h Q):C pj [] h Q:=
 okF (pl:=[]) Tryz.func223 Tryz.ntmps223 (by kernel_rfl) rfl (by kernel_rfl) k
def Az (a0:AV) (h:ab) (Q:QT):Prop:=
 ag .geq a0 (.lit (.int .i32 97)) fun t4=>
 ifB t4 (ag .leq a0 (.lit (.int .i32 122)) fun t7=>
 ifB t7 (Q (B true) h) (
 ag .eql a0 (.lit (.int .i32 95)) fun t11=>
 Q t11 h)) (
 ag .eql a0 (.lit (.int .i32 95)) fun t11=>
 Q t11 h)
theorem CL (a0:AV) (h:ab) (Q:QT) (k:Az a0 h Q):C o6 [a0] h Q:=
 okF (pl:=[]) Tryz.func230 Tryz.ntmps230 (by kernel_rfl) rfl (by kernel_rfl) k
def AF (a0 a1:AV) (h:ab) (Q:QT):Prop:=
 ag .eql a0 (I 0) fun t8=>
 ifB t8 (Q (.tup [(I 0),(I 0)]) h) (
 ag .eql a1 (I 0) fun t11=>
 ifB t11 (
 Q (.tup [(I 0),(I 0)]) h) (
 ag .mul a0 a1 fun t15=>
 qUn .neg a0 fun t18=>
 xA a0 t18 fun t19=>
 qUn .neg a1 fun t22=>
 xA a1 t22 fun t23=>
 ag .quo (I 1099511627776) t23 fun t24=>
 ag .gtr t19 t24 fun t25=>
 ifB t25 (
 Q (.tup [(I 0),(I 6)]) h) (
 C cq [t15] h fun t27 h0=>
 aj 0 t27 fun t28=>
 aj 1 t27 fun t29=>
 Q (.tup [t28,t29]) h0)))
theorem Co (a0 a1:AV) (h:ab) (Q:QT) (k:AF a0 a1 h Q):C ll [a0,a1] h Q:=
 okF (pl:=[]) Tryz.func129 Tryz.ntmps129 (by kernel_rfl) rfl (by kernel_rfl) k
def Eh (a0:AV) (h:ab) (Q:QT):Prop:=
 ag .eql a0 (S ⟨#[]⟩) fun t4=>
 ifB t4 (Q (B false) h) (
 ce a0 fun t7=>
 ag .gtr t7 (I 12) fun t8=>
 ifB t8 (Q (B false) h) (
 bM a0 (I 0) fun t12=>
 ct .i32 t12 fun t13=>
 C cG [t13] h fun t14 h0=>
 ifB t14 (Q (B false) h0) (
 C cx [a0,(.fn (.func dF) [] [])] h0 fun t18 h1=>
 ag .neq t18 a0 fun t20=>
 ifB t20 (
 Q (B false) h1) (
 bM a0 (I 0) fun t23=>
 ag .neq t23 (.lit (.int .u8 114)) fun t24=>
 ifB t24 (Q (B true) h1) (
 ce a0 fun t27=>
 ag .eql t27 (I 1) fun t28=>
 ifB t28 (Q (B true) h1) (
 bk a0 (some (I 1)) none fun t32=>
 bk a0 (some (I 1)) none fun t35=>
 C cx [t32,(.fn (.func cG) [] [])] h1 fun t33 h2=>
 ag .neq t33 t35 fun t36=>
 Q t36 h2))))))
theorem FN (a0:AV) (h:ab) (Q:QT) (k:Eh a0 h Q):C j6 [a0] h Q:=
 okF (pl:=[(1000003,[0,1,2,3,4,5,6,7,8,9,10,12,13,11,14,15,16],[])]) Tryz.func221 Tryz.ntmps221 (by kernel_rfl) rfl (by kernel_rfl) k
def hZ (s0 s4 s2:AV) (h:ab) (Q:QT):Prop:=
 ag .eql s0 (S ⟨#[]⟩) fun t47=>
 ifB t47 (
 aE s4 fun t49=>
 ae 0 t49 fun t50=>
 ae 1 t50 fun t51=>
 ah t51 h fun t52=>
 ag .eql t52 (S ⟨#[]⟩) fun t53=>
 ifB t53 (
 aq [(I 0),(S ⟨#[]⟩),(I 0),(I 0),(S ⟨#[]⟩),(.full 0 [])] [] fun t54=>
 au 6 s2 t54 h fun h12=>
 ay 6 s2 h12 fun r13=>
 Q (.tup [r13,(B true)]) h12) (
 aE s4 fun t56=>
 ae 0 t56 fun t57=>
 ay 6 t57 h fun t58=>
 au 6 s2 t58 h fun h14=>
 ay 6 s2 h14 fun r15=>
 Q (.tup [r15,(B true)]) h14)) (
 C d8 [s0,(.fn (.func lw) [] [])] h fun t60 h16=>
 bk s0 none (some t60) fun t64=>
 bk s0 (some t60) none fun t67=>
 C eI [t67,(S ⟨#[32,9]⟩)] h16 fun t68 h17=>
 C fe [s4,t64,t68] h17 fun t69 h18=>
 qUn .not t69 fun t70=>
 ifB t70 (
 aq [(I 0),(S ⟨#[]⟩),(I 0),(I 0),(S ⟨#[]⟩),(.full 0 [])] [] fun t71=>
 au 6 s2 t71 h18 fun h19=>
 ay 6 s2 h19 fun r20=>
 Q (.tup [r20,(B false)]) h19) (
 aE s4 fun t74=>
 ae 0 t74 fun t75=>
 ae 5 t75 fun t76=>
 ah t76 h18 fun t77=>
 C cY [t77] h18 fun t78 h21=>
 aE s4 fun t79=>
 ae 0 t79 fun t80=>
 ae 5 t80 fun t81=>
 au 1 t81 t78 h21 fun h22=>
 aE s4 fun t83=>
 ae 0 t83 fun t84=>
 ay 6 t84 h22 fun t85=>
 au 6 s2 t85 h22 fun h23=>
 ay 6 s2 h23 fun r24=>
 Q (.tup [r24,(B true)]) h23))
def Ha (a0:AV) (h:ab) (Q:QT):Prop:=
 gK [(I 0),(S ⟨#[]⟩),(I 0),(I 0),(S ⟨#[]⟩),(.full 0 [])] h fun t2 h0=>
 C gU [a0,(.lit (.int .u8 10))] h0 fun t8 h1=>
 ag .geq t8 (I 0) fun t9=>
 ifB t9 (
 aq [(I 0),(S ⟨#[]⟩),(I 0),(I 0),(S ⟨#[]⟩),(.full 0 [])] [] fun t10=>
 au 6 t2 t10 h1 fun h2=>
 ay 6 t2 h2 fun r3=>
 Q (.tup [r3,(B false)]) h2) (
 C qb [a0] h1 fun t12 h4=>
 aq [(I 0),(S ⟨#[]⟩),(I 0),(I 0),(S ⟨#[]⟩),(.full 0 [])] [(0,1,(I 1))] fun t13=>
 aq [(I 0),(S ⟨#[]⟩),(I 0),(I 0),(S ⟨#[]⟩),(.full 0 [])] [(0,6,t13)] fun t14=>
 lQ t14 h4 fun t15 h5=>
 C d8 [t12,(.fn (.func iQ) [] [])] h5 fun t17 h6=>
 ce t12 fun t20=>
 ag .lss t17 t20 fun t21=>
 ifB t21 (bM t12 t17 fun t25=>
 ag .eql t25 (.lit (.int .u8 58)) fun t26=>
 ifB t26 (
 bk t12 none (some t17) fun t30=>
 C mI [t30] h6 fun t31 h7=>
 qUn .not t31 fun t32=>
 ifB t32 (
 aq [(I 0),(S ⟨#[]⟩),(I 0),(I 0),(S ⟨#[]⟩),(.full 0 [])] [] fun t33=>
 au 6 t2 t33 h7 fun h8=>
 ay 6 t2 h8 fun r9=>
 Q (.tup [r9,(B false)]) h8) (
 bk t12 none (some t17) fun t37=>
 ag .add t17 (I 1) fun t40=>
 bk t12 (some t40) none fun t41=>
 C eI [t41,(S ⟨#[32,9]⟩)] h7 fun t42 h10=>
 aE t15 fun t43=>
 ae 0 t43 fun t44=>
 ae 1 t44 fun t45=>
 au 1 t45 t37 h10 fun h11=>
 hZ t42 t15 t2 h11 Q)) (
 hZ t12 t15 t2 h6 Q)) (
 hZ t12 t15 t2 h6 Q))
theorem G7 (a0:AV) (h:ab) (Q:QT) (k:Ha a0 h Q):C sw [a0] h Q:=
 okF (pl:=[(1000009,[0,1,2,3,4,5,6,7,8,9,10,11,12,13],[]),(1000015,[0,1,2,3,4,5,6,7,8,9],[])]) Tryz.func73 Tryz.ntmps73 (by kernel_rfl) rfl (by kernel_rfl) k
def BP (a0:AV) (h:ab) (Q:QT):Prop:=
 ag .neq a0 (.lit (.int .u8 32)) fun t4=>
 ifB t4 (ag .neq a0 (.lit (.int .u8 9)) fun t7=>
 Q t7 h) (
 Q (B false) h)
theorem Ci (a0:AV) (h:ab) (Q:QT) (k:BP a0 h Q):C lw [a0] h Q:=
 okF (pl:=[]) Tryz.func112 Tryz.ntmps112 (by kernel_rfl) rfl (by kernel_rfl) k
def oW (s3 s2 s11:AV) (h:ab) (next1:NT):Prop:=
 ag .add s11 (I 1) fun t40=>
 next1 [s2,s3,t40] h
def oQ (s3 s2 s11:AV) (h:ab) (next1:NT):Prop:=
 oW s3 s2 s11 h next1
def iO (s3 s2 s11:AV) (h:ab) (next1:NT):Prop:=
 oQ s3 s2 s11 h next1
def sC (s10 s9:AV) (Q:QT) (vs1:List AV) (h:ab) (next1:NT):Prop:=
 ag .lss (an vs1 2) s10 fun t12=>
 ifB t12 (
 am 1 s9 (an vs1 2) fun t14=>
 ah t14 h fun t15=>
 C sw [t15] h fun t18 h2=>
 aj 0 t18 fun t19=>
 aj 1 t18 fun t20=>
 gK [(I 0),(S ⟨#[]⟩),(I 0),(I 0),(S ⟨#[]⟩),(.full 0 [])] h2 fun t6 h3=>
 au 6 t6 t19 h3 fun h4=>
 qUn .not t20 fun t23=>
 ifB t23 (
 ag .add (an vs1 2) (I 1) fun t26=>
 ao 1 1 [t26] fun t27=>
 bF 1 8 (an vs1 1) t27 h4 fun t28 h5=>
 iO t28 (an vs1 0) (an vs1 2) h5 next1) (
 ae 0 t6 fun t30=>
 ah t30 h4 fun t31=>
 ag .gtr t31 (I 0) fun t32=>
 ifB t32 (
 ag .add (an vs1 2) (I 1) fun t34=>
 ae 0 t6 fun t35=>
 au 1 t35 t34 h4 fun h9=>
 ay 6 t6 h9 fun t37=>
 ao 1 6 [t37] fun t38=>
 bF 6 80 (an vs1 0) t38 h9 fun t39 h10=>
 iO (an vs1 1) t39 (an vs1 2) h10 next1) (
 iO (an vs1 1) (an vs1 0) (an vs1 2) h4 next1))) (
 C cJ [(an vs1 0)] h fun t42 h11=>
 C dD [(an vs1 1)] h11 fun t44 h12=>
 Q (.tup [t42,t44]) h12)
def Au (a0:AV) (h:ab) (Q:QT):Prop:=
 C fC [a0,(S ⟨#[10]⟩)] h fun t9 h0=>
 bd t9 fun t10=>
 cC [(.full 0 []),(.full 0 []),(I 0)] h0 fun vs1 h next1=>sC t10 t9 Q vs1 h next1
theorem Cj (a0:AV) (h:ab) (Q:QT) (k:Au a0 h Q):C oZ [a0] h Q:=
 okF (pl:=[(3,[2,3,4,5,6,7,11,12,13,14,15,16,17,18,19,20,21,22,23,24,25,26,27,28,29,30,31,32,33,34,35,36,37,38,39,40],[2,3,11])]) Tryz.func50 Tryz.ntmps50 (by kernel_rfl) rfl (by kernel_rfl) k
def DB (a0:AV) (h:ab) (Q:QT):Prop:=
 ag .eql a0 (S ⟨#[]⟩) fun t4=>
 ifB t4 (Q (B false) h) (
 ce a0 fun t7=>
 ag .gtr t7 (I 12) fun t8=>
 ifB t8 (Q (B false) h) (
 bM a0 (I 0) fun t12=>
 C dG [t12] h fun t13 h0=>
 ifB t13 (Q (B false) h0) (
 C d8 [a0,(.fn (.func iQ) [] [])] h0 fun t17 h1=>
 ce a0 fun t19=>
 ag .neq t17 t19 fun t20=>
 ifB t20 (
 Q (B false) h1) (
 bM a0 (I 0) fun t23=>
 ag .neq t23 (.lit (.int .u8 114)) fun t24=>
 ifB t24 (Q (B true) h1) (
 ce a0 fun t27=>
 ag .eql t27 (I 1) fun t28=>
 ifB t28 (Q (B true) h1) (
 bk a0 (some (I 1)) none fun t32=>
 C d8 [t32,(.fn (.func dG) [] [])] h1 fun t33 h2=>
 ce a0 fun t35=>
 ag .sub t35 (I 1) fun t36=>
 ag .neq t33 t36 fun t37=>
 Q t37 h2))))))
theorem EO (a0:AV) (h:ab) (Q:QT) (k:DB a0 h Q):C mI [a0] h Q:=
 okF (pl:=[]) Tryz.func110 Tryz.ntmps110 (by kernel_rfl) rfl (by kernel_rfl) k
def tu (s0 s1:AV) (Q:QT) (vs0:List AV) (h:ab) (next0:NT):Prop:=
 bd s1 fun t14=>
 ag .lss (an vs0 1) t14 fun t15=>
 ifB t15 (ifB (an vs0 0) (
 am 1 s1 (an vs0 1) fun t23=>
 ah t23 h fun t24=>
 am 1 s0 (an vs0 1) fun t27=>
 ah t27 h fun t28=>
 CV t24 [t28] h fun t29 h1=>
 ag .add (an vs0 1) (I 1) fun t20=>
 next0 [t29,t20] h1) (
 Q (an vs0 0) h)) (
 Q (an vs0 0) h)
def Hw (a0 a1:AV) (h:ab) (Q:QT):Prop:=
 bd a0 fun t8=>
 bd a1 fun t10=>
 ag .eql t8 t10 fun t11=>
 cC [t11,(I 0)] h fun vs0 h next0=>tu a0 a1 Q vs0 h next0
theorem Gz (a0 a1:AV) (h:ab) (Q:QT) (k:Hw a0 a1 h Q):C eR [a0,a1] h Q:=
 okF (pl:=[(4,[5,6,12,13,14,15,16,17,18,19,20,21,22,23,24,25,26,27,28,29],[5,6]),(1000005,[0,1,2,3,4,5,6,7,8,9],[])]) Tryz.func148 Tryz.ntmps148 (by kernel_rfl) rfl (by kernel_rfl) k
def zY (a0:AV) (h:ab) (Q:QT):Prop:=
 ag .geq a0 (.lit (.int .u8 48)) fun t4=>
 ifB t4 (ag .leq a0 (.lit (.int .u8 57)) fun t7=>
 Q t7 h) (
 Q (B false) h)
theorem CG (a0:AV) (h:ab) (Q:QT) (k:zY a0 h Q):C dG [a0] h Q:=
 okF (pl:=[]) Tryz.func136 Tryz.ntmps136 (by kernel_rfl) rfl (by kernel_rfl) k
def uS (s0 s1:AV) (Q:QT) (vs0:List AV) (h:ab) (next0:NT):Prop:=
 ce s0 fun t8=>
 ag .lss (an vs0 0) t8 fun t9=>
 ifB t9 (bM s0 (an vs0 0) fun t14=>
 CV s1 [t14] h fun t15 h1=>
 ifB t15 (
 ag .add (an vs0 0) (I 1) fun t18=>
 next0 [t18] h1) (
 Q (an vs0 0) h1)) (
 Q (an vs0 0) h)
def AY (a0 a1:AV) (h:ab) (Q:QT):Prop:=
 cC [(I 0)] h fun vs0 h next0=>uS a0 a1 Q vs0 h next0
theorem CT (a0 a1:AV) (h:ab) (Q:QT) (k:AY a0 a1 h Q):C d8 [a0,a1] h Q:=
 okF (pl:=[(3,[5,6,7,8,9,10,11,12,13,14,15,16,17,18],[5])]) Tryz.func108 Tryz.ntmps108 (by kernel_rfl) rfl (by kernel_rfl) k
def AG (h:ab) (Q:QT):Prop:=
 ao 3 1 [(S ⟨#[98]⟩),(S ⟨#[98,108]⟩),(S ⟨#[98,99]⟩)] fun t1=>
 Q t1 h
theorem CN (h:ab) (Q:QT) (k:AG  h Q):C o7 [] h Q:=
 okF (pl:=[]) Tryz.func147 Tryz.ntmps147 (by kernel_rfl) rfl (by kernel_rfl) k
def BS (a0:AV) (h:ab) (Q:QT):Prop:=
 ag .geq a0 (.lit (.int .u8 97)) fun t4=>
 ifB t4 (ag .leq a0 (.lit (.int .u8 122)) fun t7=>
 ifB t7 (Q (B true) h) (
 ag .eql a0 (.lit (.int .u8 95)) fun t11=>
 ifB t11 (Q (B true) h) (
 C dG [a0] h fun t15 h0=>
 Q t15 h0))) (
 ag .eql a0 (.lit (.int .u8 95)) fun t11=>
 ifB t11 (Q (B true) h) (
 C dG [a0] h fun t15 h1=>
 Q t15 h1))
theorem Cp (a0:AV) (h:ab) (Q:QT) (k:BS a0 h Q):C iQ [a0] h Q:=
 okF (pl:=[]) Tryz.func109 Tryz.ntmps109 (by kernel_rfl) rfl (by kernel_rfl) k
def pX (s10 s3:AV) (Q:QT) (vs1:List AV) (h:ab) (next1:NT):Prop:=
 ag .lss (an vs1 0) s10 fun t12=>
 ifB t12 (
 am 1 s3 (an vs1 0) fun t18=>
 ah t18 h fun t19=>
 C eI [t19,(S ⟨#[32,9]⟩)] h fun t20 h2=>
 am 1 s3 (an vs1 0) fun t21=>
 au 1 t21 t20 h2 fun h3=>
 ag .add (an vs1 0) (I 1) fun t22=>
 next1 [t22] h3) (
 Q s3 h)
def uT (a0:AV) (h:ab) (Q:QT):Prop:=
 ag .eql a0 (S ⟨#[]⟩) fun t6=>
 ifB t6 (
 Q (.full 0 []) h) (
 C fC [a0,(S ⟨#[44]⟩)] h fun t8 h0=>
 bd t8 fun t10=>
 cC [(I 0)] h0 fun vs1 h next1=>pX t10 t8 Q vs1 h next1)
theorem yc (a0:AV) (h:ab) (Q:QT) (k:uT a0 h Q):C kP [a0] h Q:=
 okF (pl:=[(6,[4,11,12,13,14,15,16,17,18,19,20,21,22],[11])]) Tryz.func144 Tryz.ntmps144 (by kernel_rfl) rfl (by kernel_rfl) k
def ow (a0 a1:AV) (h:ab) (Q:QT):Prop:=
 ce a1 fun t6=>
 ag .lss t6 (I 2) fun t7=>
 ifB t7 (Q (B false) h) (
 ce a1 fun t10=>
 ag .gtr t10 (I 62) fun t11=>
 ifB t11 (Q (B false) h) (
 bM a1 (I 0) fun t15=>
 ag .neq t15 (.lit (.int .u8 34)) fun t16=>
 ifB t16 (Q (B false) h) (
 ce a1 fun t21=>
 ag .sub t21 (I 1) fun t22=>
 bM a1 t22 fun t23=>
 ag .neq t23 (.lit (.int .u8 34)) fun t24=>
 ifB t24 (
 Q (B false) h) (
 ce a1 fun t29=>
 ag .sub t29 (I 1) fun t30=>
 bk a1 (some (I 1)) (some t30) fun t31=>
 aE a0 fun t32=>
 ae 0 t32 fun t33=>
 ae 4 t33 fun t34=>
 au 1 t34 t31 h fun h0=>
 aE a0 fun t36=>
 ae 0 t36 fun t37=>
 ae 4 t37 fun t38=>
 ah t38 h0 fun t39=>
 aE a0 fun t42=>
 ae 0 t42 fun t43=>
 ae 4 t43 fun t44=>
 ah t44 h0 fun t45=>
 ce t45 fun t46=>
 C d8 [t39,(.fn (.func d6) [] [])] h0 fun t40 h1=>
 (ah t44 h1 fun _t=>
 _t=t45)∧
 ag .eql t40 t46 fun t47=>
 Q t47 h1))))
theorem sQ (a0 a1:AV) (h:ab) (Q:QT) (k:ow a0 a1 h Q):C gR [a0,a1] h Q:=
 okF (pl:=[(1000004,[0,1,2,3,4,6,7,8,9,10,11,5,12,13],[])]) Tryz.func151 Tryz.ntmps151 (by kernel_rfl) rfl (by kernel_rfl) k
def mr (a0:AV) (h:ab) (Q:QT):Prop:=
 ag .geq a0 (.lit (.int .u8 32)) fun t4=>
 ifB t4 (ag .leq a0 (.lit (.int .u8 126)) fun t7=>
 ifB t7 (ag .neq a0 (.lit (.int .u8 34)) fun t11=>
 Q t11 h) (
 Q (B false) h)) (
 Q (B false) h)
theorem qY (a0:AV) (h:ab) (Q:QT) (k:mr a0 h Q):C d6 [a0] h Q:=
 okF (pl:=[]) Tryz.func178 Tryz.ntmps178 (by kernel_rfl) rfl (by kernel_rfl) k
def ee (s5 s16:AV) (h:ab) (next2:NT):Prop:=
 ag .add s16 (I 1) fun t34=>
 next2 [s5,t34] h
def cX (s5 s16:AV) (h:ab) (next2:NT):Prop:=
 ee s5 s16 h next2
def g7 (s15 s14 s0 s1:AV) (Q:QT) (vs2:List AV) (h:ab) (next2:NT):Prop:=
 ag .lss (an vs2 1) s15 fun t17=>
 ifB t17 (
 am 1 s14 (an vs2 1) fun t18=>
 ah t18 h fun t19=>
 ag .add (S ⟨#[32]⟩) t19 fun t21=>
 ag .add t21 (S ⟨#[32]⟩) fun t22=>
 C iu [(S ⟨#[32,88,32,89,32,68,32,65,32,66,32]⟩),t22] h fun t23 h3=>
 ifB t23 (
 ao 1 1 [(.fn (.func dP) [s0] [])] fun t27=>
 bF 1 8 (an vs2 0) t27 h3 fun t28 h4=>
 cX t28 (an vs2 1) h4 next2) (
 ao 1 1 [(.fn (.func bt) [s0] [])] fun t32=>
 bF 1 8 (an vs2 0) t32 h3 fun t33 h7=>
 cX t33 (an vs2 1) h7 next2)) (
 C eR [s1,(an vs2 0)] h fun t37 h8=>
 Q t37 h8)
def jA (a0 a1:AV) (h:ab) (Q:QT):Prop:=
 aE a0 fun t9=>
 ae 0 t9 fun t10=>
 ae 3 t10 fun t11=>
 ah t11 h fun t12=>
 C mP [t12] h fun t13 h0=>
 C dM [t13] h0 fun t14 h1=>
 bd t14 fun t15=>
 cC [(.full 0 []),(I 0)] h1 fun vs2 h next2=>g7 t15 t14 a0 a1 Q vs2 h next2
theorem nc (a0 a1:AV) (h:ab) (Q:QT) (k:jA a0 a1 h Q):C ej [a0,a1] h Q:=
 okF (pl:=[(4,[5,7,16,17,18,19,20,21,22,23,24,25,26,27,28,29,30,31,32,33,34],[5,16])]) Tryz.func146 Tryz.ntmps146 (by kernel_rfl) rfl (by kernel_rfl) k
def lI (a0 a1:AV) (h:ab) (Q:QT):Prop:=
 C k9 [a1] h fun t9 h0=>
 aj 0 t9 fun t10=>
 aj 1 t9 fun t11=>
 aE a0 fun t14=>
 ae 0 t14 fun t15=>
 ae 5 t15 fun t16=>
 ah t16 h0 fun t17=>
 aq [(I 0),(I 0),(I 0),(S ⟨#[]⟩),(.full 0 [])] [(0,1,t10)] fun t19=>
 ao 1 5 [t19] fun t20=>
 bF 5 64 t17 t20 h0 fun t21 h1=>
 aE a0 fun t22=>
 ae 0 t22 fun t23=>
 ae 5 t23 fun t24=>
 au 1 t24 t21 h1 fun h2=>
 Q t11 h2
theorem pu (a0 a1:AV) (h:ab) (Q:QT) (k:lI a0 a1 h Q):C dP [a0,a1] h Q:=
 okF (pl:=[]) Tryz.func176 Tryz.ntmps176 (by kernel_rfl) rfl (by kernel_rfl) k
def cu (s93 s54 s7 s0 s1:AV) (h:ab) (Q:QT):Prop:=
 ifB s93 (
 ao 2 1 [(S ⟨#[46,97,108,105,103,110]⟩),(S ⟨#[46,115,112,97,99,101]⟩)] fun t97=>
 C bu [t97,s1] h fun t99 h17=>
 ag .add (I 7) t99 fun t100=>
 aE s0 fun t101=>
 ae 0 t101 fun t102=>
 ae 2 t102 fun t103=>
 au 1 t103 t100 h17 fun h18=>
 C g9 [(.fn (.func bt) [s0] []),(I 1)] h18 fun t107 h19=>
 C eR [s7,t107] h19 fun t108 h20=>
 Q t108 h20) (
 ag .eql s54 (S ⟨#[46,101,113,117]⟩) fun t110=>
 ifB t110 (
 aE s0 fun t112=>
 ae 0 t112 fun t113=>
 ae 2 t113 fun t114=>
 au 1 t114 (I 9) h fun h21=>
 ao 2 1 [(.fn (.func fm) [s0] []),(.fn (.func bt) [s0] [])] fun t120=>
 C eR [s7,t120] h21 fun t121 h22=>
 Q t121 h22) (
 Q (B false) h))
def bQ (s55 s54 s7 s0 s1 s2:AV) (h:ab) (Q:QT):Prop:=
 ifB s55 (
 ao 3 1 [(S ⟨#[46,98,121,116,101]⟩),(S ⟨#[46,104,97,108,102]⟩),(S ⟨#[46,108,111,110,103]⟩)] fun t60=>
 C bu [t60,s1] h fun t62 h11=>
 ag .add (I 3) t62 fun t63=>
 aE s0 fun t64=>
 ae 0 t64 fun t65=>
 ae 2 t65 fun t66=>
 au 1 t66 t63 h11 fun h12=>
 bd s7 fun t68=>
 ag .geq t68 (I 1) fun t69=>
 ifB t69 (bd s7 fun t72=>
 ag .leq t72 (I 16) fun t73=>
 ifB t73 (bd s7 fun t80=>
 C g9 [(.fn (.func bt) [s0] []),t80] h12 fun t81 h13=>
 C eR [s7,t81] h13 fun t82 h14=>
 Q t82 h14) (
 Q (B false) h12)) (
 Q (B false) h12)) (
 ag .eql s54 (S ⟨#[46,97,115,99,105,105]⟩) fun t85=>
 ifB t85 (
 aE s0 fun t87=>
 ae 0 t87 fun t88=>
 ae 2 t88 fun t89=>
 au 1 t89 (I 6) h fun h15=>
 C gR [s0,s2] h15 fun t92 h16=>
 Q t92 h16) (
 ag .eql s54 (S ⟨#[46,97,108,105,103,110]⟩) fun t94=>
 ifB t94 (
 cu t94 s54 s7 s0 s1 h Q) (
 ag .eql s54 (S ⟨#[46,115,112,97,99,101]⟩) fun t95=>
 cu t95 s54 s7 s0 s1 h Q)))
def kz (a0 a1 a2:AV) (h:ab) (Q:QT):Prop:=
 C kP [a2] h fun t12 h0=>
 C om [a1] h0 fun t15 h1=>
 aj 0 t15 fun t16=>
 aj 1 t15 fun t17=>
 ifB t17 (
 aE a0 fun t22=>
 ae 0 t22 fun t23=>
 ae 2 t23 fun t24=>
 au 1 t24 (I 1) h1 fun h2=>
 aE a0 fun t25=>
 ae 0 t25 fun t26=>
 ae 3 t26 fun t27=>
 au 1 t27 t16 h2 fun h3=>
 C ej [a0,t12] h3 fun t30 h4=>
 Q t30 h4) (
 C o7 [] h1 fun t31 h5=>
 C bu [t31,a1] h5 fun t33 h6=>
 ag .geq t33 (I 0) fun t35=>
 ifB t35 (
 aE a0 fun t39=>
 ae 0 t39 fun t40=>
 ae 2 t40 fun t41=>
 au 1 t41 (I 2) h6 fun h7=>
 aE a0 fun t42=>
 ae 0 t42 fun t43=>
 ae 3 t43 fun t44=>
 au 1 t44 t33 h7 fun h8=>
 ag .quo t33 (I 2) fun t49=>
 ag .mul t49 (I 2) fun t50=>
 ag .add (I 1) t50 fun t51=>
 C g9 [(.fn (.func bt) [a0] []),t51] h8 fun t52 h9=>
 C eR [t12,t52] h9 fun t53 h10=>
 Q t53 h10) (
 ag .eql a1 (S ⟨#[46,98,121,116,101]⟩) fun t56=>
 ifB t56 (
 bQ t56 a1 t12 a0 a1 a2 h6 Q) (
 ag .eql a1 (S ⟨#[46,104,97,108,102]⟩) fun t57=>
 ifB t57 (
 bQ t57 a1 t12 a0 a1 a2 h6 Q) (
 ag .eql a1 (S ⟨#[46,108,111,110,103]⟩) fun t58=>
 bQ t58 a1 t12 a0 a1 a2 h6 Q))))
theorem oH (a0 a1 a2:AV) (h:ab) (Q:QT) (k:kz a0 a1 a2 h Q):C fe [a0,a1,a2] h Q:=
 okF (pl:=[]) Tryz.func113 Tryz.ntmps113 (by kernel_rfl) rfl (by kernel_rfl) k
def n8 (a0 a1:AV) (h:ab) (Q:QT):Prop:=
 C oC [a1] h fun t9 h0=>
 aj 0 t9 fun t10=>
 aj 1 t9 fun t11=>
 gK [(I 0),(I 0),(S ⟨#[]⟩),(.full 0 [])] h0 fun t5 h1=>
 au 4 t5 t10 h1 fun h2=>
 aE a0 fun t14=>
 ae 0 t14 fun t15=>
 ae 5 t15 fun t16=>
 ah t16 h2 fun t17=>
 ay 4 t5 h2 fun t18=>
 aq [(I 0),(I 0),(I 0),(S ⟨#[]⟩),(.full 0 [])] [(0,1,(I (-1))),(1,4,t18)] fun t19=>
 ao 1 5 [t19] fun t20=>
 bF 5 64 t17 t20 h2 fun t21 h3=>
 aE a0 fun t22=>
 ae 0 t22 fun t23=>
 ae 5 t23 fun t24=>
 au 1 t24 t21 h3 fun h4=>
 Q t11 h4
theorem sq (a0 a1:AV) (h:ab) (Q:QT) (k:n8 a0 a1 h Q):C bt [a0,a1] h Q:=
 okF (pl:=[(1000002,[0,1,2,3,4,5,6,7,8,9,10,11,12,13],[])]) Tryz.func150 Tryz.ntmps150 (by kernel_rfl) rfl (by kernel_rfl) k
def pt (a0 a1:AV) (h:ab) (Q:QT):Prop:=
 aE a0 fun t7=>
 ae 0 t7 fun t8=>
 ae 4 t8 fun t9=>
 au 1 t9 a1 h fun h0=>
 C mI [a1] h0 fun t11 h1=>
 Q t11 h1
theorem un (a0 a1:AV) (h:ab) (Q:QT) (k:pt a0 a1 h Q):C fm [a0,a1] h Q:=
 okF (pl:=[]) Tryz.func152 Tryz.ntmps152 (by kernel_rfl) rfl (by kernel_rfl) k
def uP (a0:AV) (h:ab) (Q:QT):Prop:=
 ce a0 fun t7=>
 ag .lss t7 (I 2) fun t8=>
 ifB t8 (Q (.tup [(I 0),(B false)]) h) (
 ce a0 fun t11=>
 ag .gtr t11 (I 3) fun t12=>
 ifB t12 (Q (.tup [(I 0),(B false)]) h) (
 bM a0 (I 0) fun t16=>
 ag .neq t16 (.lit (.int .u8 114)) fun t17=>
 ifB t17 (Q (.tup [(I 0),(B false)]) h) (
 bk a0 (some (I 1)) none fun t21=>
 C d8 [t21,(.fn (.func dG) [] [])] h fun t22 h0=>
 ce a0 fun t24=>
 ag .sub t24 (I 1) fun t25=>
 ag .neq t22 t25 fun t26=>
 ifB t26 (Q (.tup [(I 0),(B false)]) h0) (
 ce a0 fun t30=>
 ag .eql t30 (I 3) fun t31=>
 ifT t31 (bM a0 (I 1) fun t34=>
 ag .eql t34 (.lit (.int .u8 48)) fun t35=>
 ifB t35 (
 Q (.tup [(I 0),(B false)]) h0) (
 bk a0 (some (I 1)) none fun t40=>
 C dT [t40] h0 fun t41 h1=>
 aj 0 t41 fun t42=>
 aj 1 t41 fun t43=>
 ag .lss t42 (I 32) fun t46=>
 Q (.tup [t42,t46]) h1)) (
 bk a0 (some (I 1)) none fun t40=>
 C dT [t40] h0 fun t41 h2=>
 aj 0 t41 fun t42=>
 aj 1 t41 fun t43=>
 ag .lss t42 (I 32) fun t46=>
 Q (.tup [t42,t46]) h2) (
 ifB (.tup []) (ifB (.tup []) (
 Q (.tup [(I 0),(B false)]) h0) (
 bk a0 (some (I 1)) none fun t40=>
 C dT [t40] h0 fun t41 h3=>
 aj 0 t41 fun t42=>
 aj 1 t41 fun t43=>
 ag .lss t42 (I 32) fun t46=>
 Q (.tup [t42,t46]) h3)) (bk a0 (some (I 1)) none fun t40=>
 C dT [t40] h0 fun t41 h4=>
 aj 0 t41 fun t42=>
 aj 1 t41 fun t43=>
 ag .lss t42 (I 32) fun t46=>
 Q (.tup [t42,t46]) h4))))))
theorem ya (a0:AV) (h:ab) (Q:QT) (k:uP a0 h Q):C k9 [a0] h Q:=
 okF (pl:=[]) Tryz.func189 Tryz.ntmps189 (by kernel_rfl) rfl (by kernel_rfl) k
def wO (s6 s0:AV) (Q:QT) (vs0:List AV) (h:ab) (next0:NT):Prop:=
 ag .lss (an vs0 1) s6 fun t8=>
 ifB t8 (
 ao 1 1 [s0] fun t11=>
 bF 1 8 (an vs0 0) t11 h fun t12 h1=>
 ag .add (an vs0 1) (I 1) fun t13=>
 next0 [t12,t13] h1) (
 Q (an vs0 0) h)
def DI (a0 a1:AV) (h:ab) (Q:QT):Prop:=
 cC [(.full 0 []),(I 0)] h fun vs0 h next0=>wO a1 a0 Q vs0 h next0
theorem EX (a0 a1:AV) (h:ab) (Q:QT) (k:DI a0 a1 h Q):C g9 [a0,a1] h Q:=
 okF (pl:=[(4,[5,7,8,9,10,11,12,13],[5,7])]) Tryz.func149 Tryz.ntmps149 (by kernel_rfl) rfl (by kernel_rfl) k
def Ud:Code→Code
 | .seq a _=>a
 | c=>c
def Ro:Code→Code
 | .seq _ (.scope c)=>c
 | c=>c
def ol (a0 s4:AV) (h:ab) (Q:QT):Prop:=
 bk a0 none (some s4) fun t21=>
 C eI [t21,(S ⟨#[32,9]⟩)] h fun t22 h1=>
 Q t22 h1
def oc (s3 s4:AV) (h:ab) (next:NT):Prop:=
 ag .add s4 (I 1) fun t30=>
 next [s3,t30] h
def nW (a0 s3 s4:AV) (h:ab) (next:NT):Prop:=
 bM a0 s4 fun t25=>
 ag .eql t25 (.lit (.int .u8 34)) fun t26=>
 ifB t26 (qUn .not s3 fun t28=>oc t28 s4 h next) (oc s3 s4 h next)
def nP (a0 s3 s4:AV) (h:ab) (Q:QT) (next:NT):Prop:=
 ce a0 fun t7=>
 ag .eql s4 t7 fun t8=>
 ifB t8 (ol a0 s4 h Q) (
 bM a0 s4 fun t12=>
 ag .eql t12 (.lit (.int .u8 35)) fun t13=>
 ifT t13 (qUn .not s3 fun t16=>
 ifB t16 (ol a0 s4 h Q) (nW a0 s3 s4 h next)) (nW a0 s3 s4 h next) False)
def x2 (a0:AV) (h:ab) (Q:QT):Prop:=
 nP a0 (B false) (I 0) h Q fun vs h=>cC vs h fun vs h next=>nP a0 (an vs 0) (an vs 1) h Q next
theorem Fa (a0:AV) (h:ab) (Q:QT):Un Pg [] Tryz.f107 (Ud (qH Tryz.f107)) (Ro (qH Tryz.f107)) ((findLabel (Ro (qH Tryz.f107)) 0).getD .skip) 0 [2,3,4,5,6,7,8,9,10,11,12,13,14,15,16,17,18,19,20,21,22,23,24,25,26,27,28,29,30] [3,4] [a0] h Q=x2 a0 h Q:=by kernel_rfl
theorem EM (a0:AV) (h:ab) (Q:QT) (k:x2 a0 h Q):C qb [a0] h Q:=
 CU (pl:=[]) Tryz.func107 (A:=Ud (qH Tryz.f107)) (c:=Ro (qH Tryz.f107)) (rest:=(findLabel (Ro (qH Tryz.f107)) 0).getD .skip) (l:=0) (ws:=[2,3,4,5,6,7,8,9,10,11,12,13,14,15,16,17,18,19,20,21,22,23,24,25,26,27,28,29,30]) (ks:=[3,4]) (by kernel_rfl) (by kernel_rfl) (by kernel_rfl) (by kernel_rfl) (by kernel_rfl) (by kernel_rfl) (by have:=Tryz.ntmps107;simp only[List.length_cons,List.length_nil];omega) (by rw[Fa];exact k)
