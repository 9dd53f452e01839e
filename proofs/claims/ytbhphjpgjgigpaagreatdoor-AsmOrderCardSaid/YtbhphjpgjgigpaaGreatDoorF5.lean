import Derived.Test.YtbhphjpgjgigpaaGreatDoorF5A
set_option linter.all false
set_option autoImplicit true
set_option relaxedAutoImplicit true
set_option maxRecDepth 100000
namespace Go.Proofs.YtbhphjpgjgigpaaGreatDoor.AL
noncomputable section
open Go.Proofs
variable [Tabs]
def vh (s27 s26 s6:AV) (Q:QT) (vs2:List AV) (h:ae) (next2:NT):Prop:=
 ai .lss (ap vs2 1) s27 fun t29=>
 ifB t29 (
 ak 1 s26 (ap vs2 1) fun t30=>
 ag t30 h fun t31=>
 C jW [s6,t31] h fun t35 h3=>
 bl 1 1 (ap vs2 0) t35 h3 fun t36 h4=>
 ai .add (ap vs2 1) (I 1) fun t37=>
 next2 [t36,t37] h4) (
 C du [(ap vs2 0)] h fun t39 h5=>
 Q (.tup [t39,(.full 0 [])]) h5)
def AR (a0 a1:AV) (h:ae) (Q:QT):Prop:=
 C qt [a0,a1] h fun t11 h0=>
 aF t11 fun t13=>
 ab 3 t13 fun t14=>
 ag t14 h0 fun t15=>
 aW t15 fun t16=>
 ai .gtr t16 (I 0) fun t17=>
 ifB t17 (
 aF t11 fun t19=>
 ab 3 t19 fun t20=>
 ag t20 h0 fun t21=>
 C c7 [t21] h0 fun t22 h1=>
 Q (.tup [(.full 0 []),t22]) h1) (
 aF t11 fun t24=>
 ab 0 t24 fun t25=>
 ag t25 h0 fun t26=>
 aW t26 fun t27=>
 bZ [(.full 0 []),(I 0)] h0 fun vs2 h next2=>vh t27 t26 t11 Q vs2 h next2)
theorem DL (a0 a1:AV) (h:ae) (Q:QT) (k:AR a0 a1 h Q):C fp [a0,a1] h Q:=
 okF (pl:=[(6,[4,8,28,29,30,31,32,33,34,35,36,37],[4,28])]) Tryz.func9 Tryz.ntmps9 (by kernel_rfl) rfl (by kernel_rfl) k
def uQ (s4 s23:AV) (h:ae) (next1:NT):Prop:=
 ai .add s23 (I 1) fun t39=>
 next1 [s4,t39] h
def pr (s4 s23:AV) (h:ae) (next1:NT):Prop:=
 uQ s4 s23 h next1
def Ax (s22 s21 s6:AV) (Q:QT) (vs1:List AV) (h:ae) (next1:NT):Prop:=
 ai .lss (ap vs1 1) s22 fun t24=>
 ifB t24 (
 ak 1 s21 (ap vs1 1) fun t25=>
 ag t25 h fun t26=>
 aF t26 fun t28=>
 ab 1 t28 fun t29=>
 ab 2 t29 fun t30=>
 ag t30 h fun t31=>
 ai .eql t31 (I 2) fun t32=>
 ifB t32 (
 C eQ [s6,t26] h fun t36 h2=>
 am 1 1 [t36] fun t37=>
 bl 1 8 (ap vs1 0) t37 h2 fun t38 h3=>
 pr t38 (ap vs1 1) h3 next1) (
 pr (ap vs1 0) (ap vs1 1) h next1)) (
 C dV [(ap vs1 0)] h fun t41 h6=>
 Q (.tup [t41,(B true)]) h6)
def IT (a0 a1:AV) (h:ae) (Q:QT):Prop:=
 C qt [a0,a1] h fun t11 h0=>
 aF t11 fun t13=>
 ab 3 t13 fun t14=>
 ag t14 h0 fun t15=>
 aW t15 fun t16=>
 ai .gtr t16 (I 0) fun t17=>
 ifB t17 (
 Q (.tup [(.full 0 []),(B false)]) h0) (
 aF t11 fun t19=>
 ab 0 t19 fun t20=>
 ag t20 h0 fun t21=>
 aW t21 fun t22=>
 bZ [(.full 0 []),(I 0)] h0 fun vs1 h next1=>Ax t22 t21 t11 Q vs1 h next1)
theorem JF (a0 a1:AV) (h:ae) (Q:QT) (k:IT a0 a1 h Q):C uN [a0,a1] h Q:=
 okF (pl:=[(6,[4,8,23,24,25,26,27,28,29,30,31,32,33,34,35,36,37,38,39],[4,23])]) Tryz.func14 Tryz.ntmps14 (by kernel_rfl) rfl (by kernel_rfl) k
def iu (s8 s16 s5:AV) (h:ae) (next6:NT):Prop:=
 ab 1 s5 fun t34=>
 ag t34 h fun t35=>
 am 1 1 [s8] fun t37=>
 bl 1 8 t35 t37 h fun t38 h7=>
 ab 1 s5 fun t39=>
 an 1 t39 t38 h7 fun h8=>
 ai .add s16 (I 1) fun t40=>
 next6 [t40] h8
def pY (s15 s14 s5 s4 s0 s1:AV) (Q:QT) (vs6:List AV) (h:ae) (next6:NT):Prop:=
 ai .lss (ap vs6 0) s15 fun t17=>
 ifB t17 (
 ak 1 s14 (ap vs6 0) fun t19=>
 ag t19 h fun t20=>
 ak 1 s1 (ap vs6 0) fun t23=>
 ag t23 h fun t24=>
 bk t20 (I 0) fun t26=>
 ai .eql t26 (.lit (.int .u8 84)) fun t27=>
 ifB t27 (
 aF s0 fun t30=>
 ab 7 t30 fun t31=>
 ag t31 h fun t32=>
 ai .sub t24 t32 fun t33=>
 iu t33 (ap vs6 0) s5 h next6) (
 iu t24 (ap vs6 0) s5 h next6)) (
 aq 2 s5 h fun t41=>
 an 2 s4 t41 h fun h10=>
 aq 2 s4 h10 fun r11=>
 Q r11 h10)
def vL (a0 a1:AV) (h:ae) (Q:QT):Prop:=
 cP [(I 0),(.full 0 [])] h fun t4 h0=>
 C lB [a0] h0 fun t10 h1=>
 cP [(I 0),(.full 0 [])] h1 fun t5 h2=>
 an 2 t5 t10 h2 fun h3=>
 ab 0 t5 fun t11=>
 ag t11 h3 fun t12=>
 C pq [t12] h3 fun t13 h4=>
 C ef [t13] h4 fun t14 h5=>
 aW t14 fun t15=>
 bZ [(I 0)] h5 fun vs6 h next6=>pY t15 t14 t5 t4 a0 a1 Q vs6 h next6
theorem AN (a0 a1:AV) (h:ae) (Q:QT) (k:vL a0 a1 h Q):C iy [a0,a1] h Q:=
 okF (pl:=[(4,[6,7,8,16,17,18,19,20,21,22,23,24,25,26,27,28,29,30,31,32,33,34,35,36,37,38,39,40],[16])]) Tryz.func37 Tryz.ntmps37 (by kernel_rfl) rfl (by kernel_rfl) k
def wJ (a0:AV) (h:ae) (Q:QT):Prop:=
 cP [(I 0),(.full 0 [])] h fun t2 h0=>
 aF a0 fun t5=>
 ab 1 t5 fun t6=>
 ab 2 t6 fun t7=>
 ag t7 h0 fun t8=>
 ai .eql t8 (I 1) fun t9=>
 ifB t9 (
 aF a0 fun t11=>
 ab 1 t11 fun t12=>
 ab 3 t12 fun t13=>
 ag t13 h0 fun t14=>
 ax [(I 0),(.full 0 [])] [(0,1,t14)] fun t15=>
 an 2 t2 t15 h0 fun h1=>
 aq 2 t2 h1 fun r2=>
 Q r2 h1) (
 aF a0 fun t18=>
 ab 8 t18 fun t19=>
 ag t19 h0 fun t20=>
 ifB t20 (
 aF a0 fun t22=>
 ab 1 t22 fun t23=>
 ab 3 t23 fun t24=>
 ag t24 h0 fun t25=>
 C tW [t25] h0 fun t26 h3=>
 ax [(I 0),(.full 0 [])] [(0,1,t26)] fun t27=>
 an 2 t2 t27 h3 fun h4=>
 aq 2 t2 h4 fun r5=>
 Q r5 h4) (
 aF a0 fun t29=>
 ab 1 t29 fun t30=>
 ab 3 t30 fun t31=>
 ag t31 h0 fun t32=>
 C pc [t32] h0 fun t33 h6=>
 ax [(I 0),(.full 0 [])] [(0,1,t33)] fun t34=>
 an 2 t2 t34 h6 fun h7=>
 aq 2 t2 h7 fun r8=>
 Q r8 h7))
theorem AM (a0:AV) (h:ae) (Q:QT) (k:wJ a0 h Q):C lB [a0] h Q:=
 okF (pl:=[]) Tryz.func58 Tryz.ntmps58 (by kernel_rfl) rfl (by kernel_rfl) k
def wT (a0:AV) (h:ae) (Q:QT):Prop:=
 cP [(I 0),(I 0),(S ⟨#[]⟩),(.full 0 [])] h fun t2 h0=>
 aF a0 fun t4=>
 ab 1 t4 fun t5=>
 ab 5 t5 fun t6=>
 ag t6 h0 fun t7=>
 aF a0 fun t9=>
 ab 1 t9 fun t10=>
 ab 5 t10 fun t11=>
 ag t11 h0 fun t12=>
 aW t12 fun t13=>
 ai .sub t13 (I 1) fun t14=>
 ak 5 t7 t14 fun t15=>
 ab 1 t15 fun t16=>
 aq 4 t16 h0 fun t17=>
 an 4 t2 t17 h0 fun h1=>
 aq 4 t2 h1 fun r2=>
 Q r2 h1
theorem A1 (a0:AV) (h:ae) (Q:QT) (k:wT a0 h Q):C bt [a0] h Q:=
 okF (pl:=[(1000001,[0,1,2,3,4,5,6,7,8,9,10,11,12,13,14,15],[])]) Tryz.func40 Tryz.ntmps40 (by kernel_rfl) rfl (by kernel_rfl) k
def xm (s8 s16:AV) (h:ae) (next2:NT):Prop:=
 ai .add s16 (I 1) fun t33=>
 next2 [s8,t33] h
def qH (s8 s16:AV) (h:ae) (next2:NT):Prop:=
 xm s8 s16 h next2
def CT (s15 s14 s3 s1 s2:AV) (Q:QT) (vs2:List AV) (h:ae) (next2:NT):Prop:=
 ai .lss (ap vs2 1) s15 fun t17=>
 ifB t17 (
 ak 1 s14 (ap vs2 1) fun t18=>
 ag t18 h fun t19=>
 jo .string true (I 0) s2 t19 h fun t23=>
 ao 0 t23 fun t24=>
 ao 1 t23 fun t25=>
 ifB t25 (
 ax [(S ⟨#[]⟩),(I 0)] [(0,1,t19),(1,1,t24)] fun t30=>
 am 1 2 [t30] fun t31=>
 bl 2 24 (ap vs2 0) t31 h fun t32 h3=>
 qH t32 (ap vs2 1) h3 next2) (
 qH (ap vs2 0) (ap vs2 1) h next2)) (
 aq 4 s3 h fun t34=>
 C lN [t34,s1,(ap vs2 0)] h fun t37 h6=>
 ao 0 t37 fun t38=>
 ao 1 t37 fun t39=>
 Q (.tup [t38,t39]) h6)
def Nt (a0 a1 a2:AV) (h:ae) (Q:QT):Prop:=
 gF a0 h fun t3 h0=>
 aq 4 t3 h0 fun t13=>
 C kA [t13] h0 fun t14 h1=>
 aW t14 fun t15=>
 bZ [(.full 0 []),(I 0)] h1 fun vs2 h next2=>CT t15 t14 t3 a1 a2 Q vs2 h next2
theorem Ma (a0 a1 a2:AV) (h:ae) (Q:QT) (k:Nt a0 a1 a2 h Q):C fA [a0,a1,a2] h Q:=
 okF (pl:=[(4,[8,10,11,12,16,17,18,19,20,21,22,23,24,25,26,27,28,29,30,31,32,33],[8,16])]) Tryz.func39 Tryz.ntmps39 (by kernel_rfl) rfl (by kernel_rfl) k
def Jp (a0:AV) (h:ae) (Q:QT):Prop:=
 am 3 1 [(S ⟨#[101,95,98]⟩),(S ⟨#[101,95,98,108]⟩),(S ⟨#[101,95,98,99]⟩)] fun t3=>
 ak 1 t3 a0 fun t5=>
 ag t5 h fun t6=>
 C xQ [t6] h fun t7 h0=>
 Q t7 h0
theorem Ls (a0:AV) (h:ae) (Q:QT) (k:Jp a0 h Q):C tW [a0] h Q:=
 okF (pl:=[]) Tryz.func88 Tryz.ntmps88 (by kernel_rfl) rfl (by kernel_rfl) k
def My (a0:AV) (h:ae) (Q:QT):Prop:=
 gF a0 h fun t1 h0=>
 ab 0 t1 fun t3=>
 ag t3 h0 fun t4=>
 ai .eql t4 (I 3) fun t5=>
 ifB t5 (Q (B true) h0) (
 ab 3 t1 fun t7=>
 ag t7 h0 fun t8=>
 C bH [t8,(.fn (.func eI) [] [])] h0 fun t9 h1=>
 Q t9 h1)
theorem Mp (a0:AV) (h:ae) (Q:QT) (k:My a0 h Q):C eI [a0] h Q:=
 okF (pl:=[]) Tryz.func53 Tryz.ntmps53 (by kernel_rfl) rfl (by kernel_rfl) k
def k7 (s5:AV) (h:ae) (Q:QT):Prop:=
 Q s5 h
def iQ (s5:AV) (h:ae) (Q:QT):Prop:=
 k7 s5 h Q
def Ds (s20 s19 s5:AV) (Q:QT) (vs1:List AV) (h:ae) (next1:NT):Prop:=
 ai .lss (ap vs1 0) s20 fun t22=>
 ifB t22 (
 ak 1 s19 (ap vs1 0) fun t23=>
 ag t23 h fun t24=>
 aF s5 fun t26=>
 ab 3 t26 fun t27=>
 ag t27 h fun t28=>
 aW t28 fun t29=>
 ai .gtr t29 (I 0) fun t30=>
 ifB t30 (
 iQ s5 h Q) (
 CV t24 [] h fun t32 h4=>
 ai .add (ap vs1 0) (I 1) fun t33=>
 next1 [t33] h4)) (
 iQ s5 h Q)
def NK (a0 a1:AV) (h:ae) (Q:QT):Prop:=
 C wh [a0,a1] h fun t10 h0=>
 am 4 1 [(.fn (.func co) [t10] []),(.fn (.func cm) [t10] []),(.fn (.func cc) [t10] []),(.fn (.func ck) [t10] [])] fun t19=>
 aW t19 fun t20=>
 bZ [(I 0)] h0 fun vs1 h next1=>Ds t20 t19 t10 Q vs1 h next1
theorem NR (a0 a1:AV) (h:ae) (Q:QT) (k:NK a0 a1 h Q):C qt [a0,a1] h Q:=
 okF (pl:=[(4,[7,21,22,23,24,25,26,27,28,29,30,31,32,33],[21])]) Tryz.func18 Tryz.ntmps18 (by kernel_rfl) rfl (by kernel_rfl) k
def XD (a0:AV) (h:ae) (Q:QT):Prop:=
 C qu [a0] h fun t7 h0=>
 ao 0 t7 fun t8=>
 ao 1 t7 fun t9=>
 Q t8 h0
theorem Ty (a0:AV) (h:ae) (Q:QT) (k:XD a0 h Q):C xQ [a0] h Q:=
 okF (pl:=[]) Tryz.func116 Tryz.ntmps116 (by kernel_rfl) rfl (by kernel_rfl) k
def BC (s68 s67 s9 s36 s5:AV) (next6:NT) (vs16:List AV) (h:ae) (next16:NT):Prop:=
 ai .lss (ap vs16 0) s68 fun t70=>
 ifB t70 (
 ak 1 s67 (ap vs16 0) fun t71=>
 ag t71 h fun t72=>
 ab 0 s9 fun t74=>
 ag t74 h fun t75=>
 C aU [s5,t75,t72,(I 1)] h fun t77 h17=>
 ai .add (ap vs16 0) (I 1) fun t78=>
 next16 [t78] h17) (
 ai .add s36 (I 1) fun t79=>
 next6 [t79] h)
def Bm (s47 s46 s11 s9 s36 s5:AV) (next6:NT) (vs10:List AV) (h:ae) (next10:NT):Prop:=
 ai .lss (ap vs10 0) s47 fun t49=>
 ifB t49 (
 ak 6 s46 (ap vs10 0) fun t50=>
 aq 6 t50 h fun t51=>
 cP [(I 0),(S ⟨#[]⟩),(I 0),(I 0),(S ⟨#[]⟩),(.full 0 [])] h fun t13 h11=>
 an 6 t13 t51 h11 fun h12=>
 aF s5 fun t54=>
 ab 0 t54 fun t55=>
 ag t55 h12 fun t56=>
 ab 0 s9 fun t57=>
 ag t57 h12 fun t58=>
 aq 6 t13 h12 fun t59=>
 ax [(S ⟨#[]⟩),(I 0),(S ⟨#[]⟩),(I 0),(I 0),(S ⟨#[]⟩),(.full 0 []),(I 0),(B false)] [(0,1,t58),(1,6,t59)] fun t60=>
 gF t60 h12 fun t61 h13=>
 (ag t55 h13 fun _t=>
 _t=t56)∧
 am 1 1 [t61] fun t62=>
 bl 1 8 t56 t62 h13 fun t63 h14=>
 aF s5 fun t64=>
 ab 0 t64 fun t65=>
 an 1 t65 t63 h14 fun h15=>
 ai .add (ap vs10 0) (I 1) fun t66=>
 next10 [t66] h15) (
 aW s11 fun t68=>
 bZ [(I 0)] h fun vs16 h next16=>BC t68 s11 s9 s36 s5 next6 vs16 h next16)
def Bs (s35 s34 s5:AV) (Q:QT) (vs6:List AV) (h:ae) (next6:NT):Prop:=
 ai .lss (ap vs6 0) s35 fun t37=>
 ifB t37 (
 ak 2 s34 (ap vs6 0) fun t38=>
 aq 2 t38 h fun t39=>
 cP [(S ⟨#[]⟩),(S ⟨#[]⟩)] h fun t9 h7=>
 an 2 t9 t39 h7 fun h8=>
 ab 1 t9 fun t41=>
 ag t41 h8 fun t42=>
 C rR [t42] h8 fun t43 h9=>
 ao 0 t43 fun t44=>
 ao 1 t43 fun t45=>
 aW t44 fun t47=>
 bZ [(I 0)] h9 fun vs10 h next10=>Bm t47 t44 t45 t9 (ap vs6 0) s5 next6 vs10 h next10) (
 Q s5 h)
def Bw (s20 s19 s5 s0:AV) (Q:QT) (vs2:List AV) (h:ae) (next2:NT):Prop:=
 ai .lss (ap vs2 0) s20 fun t22=>
 ifB t22 (
 ak 2 s19 (ap vs2 0) fun t23=>
 aq 2 t23 h fun t24=>
 cP [(S ⟨#[]⟩),(I 0)] h fun t7 h3=>
 an 2 t7 t24 h3 fun h4=>
 aF s5 fun t26=>
 ab 1 t26 fun t27=>
 ag t27 h4 fun t28=>
 ab 0 t7 fun t29=>
 ag t29 h4 fun t30=>
 ab 1 t7 fun t31=>
 ag t31 h4 fun t32=>
 ep .string t28 t30 t32 h4 fun h5=>
 ai .add (ap vs2 0) (I 1) fun t33=>
 next2 [t33] h5) (
 aW s0 fun t35=>
 bZ [(I 0)] h fun vs6 h next6=>Bs t35 s0 s5 Q vs6 h next6)
def Ms (a0 a1:AV) (h:ae) (Q:QT):Prop:=
 qf h fun t16 h0=>
 ax [(.full 0 []),(.lit (.map none)),(.lit (.map none)),(.full 0 []),(I 0)] [(1,1,t16)] fun t17=>
 gF t17 h0 fun t18 h1=>
 aW a1 fun t20=>
 bZ [(I 0)] h1 fun vs2 h next2=>Bw t20 a1 t18 a0 Q vs2 h next2
theorem MU (a0 a1:AV) (h:ae) (Q:QT) (k:Ms a0 a1 h Q):C wh [a0,a1] h Q:=
 okF (pl:=[(4,[7,21,22,23,24,25,26,27,28,29,30,31,32,33],[21]),(1000005,[0,1,2,3,4,5,6,7,8],[]),(9,[9,10,11,13,15,36,37,38,39,40,41,42,43,44,45,46,47,48,49,50,51,52,53,54,55,56,57,58,59,60,61,62,63,64,65,66,67,68,69,70,71,72,73,74,75,76,77,78,79],[36]),(13,[13,48,49,50,51,52,53,54,55,56,57,58,59,60,61,62,63,64,65,66],[48]),(1000014,[0,1,2,3,4,5,6,7,8,9,10,11,12,13,14],[]),(18,[15,69,70,71,72,73,74,75,76,77,78],[69])]) Tryz.func30 Tryz.ntmps30 (by kernel_rfl) rfl (by kernel_rfl) k
def I0 (a0:AV) (h:ae) (Q:QT):Prop:=
 am 3 1 [(S ⟨#[115,101,95,98]⟩),(S ⟨#[115,101,95,98,108]⟩),(S ⟨#[115,101,95,98,99]⟩)] fun t3=>
 ak 1 t3 a0 fun t5=>
 ag t5 h fun t6=>
 C xQ [t6] h fun t7 h0=>
 Q t7 h0
theorem JP (a0:AV) (h:ae) (Q:QT) (k:I0 a0 h Q):C pc [a0] h Q:=
 okF (pl:=[]) Tryz.func78 Tryz.ntmps78 (by kernel_rfl) rfl (by kernel_rfl) k
def oA (s11 s41:AV) (next3:NT) (vs4:List AV) (h:ae) (next4:NT):Prop:=
 ai .geq (ap vs4 1) (I 0) fun t54=>
 ifB t54 (
 ai .shr s11 (ap vs4 1) fun t60=>
 ci .u8 t60 fun t61=>
 am 1 1 [t61] fun t62=>
 bl 1 1 (ap vs4 0) t62 h fun t63 h5=>
 ai .sub (ap vs4 1) (I 8) fun t56=>
 next4 [t63,t56] h5) (
 ai .add s41 (I 1) fun t64=>
 next3 [(ap vs4 0),t64] h)
def oy (s40 s39 s1:AV) (Q:QT) (vs3:List AV) (h:ae) (next3:NT):Prop:=
 ai .lss (ap vs3 1) s40 fun t42=>
 ifB t42 (
 ak 1 s39 (ap vs3 1) fun t43=>
 ag t43 h fun t44=>
 aF s1 fun t46=>
 ab 1 t46 fun t47=>
 ab 2 t47 fun t48=>
 ag t48 h fun t49=>
 ai .sub t49 (I 3) fun t50=>
 ai .shl (I 8) t50 fun t51=>
 ai .sub t51 (I 8) fun t52=>
 bZ [(ap vs3 0),t52] h fun vs4 h next4=>oA t44 (ap vs3 1) next3 vs4 h next4) (
 Q (ap vs3 0) h)
def d5 (s35 s23 s5 s0 s1:AV) (h:ae) (Q:QT):Prop:=
 ifB s35 (
 aW s5 fun t40=>
 bZ [(.full 0 []),(I 0)] h fun vs3 h next3=>oy t40 s5 s1 Q vs3 h next3) (
 ai .eql s23 (I 6) fun t67=>
 ifB t67 (
 aF s1 fun t69=>
 ab 1 t69 fun t70=>
 ab 4 t70 fun t71=>
 ag t71 h fun t72=>
 pI t72 h fun t73 h8=>
 Q t73 h8) (
 C eQ [s0,s1] h fun t76 h9=>
 kL 1 (.lit (.int .u8 0)) t76 t76 h9 fun t77 h10=>
 Q t77 h10))
def fx (s24 s23 s5 s0 s1:AV) (h:ae) (Q:QT):Prop:=
 ifB s24 (
 C iy [s1,s5] h fun t30 h1=>
 C sq [t30] h1 fun t31 h2=>
 ao 0 t31 fun t32=>
 ao 1 t31 fun t33=>
 Q t32 h2) (
 ai .eql s23 (I 3) fun t36=>
 ifB t36 (
 d5 t36 s23 s5 s0 s1 h Q) (
 ai .eql s23 (I 4) fun t37=>
 ifB t37 (
 d5 t37 s23 s5 s0 s1 h Q) (
 ai .eql s23 (I 5) fun t38=>
 d5 t38 s23 s5 s0 s1 h Q)))
def sZ (a0 a1:AV) (h:ae) (Q:QT):Prop:=
 C fG [a0,a1] h fun t16 h0=>
 ao 0 t16 fun t17=>
 ao 1 t16 fun t18=>
 aF a1 fun t20=>
 ab 1 t20 fun t21=>
 ab 2 t21 fun t22=>
 ag t22 h0 fun t23=>
 ai .eql t23 (I 1) fun t25=>
 ifB t25 (
 fx t25 t23 t17 a0 a1 h0 Q) (
 ai .eql t23 (I 2) fun t26=>
 fx t26 t23 t17 a0 a1 h0 Q)
theorem x8 (a0 a1:AV) (h:ae) (Q:QT) (k:sZ a0 a1 h Q):C jW [a0,a1] h Q:=
 okF (pl:=[(13,[9,11,12,41,42,43,44,45,46,47,48,49,50,51,52,53,54,55,56,57,58,59,60,61,62,63,64],[9,41]),(16,[9,12,53,54,55,56,57,58,59,60,61,62,63],[9,12])]) Tryz.func20 Tryz.ntmps20 (by kernel_rfl) rfl (by kernel_rfl) k
def jY (s10:AV) (h:ae) (next0:NT):Prop:=
 ai .add s10 (I 1) fun t31=>
 next0 [t31] h
def ga (s10:AV) (h:ae) (next0:NT):Prop:=
 jY s10 h next0
def oR (s9 s8 s0:AV) (Q:QT) (vs0:List AV) (h:ae) (next0:NT):Prop:=
 ai .lss (ap vs0 0) s9 fun t11=>
 ifB t11 (
 ak 1 s8 (ap vs0 0) fun t12=>
 ag t12 h fun t13=>
 C jS [s0,t13] h fun t16 h1=>
 ai .neq t16 (I 0) fun t18=>
 ifB t18 (
 aF t13 fun t21=>
 ab 0 t21 fun t22=>
 ag t22 h1 fun t23=>
 aF t13 fun t25=>
 ab 1 t25 fun t26=>
 ab 0 t26 fun t27=>
 ag t27 h1 fun t28=>
 C aU [s0,t23,t28,t16] h1 fun t30 h2=>
 ga (ap vs0 0) h2 next0) (
 ga (ap vs0 0) h1 next0)) (
 Q (.tup []) h)
def sS (a0:AV) (h:ae) (Q:QT):Prop:=
 aF a0 fun t6=>
 ab 0 t6 fun t7=>
 ag t7 h fun t8=>
 aW t8 fun t9=>
 bZ [(I 0)] h fun vs0 h next0=>oR t9 t8 a0 Q vs0 h next0
theorem xT (a0:AV) (h:ae) (Q:QT) (k:sS a0 h Q):C ck [a0] h Q:=
 okF (pl:=[(2,[3,4,10,11,12,13,14,15,16,17,18,19,20,21,22,23,24,25,26,27,28,29,30,31],[10]),(1000005,[0,1,2,3,4,5,6,7,8,9,10,11],[])]) Tryz.func34 Tryz.ntmps34 (by kernel_rfl) rfl (by kernel_rfl) k
def lz (s11 s10 s0:AV) (Q:QT) (vs2:List AV) (h:ae) (next2:NT):Prop:=
 ai .lss (ap vs2 1) s11 fun t13=>
 ifB t13 (
 ak 1 s10 (ap vs2 1) fun t14=>
 ag t14 h fun t15=>
 cP [(S ⟨#[]⟩)] h fun t6 h3=>
 an 1 t6 t15 h3 fun h4=>
 aF s0 fun t18=>
 ab 2 t18 fun t19=>
 ag t19 h4 fun t20=>
 ag t6 h4 fun t21=>
 jo .string true (I 0) t20 t21 h4 fun t22=>
 ao 0 t22 fun t23=>
 ao 1 t22 fun t24=>
 qUn .not t24 fun t26=>
 ifB t26 (aF s0 fun t29=>
 ab 0 t29 fun t30=>
 ag t30 h4 fun t31=>
 C cb [t31,(.fn (.func fQ) [] [t6])] h4 fun t33 h5=>
 qUn .not t33 fun t34=>
 ifB t34 (
 Q (B false) h5) (
 ai .add (ap vs2 1) (I 1) fun t36=>
 next2 [(ap vs2 0),t36] h5)) (
 ai .add (ap vs2 1) (I 1) fun t36=>
 next2 [(ap vs2 0),t36] h4)) (
 Q (B true) h)
def oJ (a0 a1:AV) (h:ae) (Q:QT):Prop:=
 gF a1 h fun t3 h0=>
 aq 4 t3 h0 fun t9=>
 C kA [t9] h0 fun t10 h1=>
 aW t10 fun t11=>
 bZ [(B false),(I 0)] h1 fun vs2 h next2=>lz t11 t10 a0 Q vs2 h next2
theorem uk (a0 a1:AV) (h:ae) (Q:QT) (k:oJ a0 a1 h Q):C gS [a0,a1] h Q:=
 okF (pl:=[(3,[4,6,7,8,12,13,14,15,16,17,18,19,20,21,22,23,24,25,26,27,28,29,30,31,32,33,34,35,36],[4,12]),(1000004,[0,1,2,3,4,5,6,7,8,9,10],[])]) Tryz.func79 Tryz.ntmps79 (by kernel_rfl) rfl (by kernel_rfl) k
def mz (a0 a1:AV) (h:ae) (Q:QT):Prop:=
 aF a0 fun t5=>
 ab 1 t5 fun t6=>
 ab 2 t6 fun t7=>
 ag t7 h fun t8=>
 ai .eql t8 (I 9) fun t9=>
 ifB t9 (aF a0 fun t12=>
 ab 1 t12 fun t13=>
 ab 4 t13 fun t14=>
 ag t14 h fun t15=>
 ag a1 h fun t16=>
 ai .eql t15 t16 fun t17=>
 Q t17 h) (
 Q (B false) h)
theorem sD (a0 a1:AV) (h:ae) (Q:QT) (k:mz a0 a1 h Q):C fQ [a0,a1] h Q:=
 okF (pl:=[(1000001,[0,1,2,3,4,5,6,7,8,9,10,11,12,13,14,15],[])]) Tryz.func118 Tryz.ntmps118 (by kernel_rfl) rfl (by kernel_rfl) k
def kQ (s3 s15:AV) (h:ae) (next0:NT):Prop:=
 ai .add s15 (I 1) fun t64=>
 next0 [s3,t64] h
def cA (s3 s15:AV) (h:ae) (next0:NT):Prop:=
 kQ s3 s15 h next0
def oN (s66 s65 s3:AV) (Q:QT) (vs8:List AV) (h:ae) (next8:NT):Prop:=
 ai .lss (ap vs8 0) s66 fun t68=>
 ifB t68 (
 ak 1 s65 (ap vs8 0) fun t69=>
 ag t69 h fun t70=>
 aF t70 fun t72=>
 ab 8 t72 fun t73=>
 an 1 t73 (B true) h fun h9=>
 ai .add (ap vs8 0) (I 1) fun t74=>
 next8 [t74] h9) (
 aW s3 fun t76=>
 ai .gtr t76 (I 0) fun t77=>
 Q t77 h)
def oL (s14 s13 s0:AV) (Q:QT) (vs0:List AV) (h:ae) (next0:NT):Prop:=
 ai .lss (ap vs0 1) s14 fun t16=>
 ifB t16 (
 ak 1 s13 (ap vs0 1) fun t17=>
 ag t17 h fun t18=>
 aF t18 fun t20=>
 ab 1 t20 fun t21=>
 ab 2 t21 fun t22=>
 ag t22 h fun t23=>
 ai .neq t23 (I 2) fun t24=>
 ifB t24 (cA (ap vs0 0) (ap vs0 1) h next0) (
 aF t18 fun t27=>
 ab 8 t27 fun t28=>
 ag t28 h fun t29=>
 ifB t29 (
 cA (ap vs0 0) (ap vs0 1) h next0) (
 aF t18 fun t35=>
 ab 7 t35 fun t36=>
 ag t36 h fun t37=>
 aF s0 fun t39=>
 ab 2 t39 fun t40=>
 ag t40 h fun t41=>
 C bt [t18] h fun t33 h3=>
 (ag t40 h3 fun _t=>
 _t=t41)∧
 (ag t36 h3 fun _t=>
 _t=t37)∧
 C fA [t33,t37,t41] h3 fun t42 h4=>
 ao 0 t42 fun t43=>
 ao 1 t42 fun t44=>
 ai .eql t44 (I 0) fun t46=>
 ifB t46 (aF t18 fun t51=>
 ab 7 t51 fun t52=>
 ag t52 h4 fun t53=>
 ai .sub t43 t53 fun t54=>
 am 1 1 [t54] fun t55=>
 C pc [(I 0)] h4 fun t48 h5=>
 (ag t52 h5 fun _t=>
 _t=t53)∧
 ax [(I 0),(.full 0 [])] [(0,1,t48),(1,1,t55)] fun t56=>
 C pi [t56] h5 fun t57 h6=>
 qUn .not t57 fun t58=>
 ifB t58 (
 am 1 1 [t18] fun t62=>
 bl 1 8 (ap vs0 0) t62 h6 fun t63 h7=>
 cA t63 (ap vs0 1) h7 next0) (
 cA (ap vs0 0) (ap vs0 1) h6 next0)) (
 cA (ap vs0 0) (ap vs0 1) h4 next0)))) (
 aW (ap vs0 0) fun t66=>
 bZ [(I 0)] h fun vs8 h next8=>oN t66 (ap vs0 0) (ap vs0 0) Q vs8 h next8)
def ve (a0:AV) (h:ae) (Q:QT):Prop:=
 aF a0 fun t11=>
 ab 0 t11 fun t12=>
 ag t12 h fun t13=>
 aW t13 fun t14=>
 bZ [(.full 0 []),(I 0)] h fun vs0 h next0=>oL t14 t13 a0 Q vs0 h next0
theorem zM (a0:AV) (h:ae) (Q:QT) (k:ve a0 h Q):C kU [a0] h Q:=
 okF (pl:=[(4,[3,5,6,7,15,16,17,18,19,20,21,22,23,24,25,26,27,28,29,30,31,32,33,34,35,36,37,38,39,40,41,42,43,44,45,46,47,48,49,50,51,52,53,54,55,56,57,58,59,60,61,62,63,64],[3,15]),(1000006,[0,2,3,4,5,6,7,8,9,1,10,11,12,13,14,15],[]),(1000007,[0,1,2,4,5,6,7,8,9,10,3,11,12,13,14],[]),(12,[9,67,68,69,70,71,72,73,74],[67])]) Tryz.func55 Tryz.ntmps55 (by kernel_rfl) rfl (by kernel_rfl) k
def hQ (s6 s4 s39 s0:AV) (h:ae) (next6:NT):Prop:=
 C eQ [s0,s6] h fun t66 h9=>
 ai .add s4 t66 fun t67=>
 ai .add s39 (I 1) fun t68=>
 next6 [t67,t68] h9
def kM (s7 s79:AV) (h:ae) (next13:NT):Prop:=
 ai .add s79 (I 1) fun t133=>
 next13 [s7,t133] h
def da (s7 s79:AV) (h:ae) (next13:NT):Prop:=
 kM s7 s79 h next13
def qi (s78 s77 s0:AV) (next12:NT) (vs13:List AV) (h:ae) (next13:NT):Prop:=
 ai .lss (ap vs13 1) s78 fun t80=>
 ifB t80 (
 ak 1 s77 (ap vs13 1) fun t81=>
 ag t81 h fun t82=>
 aF s0 fun t85=>
 ab 2 t85 fun t86=>
 ag t86 h fun t87=>
 aF t82 fun t89=>
 ab 1 t89 fun t90=>
 ab 4 t90 fun t91=>
 ag t91 h fun t92=>
 jo .string true (I 0) t87 t92 h fun t93=>
 ao 0 t93 fun t94=>
 ao 1 t93 fun t95=>
 aF t82 fun t97=>
 ab 1 t97 fun t98=>
 ab 2 t98 fun t99=>
 ag t99 h fun t100=>
 ai .neq t100 (I 9) fun t101=>
 ifB t101 (da (ap vs13 0) (ap vs13 1) h next13) (
 ifB t95 (
 da (ap vs13 0) (ap vs13 1) h next13) (
 aF t82 fun t109=>
 ab 7 t109 fun t110=>
 ag t110 h fun t111=>
 aF s0 fun t113=>
 ab 2 t113 fun t114=>
 ag t114 h fun t115=>
 C bt [t82] h fun t107 h16=>
 (ag t114 h16 fun _t=>
 _t=t115)∧
 (ag t110 h16 fun _t=>
 _t=t111)∧
 C fA [t107,t111,t115] h16 fun t116 h17=>
 ao 0 t116 fun t117=>
 ao 1 t116 fun t118=>
 ai .eql t118 (I 0) fun t120=>
 ifB t120 (
 aF s0 fun t122=>
 ab 2 t122 fun t123=>
 ag t123 h17 fun t124=>
 aF t82 fun t126=>
 ab 1 t126 fun t127=>
 ab 4 t127 fun t128=>
 ag t128 h17 fun t129=>
 pG .string (I 0) t124 t129 h17 fun t131 h18=>
 ao 1 t131 fun t132=>
 lf t124 t132 t117 h18 fun h19=>
 da (B true) (ap vs13 1) h19 next13) (
 da (ap vs13 0) (ap vs13 1) h17 next13)))) (
 next12 [(ap vs13 0)] h)
def hO (s0:AV) (Q:QT) (vs12:List AV) (h:ae) (next12:NT):Prop:=
 ifB (ap vs12 0) (
 aF s0 fun t75=>
 ab 0 t75 fun t76=>
 ag t76 h fun t77=>
 aW t77 fun t78=>
 bZ [(B false),(I 0)] h fun vs13 h next13=>qi t78 t77 s0 next12 vs13 h next13) (
 Q (.tup []) h)
def kW (s38 s37 s0:AV) (Q:QT) (vs6:List AV) (h:ae) (next6:NT):Prop:=
 ai .lss (ap vs6 1) s38 fun t40=>
 ifB t40 (
 ak 1 s37 (ap vs6 1) fun t41=>
 ag t41 h fun t42=>
 aF t42 fun t45=>
 ab 7 t45 fun t46=>
 an 1 t46 (ap vs6 0) h fun h7=>
 aF t42 fun t48=>
 ab 1 t48 fun t49=>
 ab 1 t49 fun t50=>
 ag t50 h7 fun t51=>
 ai .neq t51 (S ⟨#[]⟩) fun t52=>
 ifB t52 (
 aF s0 fun t54=>
 ab 2 t54 fun t55=>
 ag t55 h7 fun t56=>
 aF t42 fun t58=>
 ab 1 t58 fun t59=>
 ab 1 t59 fun t60=>
 ag t60 h7 fun t61=>
 ep .string t56 t61 (ap vs6 0) h7 fun h8=>
 hQ t42 (ap vs6 0) (ap vs6 1) s0 h8 next6) (
 hQ t42 (ap vs6 0) (ap vs6 1) s0 h7 next6)) (
 aF s0 fun t71=>
 ab 4 t71 fun t72=>
 an 1 t72 (ap vs6 0) h fun h11=>
 bZ [(B true)] h11 fun vs12 h next12=>hO s0 Q vs12 h next12)
def qd (s22 s0:AV) (Q:QT) (h:ae) (next3:NT):Prop:=
 zW s22 h fun t23 h4=>
 ao 0 t23 fun t24=>
 ifB t24 (
 zD s22 h4 fun t25=>
 ao 0 t25 fun t26=>
 ao 1 t25 fun t27=>
 aF s0 fun t29=>
 ab 2 t29 fun t30=>
 ag t30 h4 fun t31=>
 ep .string t31 t26 t27 h4 fun h5=>
 next3 [] h5) (
 aF s0 fun t35=>
 ab 0 t35 fun t36=>
 ag t36 h4 fun t37=>
 aW t37 fun t38=>
 bZ [(I 0),(I 0)] h4 fun vs6 h next6=>kW t38 t37 s0 Q vs6 h next6)
def xn (a0:AV) (h:ae) (Q:QT):Prop:=
 qf h fun t15 h0=>
 aF a0 fun t16=>
 ab 2 t16 fun t17=>
 an 1 t17 t15 h0 fun h1=>
 aF a0 fun t19=>
 ab 1 t19 fun t20=>
 ag t20 h1 fun t21=>
 um t21 h1 fun t22 h2=>
 bZ [] h2 fun _ h next3=>qd t22 a0 Q h next3
theorem AW (a0:AV) (h:ae) (Q:QT) (k:xn a0 h Q):C iG [a0] h Q:=
 okF (pl:=[(3,[2,3,23,24,25,26,27,28,29,30,31,32,33],[]),(8,[4,6,39,40,41,42,43,44,45,46,47,48,49,50,51,52,53,54,55,56,57,58,59,60,61,62,63,64,65,66,67,68],[4,39]),(1000011,[0,1,2,3,4,5,6,7,8,9,10],[]),(17,[7,9,10,11,12,13,73,74,75,76,77,78,79,80,81,82,83,84,85,86,87,88,89,90,91,92,93,94,95,96,97,98,99,100,101,102,103,104,105,106,107,108,109,110,111,112,113,114,115,116,117,118,119,120,121,122,123,124,125,126,127,128,129,130,131,132,133],[7]),(20,[7,9,10,11,12,13,79,80,81,82,83,84,85,86,87,88,89,90,91,92,93,94,95,96,97,98,99,100,101,102,103,104,105,106,107,108,109,110,111,112,113,114,115,116,117,118,119,120,121,122,123,124,125,126,127,128,129,130,131,132,133],[7,79]),(1000021,[0,1,2,3,4,5,6,7,8,9,10,11,12,13,14],[]),(1000023,[0,2,3,4,5,6,7,8,9,1,10,11,12,13,14,15],[]),(1000025,[0,1,2,3,4,5,6,7,8,9,10,11,12,13],[])]) Tryz.func54 Tryz.ntmps54 (by kernel_rfl) rfl (by kernel_rfl) k
def gN (s5:AV) (h:ae) (Q:QT):Prop:=
 Q s5 h
def gU (s51 s0 s1:AV) (h:ae) (Q:QT):Prop:=
 ifB s51 (
 aF s0 fun t58=>
 ab 1 t58 fun t59=>
 ag t59 h fun t60=>
 C bt [s1] h fun t56 h1=>
 (ag t59 h1 fun _t=>
 _t=t60)∧
 C fA [t56,(I 0),t60] h1 fun t61 h2=>
 ao 0 t61 fun t62=>
 ao 1 t61 fun t63=>
 aF s1 fun t65=>
 ab 1 t65 fun t66=>
 ab 2 t66 fun t67=>
 ag t67 h2 fun t68=>
 ai .eql t68 (I 7) fun t69=>
 ifB t69 (
 aF s1 fun t72=>
 ab 7 t72 fun t73=>
 ag t73 h2 fun t74=>
 ai .rem t74 t62 fun t76=>
 ai .sub t62 t76 fun t77=>
 ai .rem t77 t62 fun t79=>
 gN t79 h2 Q) (
 gN t62 h2 Q)) (
 Q (I 0) h)
def eP (s26 s11 s0 s1:AV) (h:ae) (Q:QT):Prop:=
 ifB s26 (
 aF s1 fun t31=>
 ab 1 t31 fun t32=>
 ab 5 t32 fun t33=>
 ag t33 h fun t34=>
 aW t34 fun t35=>
 aF s1 fun t37=>
 ab 1 t37 fun t38=>
 ab 2 t38 fun t39=>
 ag t39 h fun t40=>
 ai .sub t40 (I 3) fun t41=>
 ai .shl t35 t41 fun t42=>
 Q t42 h) (
 ai .eql s11 (I 6) fun t44=>
 ifB t44 (
 aF s1 fun t46=>
 ab 1 t46 fun t47=>
 ab 4 t47 fun t48=>
 ag t48 h fun t49=>
 bK t49 fun t50=>
 Q t50 h) (
 ai .eql s11 (I 7) fun t52=>
 ifB t52 (
 gU t52 s0 s1 h Q) (
 ai .eql s11 (I 8) fun t53=>
 gU t53 s0 s1 h Q)))
def vd (a0 a1:AV) (h:ae) (Q:QT):Prop:=
 aF a1 fun t8=>
 ab 1 t8 fun t9=>
 ab 2 t9 fun t10=>
 ag t10 h fun t11=>
 ai .eql t11 (I 1) fun t13=>
 ifB t13 (
 aF a1 fun t15=>
 ab 1 t15 fun t16=>
 ab 3 t16 fun t17=>
 ag t17 h fun t18=>
 C qS [t18] h fun t19 h0=>
 Q t19 h0) (
 ai .eql t11 (I 2) fun t21=>
 ifB t21 (
 aF a1 fun t23=>
 ab 8 t23 fun t24=>
 ag t24 h fun t25=>
 ifB t25 (
 Q (I 4) h) (
 Q (I 2) h)) (
 ai .eql t11 (I 3) fun t27=>
 ifB t27 (
 eP t27 t11 a0 a1 h Q) (
 ai .eql t11 (I 4) fun t28=>
 ifB t28 (
 eP t28 t11 a0 a1 h Q) (
 ai .eql t11 (I 5) fun t29=>
 eP t29 t11 a0 a1 h Q))))
theorem zT (a0 a1:AV) (h:ae) (Q:QT) (k:vd a0 a1 h Q):C eQ [a0,a1] h Q:=
 okF (pl:=[(1000011,[0,1,2,3,4,5,6,7,8,9,10,11,12,13],[]),(1000016,[0,2,3,4,5,1,6,7,8,9,10,11],[])]) Tryz.func22 Tryz.ntmps22 (by kernel_rfl) rfl (by kernel_rfl) k
def nN (s0:AV) (Q:QT) (h:ae) (next1:NT):Prop:=
 C kU [s0] h fun t5 h2=>
 ifB t5 (
 C iG [s0] h2 fun t7 h3=>
 next1 [] h3) (
 aF s0 fun t9=>
 ab 4 t9 fun t10=>
 ag t10 h2 fun t11=>
 ai .gtr t11 (I 4096) fun t12=>
 ifB t12 (
 C aU [s0,(S ⟨#[]⟩),(I 0),(I 8)] h2 fun t14 h4=>
 Q (.tup []) h4) (
 Q (.tup []) h2))
def qT (a0:AV) (h:ae) (Q:QT):Prop:=
 C iG [a0] h fun t3 h0=>
 bZ [] h0 fun _ h next1=>nN a0 Q h next1
theorem wB (a0:AV) (h:ae) (Q:QT) (k:qT a0 h Q):C cc [a0] h Q:=
 okF (pl:=[(2,[4,5,6,7],[])]) Tryz.func33 Tryz.ntmps33 (by kernel_rfl) rfl (by kernel_rfl) k
def gc (s12:AV) (h:ae) (next0:NT):Prop:=
 ai .add s12 (I 1) fun t77=>
 next0 [t77] h
def aN (s12:AV) (h:ae) (next0:NT):Prop:=
 gc s12 h next0
def bD (s6 s5 s3 s12 s0:AV) (h:ae) (next0:NT):Prop:=
 C bt [s3] h fun t56 h6=>
 C eI [t56] h6 fun t57 h7=>
 ifB t57 (aF s3 fun t68=>
 ab 0 t68 fun t69=>
 ag t69 h7 fun t70=>
 aF s3 fun t72=>
 ab 1 t72 fun t73=>
 ab 0 t73 fun t74=>
 ag t74 h7 fun t75=>
 C aU [s0,t70,t75,(I 3)] h7 fun t76 h8=>
 aN s12 h8 next0) (
 ai .neq s5 (I 0) fun t60=>
 ifB t60 (aF s3 fun t68=>
 ab 0 t68 fun t69=>
 ag t69 h7 fun t70=>
 aF s3 fun t72=>
 ab 1 t72 fun t73=>
 ab 0 t73 fun t74=>
 ag t74 h7 fun t75=>
 C aU [s0,t70,t75,(I 3)] h7 fun t76 h9=>
 aN s12 h9 next0) (
 qUn .not s6 fun t64=>
 ifB t64 (
 aF s3 fun t68=>
 ab 0 t68 fun t69=>
 ag t69 h7 fun t70=>
 aF s3 fun t72=>
 ab 1 t72 fun t73=>
 ab 0 t73 fun t74=>
 ag t74 h7 fun t75=>
 C aU [s0,t70,t75,(I 3)] h7 fun t76 h10=>
 aN s12 h10 next0) (
 aN s12 h7 next0)))
def nO (s6 s5 s3 s12 s0:AV) (h:ae) (next0:NT):Prop:=
 C bt [s3] h fun t56 h13=>
 C eI [t56] h13 fun t57 h14=>
 ifB t57 (aF s3 fun t68=>
 ab 0 t68 fun t69=>
 ag t69 h14 fun t70=>
 aF s3 fun t72=>
 ab 1 t72 fun t73=>
 ab 0 t73 fun t74=>
 ag t74 h14 fun t75=>
 C aU [s0,t70,t75,(I 3)] h14 fun t76 h15=>
 aN s12 h15 next0) (
 ai .neq s5 (I 0) fun t60=>
 ifB t60 (aF s3 fun t68=>
 ab 0 t68 fun t69=>
 ag t69 h14 fun t70=>
 aF s3 fun t72=>
 ab 1 t72 fun t73=>
 ab 0 t73 fun t74=>
 ag t74 h14 fun t75=>
 C aU [s0,t70,t75,(I 3)] h14 fun t76 h16=>
 aN s12 h16 next0) (
 qUn .not s6 fun t64=>
 ifB t64 (
 aF s3 fun t68=>
 ab 0 t68 fun t69=>
 ag t69 h14 fun t70=>
 aF s3 fun t72=>
 ab 1 t72 fun t73=>
 ab 0 t73 fun t74=>
 ag t74 h14 fun t75=>
 C aU [s0,t70,t75,(I 3)] h14 fun t76 h17=>
 aN s12 h17 next0) (
 aN s12 h14 next0)))
def n5 (s6 s5 s3 s12 s0:AV) (h:ae) (next0:NT):Prop:=
 C bt [s3] h fun t56 h22=>
 C eI [t56] h22 fun t57 h23=>
 ifB t57 (aF s3 fun t68=>
 ab 0 t68 fun t69=>
 ag t69 h23 fun t70=>
 aF s3 fun t72=>
 ab 1 t72 fun t73=>
 ab 0 t73 fun t74=>
 ag t74 h23 fun t75=>
 C aU [s0,t70,t75,(I 3)] h23 fun t76 h24=>
 aN s12 h24 next0) (
 ai .neq s5 (I 0) fun t60=>
 ifB t60 (aF s3 fun t68=>
 ab 0 t68 fun t69=>
 ag t69 h23 fun t70=>
 aF s3 fun t72=>
 ab 1 t72 fun t73=>
 ab 0 t73 fun t74=>
 ag t74 h23 fun t75=>
 C aU [s0,t70,t75,(I 3)] h23 fun t76 h25=>
 aN s12 h25 next0) (
 qUn .not s6 fun t64=>
 ifB t64 (
 aF s3 fun t68=>
 ab 0 t68 fun t69=>
 ag t69 h23 fun t70=>
 aF s3 fun t72=>
 ab 1 t72 fun t73=>
 ab 0 t73 fun t74=>
 ag t74 h23 fun t75=>
 C aU [s0,t70,t75,(I 3)] h23 fun t76 h26=>
 aN s12 h26 next0) (
 aN s12 h23 next0)))
def nX (s6 s5 s3 s12 s0:AV) (h:ae) (next0:NT):Prop:=
 C bt [s3] h fun t56 h29=>
 C eI [t56] h29 fun t57 h30=>
 ifB t57 (aF s3 fun t68=>
 ab 0 t68 fun t69=>
 ag t69 h30 fun t70=>
 aF s3 fun t72=>
 ab 1 t72 fun t73=>
 ab 0 t73 fun t74=>
 ag t74 h30 fun t75=>
 C aU [s0,t70,t75,(I 3)] h30 fun t76 h31=>
 aN s12 h31 next0) (
 ai .neq s5 (I 0) fun t60=>
 ifB t60 (aF s3 fun t68=>
 ab 0 t68 fun t69=>
 ag t69 h30 fun t70=>
 aF s3 fun t72=>
 ab 1 t72 fun t73=>
 ab 0 t73 fun t74=>
 ag t74 h30 fun t75=>
 C aU [s0,t70,t75,(I 3)] h30 fun t76 h32=>
 aN s12 h32 next0) (
 qUn .not s6 fun t64=>
 ifB t64 (
 aF s3 fun t68=>
 ab 0 t68 fun t69=>
 ag t69 h30 fun t70=>
 aF s3 fun t72=>
 ab 1 t72 fun t73=>
 ab 0 t73 fun t74=>
 ag t74 h30 fun t75=>
 C aU [s0,t70,t75,(I 3)] h30 fun t76 h33=>
 aN s12 h33 next0) (
 aN s12 h30 next0)))
def nD (s11 s10 s0:AV) (Q:QT) (vs0:List AV) (h:ae) (next0:NT):Prop:=
 ai .lss (ap vs0 0) s11 fun t13=>
 ifB t13 (
 ak 1 s10 (ap vs0 0) fun t14=>
 ag t14 h fun t15=>
 aF t15 fun t17=>
 ab 1 t17 fun t18=>
 ab 2 t18 fun t19=>
 ag t19 h fun t20=>
 ai .neq t20 (I 7) fun t21=>
 ifB t21 (aF t15 fun t24=>
 ab 1 t24 fun t25=>
 ab 2 t25 fun t26=>
 ag t26 h fun t27=>
 ai .neq t27 (I 8) fun t28=>
 ifB t28 (
 aN (ap vs0 0) h next0) (
 aF s0 fun t34=>
 ab 1 t34 fun t35=>
 ag t35 h fun t36=>
 C bt [t15] h fun t32 h3=>
 (ag t35 h3 fun _t=>
 _t=t36)∧
 C fA [t32,(I 0),t36] h3 fun t37 h4=>
 ao 0 t37 fun t38=>
 ao 1 t37 fun t39=>
 ai .geq t38 (I 0) fun t41=>
 ifB t41 (ai .leq t38 (I 1000) fun t44=>
 aF t15 fun t47=>
 ab 1 t47 fun t48=>
 ab 2 t48 fun t49=>
 ag t49 h4 fun t50=>
 ai .eql t50 (I 7) fun t51=>
 ifB t51 (
 am 5 1 [(I 1),(I 2),(I 4),(I 8),(I 16)] fun t52=>
 C bg [t52,t38] h4 fun t54 h5=>
 bD t54 t39 t15 (ap vs0 0) s0 h5 next0) (
 bD t44 t39 t15 (ap vs0 0) s0 h4 next0)) (
 aF t15 fun t47=>
 ab 1 t47 fun t48=>
 ab 2 t48 fun t49=>
 ag t49 h4 fun t50=>
 ai .eql t50 (I 7) fun t51=>
 ifB t51 (
 am 5 1 [(I 1),(I 2),(I 4),(I 8),(I 16)] fun t52=>
 C bg [t52,t38] h4 fun t54 h12=>
 nO t54 t39 t15 (ap vs0 0) s0 h12 next0) (
 nO (B false) t39 t15 (ap vs0 0) s0 h4 next0)))) (
 aF s0 fun t34=>
 ab 1 t34 fun t35=>
 ag t35 h fun t36=>
 C bt [t15] h fun t32 h19=>
 (ag t35 h19 fun _t=>
 _t=t36)∧
 C fA [t32,(I 0),t36] h19 fun t37 h20=>
 ao 0 t37 fun t38=>
 ao 1 t37 fun t39=>
 ai .geq t38 (I 0) fun t41=>
 ifB t41 (ai .leq t38 (I 1000) fun t44=>
 aF t15 fun t47=>
 ab 1 t47 fun t48=>
 ab 2 t48 fun t49=>
 ag t49 h20 fun t50=>
 ai .eql t50 (I 7) fun t51=>
 ifB t51 (
 am 5 1 [(I 1),(I 2),(I 4),(I 8),(I 16)] fun t52=>
 C bg [t52,t38] h20 fun t54 h21=>
 n5 t54 t39 t15 (ap vs0 0) s0 h21 next0) (
 n5 t44 t39 t15 (ap vs0 0) s0 h20 next0)) (
 aF t15 fun t47=>
 ab 1 t47 fun t48=>
 ab 2 t48 fun t49=>
 ag t49 h20 fun t50=>
 ai .eql t50 (I 7) fun t51=>
 ifB t51 (
 am 5 1 [(I 1),(I 2),(I 4),(I 8),(I 16)] fun t52=>
 C bg [t52,t38] h20 fun t54 h28=>
 nX t54 t39 t15 (ap vs0 0) s0 h28 next0) (
 nX (B false) t39 t15 (ap vs0 0) s0 h20 next0)))) (
 Q (.tup []) h)
def tD (a0:AV) (h:ae) (Q:QT):Prop:=
 aF a0 fun t8=>
 ab 0 t8 fun t9=>
 ag t9 h fun t10=>
 aW t10 fun t11=>
 bZ [(I 0)] h fun vs0 h next0=>nD t11 t10 a0 Q vs0 h next0
theorem x4 (a0:AV) (h:ae) (Q:QT) (k:tD a0 h Q):C cm [a0] h Q:=
 okF (pl:=[(2,[3,4,5,6,12,13,14,15,16,17,18,19,20,21,22,23,24,25,26,27,28,29,30,31,32,33,34,35,36,37,38,39,40,41,42,43,44,45,46,47,48,49,50,51,52,53,54,55,56,57,58,59,60,61,62,63,64,65,66,67,68,69,70,71,72,73,74,75,76,77],[12]),(1000004,[0,2,3,4,5,1,6,7,8,9,10,11],[]),(1000009,[0,1,2,3,4,5,6,7,8,9,10],[])]) Tryz.func32 Tryz.ntmps32 (by kernel_rfl) rfl (by kernel_rfl) k
def vf (a0 a1 a2 a3:AV) (h:ae) (Q:QT):Prop:=
 aF a0 fun t10=>
 ab 3 t10 fun t11=>
 ag t11 h fun t12=>
 ax [(S ⟨#[]⟩),(I 0),(I 0)] [(0,1,a1),(1,1,a2),(2,1,a3)] fun t16=>
 am 1 3 [t16] fun t17=>
 bl 3 32 t12 t17 h fun t18 h0=>
 aF a0 fun t19=>
 ab 3 t19 fun t20=>
 an 1 t20 t18 h0 fun h1=>
 Q (.tup []) h1
theorem zK (a0 a1 a2 a3:AV) (h:ae) (Q:QT) (k:vf a0 a1 a2 a3 h Q):C aU [a0,a1,a2,a3] h Q:=
 okF (pl:=[]) Tryz.func51 Tryz.ntmps51 (by kernel_rfl) rfl (by kernel_rfl) k
def jX (s52:AV) (h:ae) (next7:NT):Prop:=
 ai .add s52 (I 1) fun t77=>
 next7 [t77] h
def gf (s52:AV) (h:ae) (next7:NT):Prop:=
 jX s52 h next7
def fE (s8 s52 s2:AV) (h:ae) (next7:NT):Prop:=
 jo .string false (I 0) s2 s8 h fun t75=>
 ai .add t75 (I 1) fun t76=>
 ep .string s2 s8 t76 h fun h11=>
 gf s52 h11 next7
def nG (s51 s50 s5 s26 s2 s0:AV) (next5:NT) (vs7:List AV) (h:ae) (next7:NT):Prop:=
 ai .lss (ap vs7 0) s51 fun t53=>
 ifB t53 (
 ak 1 s50 (ap vs7 0) fun t54=>
 ag t54 h fun t55=>
 ai .eql t55 (S ⟨#[]⟩) fun t57=>
 ifB t57 (
 gf (ap vs7 0) h next7) (
 jo .string false (I 0) s2 t55 h fun t60=>
 ai .gtr t60 (I 0) fun t61=>
 ifB t61 (
 aF s5 fun t64=>
 ab 0 t64 fun t65=>
 ag t65 h fun t66=>
 aF s5 fun t68=>
 ab 1 t68 fun t69=>
 ab 0 t69 fun t70=>
 ag t70 h fun t71=>
 C aU [s0,t66,t71,(I 2)] h fun t72 h10=>
 fE t55 (ap vs7 0) s2 h10 next7) (
 fE t55 (ap vs7 0) s2 h next7))) (
 ai .add s26 (I 1) fun t78=>
 next5 [t78] h)
def fy (s6 s5 s26 s2 s0:AV) (h:ae) (next5:NT):Prop:=
 aW s6 fun t51=>
 bZ [(I 0)] h fun vs7 h next7=>nG t51 s6 s5 s26 s2 s0 next5 vs7 h next7
def nV (s25 s24 s2 s0:AV) (Q:QT) (vs5:List AV) (h:ae) (next5:NT):Prop:=
 ai .lss (ap vs5 0) s25 fun t27=>
 ifB t27 (
 ak 1 s24 (ap vs5 0) fun t28=>
 ag t28 h fun t29=>
 aF t29 fun t31=>
 ab 1 t31 fun t32=>
 ab 1 t32 fun t33=>
 ag t33 h fun t34=>
 am 1 1 [t34] fun t35=>
 aF t29 fun t37=>
 ab 1 t37 fun t38=>
 ab 2 t38 fun t39=>
 ag t39 h fun t40=>
 ai .eql t40 (I 9) fun t41=>
 ifB t41 (
 aF t29 fun t44=>
 ab 1 t44 fun t45=>
 ab 4 t45 fun t46=>
 ag t46 h fun t47=>
 am 1 1 [t47] fun t48=>
 bl 1 16 t35 t48 h fun t49 h6=>
 fy t49 t29 (ap vs5 0) s2 s0 h6 next5) (
 fy t35 t29 (ap vs5 0) s2 s0 h next5)) (
 Q (.tup []) h)
def nI (s14 s2 s0:AV) (Q:QT) (h:ae) (next2:NT):Prop:=
 zW s14 h fun t15 h3=>
 ao 0 t15 fun t16=>
 ifB t16 (
 zD s14 h3 fun t17=>
 ao 0 t17 fun t18=>
 ep .string s2 t18 (I 1) h3 fun h4=>
 next2 [] h4) (
 aF s0 fun t22=>
 ab 0 t22 fun t23=>
 ag t23 h3 fun t24=>
 aW t24 fun t25=>
 bZ [(I 0)] h3 fun vs5 h next5=>nV t25 t24 s2 s0 Q vs5 h next5)
def te (a0:AV) (h:ae) (Q:QT):Prop:=
 qf h fun t9 h0=>
 aF a0 fun t11=>
 ab 1 t11 fun t12=>
 ag t12 h0 fun t13=>
 um t13 h0 fun t14 h1=>
 bZ [] h1 fun _ h next2=>nI t14 t9 a0 Q h next2
theorem x6 (a0:AV) (h:ae) (Q:QT) (k:te a0 h Q):C co [a0] h Q:=
 okF (pl:=[(3,[3,15,16,17,18,19,20],[]),(7,[5,6,8,26,27,28,29,30,31,32,33,34,35,36,37,38,39,40,41,42,43,44,45,46,47,48,49,50,51,52,53,54,55,56,57,58,59,60,61,62,63,64,65,66,67,68,69,70,71,72,73,74,75,76,77,78],[26]),(13,[8,52,53,54,55,56,57,58,59,60,61,62,63,64,65,66,67,68,69,70,71,72,73,74,75,76,77],[52]),(1000016,[0,1,2,3,4,5,6,7,8,9,10],[])]) Tryz.func31 Tryz.ntmps31 (by kernel_rfl) rfl (by kernel_rfl) k
def fH (s10 s9 s4 s5 s6 s17:AV) (h:ae) (next0:NT) (Q:QT):Prop:=
 ai .neq s10 (I 0) fun t40=>
 ifB t40 (
 Q (.tup [(.full 0 []),s10]) h) (
 am 1 1 [s9] fun t44=>
 bl 1 8 s6 t44 h fun t45 h4=>
 ai .add s17 (I 1) fun t46=>
 next0 [s4,s5,t45,t46] h4)
def nZ (s16 s15 s0 s1:AV) (Q:QT) (vs0:List AV) (h:ae) (next0:NT):Prop:=
 ai .lss (ap vs0 3) s16 fun t18=>
 ifB t18 (
 ak 5 s15 (ap vs0 3) fun t19=>
 aq 5 t19 h fun t20=>
 cP [(I 0),(I 0),(I 0),(S ⟨#[]⟩),(.full 0 [])] h fun t8 h1=>
 an 5 t8 t20 h1 fun h2=>
 ab 0 t8 fun t21=>
 ag t21 h2 fun t22=>
 ai .lss t22 (I 0) fun t24=>
 ifB t24 (
 ab 1 t8 fun t26=>
 aq 4 t26 h2 fun t27=>
 aF s1 fun t29=>
 ab 7 t29 fun t30=>
 ag t30 h2 fun t31=>
 aF s0 fun t33=>
 ab 2 t33 fun t34=>
 ag t34 h2 fun t35=>
 C fA [t27,t31,t35] h2 fun t36 h3=>
 ao 0 t36 fun t37=>
 ao 1 t36 fun t38=>
 fH t38 t37 (ap vs0 0) (ap vs0 1) (ap vs0 2) (ap vs0 3) h3 next0 Q) (
 fH (I 0) t22 (ap vs0 0) (ap vs0 1) (ap vs0 2) (ap vs0 3) h2 next0 Q)) (
 Q (.tup [(ap vs0 2),(I 0)]) h)
def q8 (a0 a1:AV) (h:ae) (Q:QT):Prop:=
 aF a1 fun t12=>
 ab 1 t12 fun t13=>
 ab 5 t13 fun t14=>
 ag t14 h fun t15=>
 aW t15 fun t16=>
 bZ [(.full 0 []),(I 0),(.full 0 []),(I 0)] h fun vs0 h next0=>nZ t16 t15 a0 a1 Q vs0 h next0
theorem wK (a0 a1:AV) (h:ae) (Q:QT) (k:q8 a0 a1 h Q):C fG [a0,a1] h Q:=
 okF (pl:=[(4,[4,5,6,8,9,10,17,18,19,20,21,22,23,24,25,26,27,28,29,30,31,32,33,34,35,36,37,38,39,40,41,42,43,44,45,46],[4,5,6,17]),(1000007,[0,1,2,3,4,5,6,7,8,9,10,11,12,13,14,15],[])]) Tryz.func35 Tryz.ntmps35 (by kernel_rfl) rfl (by kernel_rfl) k
def Zz (h:ae) (Q:QT):Prop:=Q (I 0) h
def Jc (a1 t37:AV) (h:ae) (Q:QT):Prop:=
 aF a1 fun t94=>
 ab 1 t94 fun t95=>
 ab 2 t95 fun t96=>
 ag t96 h fun t97=>
 C rV [t97] h fun t98 h5=>
 ao 0 t98 fun t99=>
 ao 1 t98 fun t100=>
 C gP [t37] h5 fun t102 h6=>
 ai .lss t102 t99 fun t104=>
 ifB t104 (Q (I 6) h6) (
 C gO [t37] h6 fun t107 h7=>
 ai .gtr t107 t100 fun t109=>
 ifB t109 (
 Q (I 6) h7) (
 Zz h7 Q))
def EK (a1 t37:AV) (h:ae) (Q:QT):Prop:=
 aF a1 fun t71=>
 ab 1 t71 fun t72=>
 ab 2 t72 fun t73=>
 ag t73 h fun t74=>
 ai .eql t74 (I 3) fun t75=>
 ifB t75 (Jc a1 t37 h Q) (
 aF a1 fun t78=>
 ab 1 t78 fun t79=>
 ab 2 t79 fun t80=>
 ag t80 h fun t81=>
 ai .eql t81 (I 4) fun t82=>
 ifB t82 (Jc a1 t37 h Q) (
 aF a1 fun t86=>
 ab 1 t86 fun t87=>
 ab 2 t87 fun t88=>
 ag t88 h fun t89=>
 ai .eql t89 (I 5) fun t90=>
 ifB t90 (Jc a1 t37 h Q) (
 Zz h Q)))
def Hc (a1 t37:AV) (h:ae) (Q:QT):Prop:=
 C iy [a1,t37] h fun t65 h3=>
 C pi [t65] h3 fun t66 h4=>
 qUn .not t66 fun t67=>
 ifB t67 (
 Q (I 6) h4) (
 EK a1 t37 h4 Q)
def wrA (a1 t37 t38:AV) (h:ae) (Q:QT):Prop:=
 ai .neq t38 (I 0) fun t58=>
 ifB t58 (
 Q t38 h) (
 Hc a1 t37 h Q)
def wrB (t22 a1 t37 t38:AV) (h:ae) (Q:QT):Prop:=
 ai .neq t38 (I 0) fun t58=>
 ifB t58 (
 Q t38 h) (
 ifB t22 (Hc a1 t37 h Q) (EK a1 t37 h Q))
def Ft (a0 a1:AV) (tail:AV→QT) (h:ae) (Q:QT):Prop:=
 C fG [a0,a1] h fun t36 h0=>
 ao 0 t36 fun t37=>
 ao 1 t36 fun t38=>
 ai .eql t38 (I 4) fun t41=>
 ifB t41 (aF a1 fun t44=>
 ab 1 t44 fun t45=>
 ab 2 t45 fun t46=>
 ag t46 h0 fun t47=>
 ai .eql t47 (I 9) fun t48=>
 ifB t48 (C bt [a1] h0 fun t53 h1=>
 C gS [a0,t53] h1 fun t54 h2=>
 ifB t54 (
 Q (I 5) h2) (
 tail t37 t38 h2)) (
 tail t37 t38 h0)) (
 tail t37 t38 h0)
def td (a0 a1:AV) (h:ae) (Q:QT):Prop:=
 aF a1 fun t11=>
 ab 1 t11 fun t12=>
 ab 2 t12 fun t13=>
 ag t13 h fun t14=>
 ai .eql t14 (I 1) fun t15=>
 ifB t15 (aF a1 fun t27=>
 ab 7 t27 fun t28=>
 ag t28 h fun t29=>
 ai .rem t29 (I 2) fun t30=>
 ai .neq t30 (I 0) fun t31=>
 ifB t31 (
 Q (I 7) h) (
 Ft a0 a1 (fun t37 t38 h=>wrA a1 t37 t38 h Q) h Q)) (
 aF a1 fun t18=>
 ab 1 t18 fun t19=>
 ab 2 t19 fun t20=>
 ag t20 h fun t21=>
 ai .eql t21 (I 2) fun t22=>
 ifB t22 (aF a1 fun t27=>
 ab 7 t27 fun t28=>
 ag t28 h fun t29=>
 ai .rem t29 (I 2) fun t30=>
 ai .neq t30 (I 0) fun t31=>
 ifB t31 (
 Q (I 7) h) (
 Ft a0 a1 (fun t37 t38 h=>wrB t22 a1 t37 t38 h Q) h Q)) (
 Ft a0 a1 (fun t37 t38 h=>wrB t22 a1 t37 t38 h Q) h Q))
theorem x9 (a0 a1:AV) (h:ae) (Q:QT) (k:td a0 a1 h Q):C jS [a0,a1] h Q:=
 okF (pl:=[]) Tryz.func56 Tryz.ntmps56 (by kernel_rfl) rfl (by kernel_rfl) k
def FI (a0:AV) (h:ae) (Q:QT):Prop:=
 ai .eql a0 (I 3) fun t6=>
 ifB t6 (
 Q (.tup [(I (-128)),(I 255)]) h) (
 ai .eql a0 (I 4) fun t8=>
 ifB t8 (
 Q (.tup [(I (-32768)),(I 65535)]) h) (
 Q (.tup [(I (-2147483648)),(I 4294967295)]) h))
theorem HH (a0:AV) (h:ae) (Q:QT) (k:FI a0 h Q):C rV [a0] h Q:=
 okF (pl:=[]) Tryz.func80 Tryz.ntmps80 (by kernel_rfl) rfl (by kernel_rfl) k
def mO (a0 a1 a2:AV) (h:ae) (Q:QT):Prop:=
 gF a0 h fun t3 h0=>
 ab 0 t3 fun t13=>
 ag t13 h0 fun t14=>
 ai .eql t14 (I 1) fun t15=>
 ifB t15 (
 ab 1 t3 fun t16=>
 ag t16 h0 fun t17=>
 C cH [t17] h0 fun t18 h1=>
 ao 0 t18 fun t19=>
 ao 1 t18 fun t20=>
 Q (.tup [t19,t20]) h1) (
 ab 0 t3 fun t22=>
 ag t22 h0 fun t23=>
 ai .eql t23 (I 3) fun t24=>
 ifB t24 (
 C cH [a1] h0 fun t26 h2=>
 ao 0 t26 fun t27=>
 ao 1 t26 fun t28=>
 Q (.tup [t27,t28]) h2) (
 ab 0 t3 fun t30=>
 ag t30 h0 fun t31=>
 ai .eql t31 (I 2) fun t32=>
 ifB t32 (
 C cO [a2,(.fn (.func p7) [] [t3])] h0 fun t35 h3=>
 ai .lss t35 (I 0) fun t37=>
 ifB t37 (
 Q (.tup [(I 0),(I 4)]) h3) (
 ak 2 a2 t35 fun t40=>
 ab 1 t40 fun t41=>
 ag t41 h3 fun t42=>
 C cH [t42] h3 fun t43 h4=>
 ao 0 t43 fun t44=>
 ao 1 t43 fun t45=>
 Q (.tup [t44,t45]) h4)) (
 ab 3 t3 fun t47=>
 ag t47 h0 fun t48=>
 aW t48 fun t49=>
 ai .eql t49 (I 0) fun t50=>
 ifB t50 (
 Q (.tup [(I 0),(I 6)]) h0) (
 ab 3 t3 fun t52=>
 ag t52 h0 fun t53=>
 ak 4 t53 (I 0) fun t54=>
 aq 4 t54 h0 fun t55=>
 C lN [t55,a1,a2] h0 fun t58 h5=>
 ao 0 t58 fun t59=>
 ao 1 t58 fun t60=>
 ai .neq t60 (I 0) fun t63=>
 ifB t63 (
 Q (.tup [(I 0),t60]) h5) (
 ab 3 t3 fun t66=>
 ag t66 h5 fun t67=>
 aW t67 fun t68=>
 ai .eql t68 (I 1) fun t69=>
 ifB t69 (
 qUn .neg t59 fun t71=>
 C cH [t71] h5 fun t72 h6=>
 ao 0 t72 fun t73=>
 ao 1 t72 fun t74=>
 Q (.tup [t73,t74]) h6) (
 ab 3 t3 fun t76=>
 ag t76 h5 fun t77=>
 ak 4 t77 (I 1) fun t78=>
 aq 4 t78 h5 fun t79=>
 C lN [t79,a1,a2] h5 fun t82 h7=>
 ao 0 t82 fun t83=>
 ao 1 t82 fun t84=>
 ai .neq t84 (I 0) fun t86=>
 ifB t86 (
 Q (.tup [(I 0),t84]) h7) (
 ab 0 t3 fun t88=>
 ag t88 h7 fun t89=>
 C uT [t89,t59,t83] h7 fun t92 h8=>
 ao 0 t92 fun t93=>
 ao 1 t92 fun t94=>
 Q (.tup [t93,t94]) h8)))))))
theorem jz (a0 a1 a2:AV) (h:ae) (Q:QT) (k:mO a0 a1 a2 h Q):C lN [a0,a1,a2] h Q:=
 okF (pl:=[]) Tryz.func63 Tryz.ntmps63 (by kernel_rfl) rfl (by kernel_rfl) k
def Dv (a0 a1:AV) (h:ae) (Q:QT):Prop:=
 gF a0 h fun t2 h0=>
 ab 0 t2 fun t4=>
 ag t4 h0 fun t5=>
 ab 2 a1 fun t6=>
 ag t6 h0 fun t7=>
 ai .eql t5 t7 fun t8=>
 Q t8 h0
theorem G9 (a0 a1:AV) (h:ae) (Q:QT) (k:Dv a0 a1 h Q):C p7 [a0,a1] h Q:=
 okF (pl:=[]) Tryz.func98 Tryz.ntmps98 (by kernel_rfl) rfl (by kernel_rfl) k
def rF (s3 s26:AV) (h:ae) (next6:NT):Prop:=
 ai .add s26 (I 1) fun t38=>
 next6 [s3,t38] h
def lF (s3 s26:AV) (h:ae) (next6:NT):Prop:=
 rF s3 s26 h next6
def wu (s25 s24 s19:AV) (next2:NT) (vs6:List AV) (h:ae) (next6:NT):Prop:=
 ai .lss (ap vs6 1) s25 fun t27=>
 ifB t27 (
 ak 1 s24 (ap vs6 1) fun t28=>
 ag t28 h fun t29=>
 C dh [(ap vs6 0),t29] h fun t32 h7=>
 qUn .not t32 fun t33=>
 ifB t33 (
 am 1 1 [t29] fun t36=>
 bl 1 16 (ap vs6 0) t36 h7 fun t37 h8=>
 lF t37 (ap vs6 1) h8 next6) (
 lF (ap vs6 0) (ap vs6 1) h7 next6)) (
 ai .add s19 (I 1) fun t39=>
 next2 [(ap vs6 0),t39] h)
def wY (s18 s17:AV) (Q:QT) (vs2:List AV) (h:ae) (next2:NT):Prop:=
 ai .lss (ap vs2 1) s18 fun t20=>
 ifB t20 (
 ak 4 s17 (ap vs2 1) fun t21=>
 aq 4 t21 h fun t22=>
 cP [(I 0),(I 0),(S ⟨#[]⟩),(.full 0 [])] h fun t5 h3=>
 an 4 t5 t22 h3 fun h4=>
 aq 4 t5 h4 fun t23=>
 C kA [t23] h4 fun t24 h5=>
 aW t24 fun t25=>
 bZ [(ap vs2 0),(I 0)] h5 fun vs6 h next6=>wu t25 t24 (ap vs2 1) next2 vs6 h next6) (
 C dR [(ap vs2 0)] h fun t41 h12=>
 Q t41 h12)
def l6 (s3 s1:AV) (h:ae) (Q:QT):Prop:=
 ab 3 s1 fun t16=>
 ag t16 h fun t17=>
 aW t17 fun t18=>
 bZ [s3,(I 0)] h fun vs2 h next2=>wY t18 t17 Q vs2 h next2
def Fp (a0:AV) (h:ae) (Q:QT):Prop:=
 gF a0 h fun t1 h0=>
 ab 0 t1 fun t8=>
 ag t8 h0 fun t9=>
 ai .eql t9 (I 2) fun t10=>
 ifB t10 (
 ab 2 t1 fun t12=>
 ag t12 h0 fun t13=>
 am 1 1 [t13] fun t14=>
 bl 1 16 (.full 0 []) t14 h0 fun t15 h1=>
 l6 t15 t1 h1 Q) (
 l6 (.full 0 []) t1 h0 Q)
theorem HD (a0:AV) (h:ae) (Q:QT) (k:Fp a0 h Q):C kA [a0] h Q:=
 okF (pl:=[(6,[3,5,7,19,20,21,22,23,24,25,26,27,28,29,30,31,32,33,34,35,36,37,38,39],[3,19]),(9,[3,7,26,27,28,29,30,31,32,33,34,35,36,37,38],[3,26])]) Tryz.func62 Tryz.ntmps62 (by kernel_rfl) rfl (by kernel_rfl) k
def Ha (a0:AV) (h:ae) (Q:QT):Prop:=
 cP [(I 0),(I 0),(S ⟨#[]⟩),(.full 0 [])] h fun t2 h0=>
 ax [(S ⟨#[]⟩),(I 0),(B false)] [(0,1,a0)] fun t6=>
 gF t6 h0 fun t7 h1=>
 C cB [t7,(I 0)] h1 fun t9 h2=>
 an 4 t2 t9 h2 fun h3=>
 C fa [t7] h3 fun t11 h4=>
 aF t7 fun t13=>
 ab 2 t13 fun t14=>
 ag t14 h4 fun t15=>
 ifB t15 (ax [(I 0),(I 0),(S ⟨#[]⟩),(.full 0 [])] [] fun t23=>
 an 4 t2 t23 h4 fun h5=>
 aq 4 t2 h5 fun r6=>
 Q (.tup [r6,(B false)]) h5) (
 aF t7 fun t18=>
 ab 0 t18 fun t19=>
 ag t19 h4 fun t20=>
 ai .neq t20 (S ⟨#[]⟩) fun t21=>
 ifB t21 (
 ax [(I 0),(I 0),(S ⟨#[]⟩),(.full 0 [])] [] fun t23=>
 an 4 t2 t23 h4 fun h7=>
 aq 4 t2 h7 fun r8=>
 Q (.tup [r8,(B false)]) h7) (
 aq 4 t2 h4 fun t24=>
 an 4 t2 t24 h4 fun h9=>
 aq 4 t2 h9 fun r10=>
 Q (.tup [r10,(B true)]) h9))
theorem HV (a0:AV) (h:ae) (Q:QT) (k:Ha a0 h Q):C rY [a0] h Q:=
 okF (pl:=[]) Tryz.func177 Tryz.ntmps177 (by kernel_rfl) rfl (by kernel_rfl) k
def GZ (s8 s0 s1:AV) (Q:QT) (vs1:List AV) (h:ae) (next1:NT):Prop:=
 zP s8 h fun t9 h2=>
 ao 0 t9 fun t10=>
 ifB t10 (
 ao 1 t9 fun t11=>
 ao 2 t9 fun t12=>
 CV s1 [t12] h2 fun t15 h3=>
 qUn .not t15 fun t16=>
 ifB t16 (
 bo s0 none (some t11) fun t19=>
 Q t19 h3) (
 next1 [(ap vs1 0)] h3)) (
 Q s0 h2)
def Rj (a0 a1:AV) (h:ae) (Q:QT):Prop:=
 tU a0 h fun t8 h0=>
 bZ [(S ⟨#[]⟩)] h0 fun vs1 h next1=>GZ t8 a0 a1 Q vs1 h next1
theorem PP (a0 a1:AV) (h:ae) (Q:QT) (k:Rj a0 a1 h Q):C cN [a0,a1] h Q:=
 okF (pl:=[(3,[4,5,6,9,10,11,12,13,14,15,16,17,18,19],[4])]) Tryz.func215 Tryz.ntmps215 (by kernel_rfl) rfl (by kernel_rfl) k
def H8 (a0 a1 a2:AV) (h:ae) (Q:QT):Prop:=
 ai .eql a0 (I 5) fun t10=>
 ifB t10 (
 ai .add a1 a2 fun t13=>
 C cH [t13] h fun t14 h0=>
 ao 0 t14 fun t15=>
 ao 1 t14 fun t16=>
 Q (.tup [t15,t16]) h0) (
 ai .eql a0 (I 6) fun t18=>
 ifB t18 (
 ai .sub a1 a2 fun t21=>
 C cH [t21] h fun t22 h1=>
 ao 0 t22 fun t23=>
 ao 1 t22 fun t24=>
 Q (.tup [t23,t24]) h1) (
 ai .eql a0 (I 7) fun t26=>
 ifB t26 (
 C ny [a1,a2] h fun t29 h2=>
 ao 0 t29 fun t30=>
 ao 1 t29 fun t31=>
 Q (.tup [t30,t31]) h2) (
 ai .eql a0 (I 8) fun t33=>
 ifB t33 (
 ai .and a1 a2 fun t36=>
 C cH [t36] h fun t37 h3=>
 ao 0 t37 fun t38=>
 ao 1 t37 fun t39=>
 Q (.tup [t38,t39]) h3) (
 ai .eql a0 (I 9) fun t41=>
 ifB t41 (
 ai .or a1 a2 fun t44=>
 C cH [t44] h fun t45 h4=>
 ao 0 t45 fun t46=>
 ao 1 t45 fun t47=>
 Q (.tup [t46,t47]) h4) (
 ai .lss a2 (I 0) fun t49=>
 ifB t49 (Q (.tup [(I 0),(I 6)]) h) (
 ai .gtr a2 (I 40) fun t52=>
 ifB t52 (
 Q (.tup [(I 0),(I 6)]) h) (
 ai .eql a0 (I 11) fun t55=>
 ifB t55 (
 ai .shr a1 a2 fun t58=>
 C cH [t58] h fun t59 h5=>
 ao 0 t59 fun t60=>
 ao 1 t59 fun t61=>
 Q (.tup [t60,t61]) h5) (
 ai .shl (I 1) a2 fun t64=>
 C ny [a1,t64] h fun t65 h6=>
 ao 0 t65 fun t66=>
 ao 1 t65 fun t67=>
 Q (.tup [t66,t67]) h6))))))))
theorem Kj (a0 a1 a2:AV) (h:ae) (Q:QT) (k:H8 a0 a1 a2 h Q):C uT [a0,a1,a2] h Q:=
 okF (pl:=[]) Tryz.func99 Tryz.ntmps99 (by kernel_rfl) rfl (by kernel_rfl) k
def FZ (a0:AV) (h:ae) (Q:QT):Prop:=
 ai .lss a0 (I (-1099511627776)) fun t5=>
 ifB t5 (Q (.tup [(I 0),(I 6)]) h) (
 ai .gtr a0 (I 1099511627776) fun t8=>
 ifB t8 (
 Q (.tup [(I 0),(I 6)]) h) (
 Q (.tup [a0,(I 0)]) h))
theorem Hf (a0:AV) (h:ae) (Q:QT) (k:FZ a0 h Q):C cH [a0] h Q:=
 okF (pl:=[]) Tryz.func96 Tryz.ntmps96 (by kernel_rfl) rfl (by kernel_rfl) k
def Fk (a0:AV) (h:ae) (Q:QT):Prop:=
 ai .geq a0 (.lit (.int .i32 48)) fun t4=>
 ifB t4 (ai .leq a0 (.lit (.int .i32 57)) fun t7=>
 Q t7 h) (
 Q (B false) h)
theorem Hr (a0:AV) (h:ae) (Q:QT) (k:Fk a0 h Q):C cV [a0] h Q:=
 okF (pl:=[]) Tryz.func219 Tryz.ntmps219 (by kernel_rfl) rfl (by kernel_rfl) k
def OU (a0:AV) (h:ae) (Q:QT):Prop:=
 C cV [a0] h fun t4 h0=>
 ifB t4 (Q (B true) h0) (
 ai .geq a0 (.lit (.int .i32 97)) fun t7=>
 ifT t7 (ai .leq a0 (.lit (.int .i32 102)) fun t10=>
 Q t10 h0) (
 Q (B false) h0) (
 ifB (.tup []) (Q (.tup []) h0) (Q (B false) h0)))
theorem L7 (a0:AV) (h:ae) (Q:QT) (k:OU a0 h Q):C ll [a0] h Q:=
 okF (pl:=[]) Tryz.func216 Tryz.ntmps216 (by kernel_rfl) rfl (by kernel_rfl) k
def EG (a0:AV) (h:ae) (Q:QT):Prop:=
 C sf [a0] h fun t4 h0=>
 ifB t4 (Q (B true) h0) (
 C cV [a0] h0 fun t7 h1=>
 Q t7 h1)
theorem Hz (a0:AV) (h:ae) (Q:QT) (k:EG a0 h Q):C dW [a0] h Q:=
 okF (pl:=[]) Tryz.func220 Tryz.ntmps220 (by kernel_rfl) rfl (by kernel_rfl) k
def Du (h:ae) (Q:QT):Prop:=
 am 1 1 [(I 9)] fun t1=>
 am 1 1 [(I 8)] fun t2=>
 am 2 1 [(I 10),(I 11)] fun t3=>
 am 2 1 [(I 5),(I 6)] fun t4=>
 am 1 1 [(I 7)] fun t5=>
 am 5 1 [t1,t2,t3,t4,t5] fun t6=>
 Q t6 h
theorem Fx (h:ae) (Q:QT) (k:Du  h Q):C iW [] h Q:=
 okF (pl:=[]) Tryz.func203 Tryz.ntmps203 (by kernel_rfl) rfl (by kernel_rfl) k
def lD (a0 a1:AV) (h:ae) (Q:QT):Prop:=
 gF a1 h fun t3 h0=>
 cP [(I 0),(I 0),(S ⟨#[]⟩),(.full 0 [])] h0 fun t4 h1=>
 aF a0 fun t6=>
 ab 0 t6 fun t7=>
 ag t7 h1 fun t8=>
 C cN [t8,(.fn (.func dW) [] [])] h1 fun t9 h2=>
 ai .neq t9 (S ⟨#[]⟩) fun t10=>
 ifB t10 (
 C bU [a0] h2 fun t12 h3=>
 an 4 t4 t12 h3 fun h4=>
 aq 4 t4 h4 fun r5=>
 Q r5 h4) (
 aq 4 t3 h2 fun t13=>
 an 4 t4 t13 h2 fun h6=>
 aq 4 t4 h6 fun r7=>
 Q r7 h6)
theorem nW (a0 a1:AV) (h:ae) (Q:QT) (k:lD a0 a1 h Q):C cF [a0,a1] h Q:=
 okF (pl:=[]) Tryz.func217 Tryz.ntmps217 (by kernel_rfl) rfl (by kernel_rfl) k
def qa (a0:AV) (h:ae) (Q:QT):Prop:=
 aF a0 fun t4=>
 ab 0 t4 fun t5=>
 ag t5 h fun t6=>
 C jO [t6,(S ⟨#[32]⟩)] h fun t7 h0=>
 aF a0 fun t8=>
 ab 0 t8 fun t9=>
 an 1 t9 t7 h0 fun h1=>
 Q (.tup []) h1
theorem vu (a0:AV) (h:ae) (Q:QT) (k:qa a0 h Q):C fa [a0] h Q:=
 okF (pl:=[]) Tryz.func191 Tryz.ntmps191 (by kernel_rfl) rfl (by kernel_rfl) k
def tv (a0:AV) (h:ae) (Q:QT):Prop:=
 cP [(I 0),(I 0),(S ⟨#[]⟩),(.full 0 [])] h fun t2 h0=>
 aF a0 fun t4=>
 ab 2 t4 fun t5=>
 an 1 t5 (B true) h0 fun h1=>
 ax [(I 0),(I 0),(S ⟨#[]⟩),(.full 0 [])] [] fun t6=>
 an 4 t2 t6 h1 fun h2=>
 aq 4 t2 h2 fun r3=>
 Q r3 h2
theorem xR (a0:AV) (h:ae) (Q:QT) (k:tv a0 h Q):C bU [a0] h Q:=
 okF (pl:=[]) Tryz.func222 Tryz.ntmps222 (by kernel_rfl) rfl (by kernel_rfl) k
def rn (a0:AV) (h:ae) (Q:QT):Prop:=
 cP [(I 0),(I 0),(S ⟨#[]⟩),(.full 0 [])] h fun t2 h0=>
 C cB [a0,(I 0)] h0 fun t5 h1=>
 cP [(I 0),(I 0),(S ⟨#[]⟩),(.full 0 [])] h1 fun t3 h2=>
 an 4 t3 t5 h2 fun h3=>
 C cq [a0,(S ⟨#[41]⟩)] h3 fun t7 h4=>
 qUn .not t7 fun t8=>
 ifB t8 (
 C bU [a0] h4 fun t10 h5=>
 an 4 t2 t10 h5 fun h6=>
 aq 4 t2 h6 fun r7=>
 Q r7 h6) (
 aq 4 t3 h4 fun t11=>
 an 4 t2 t11 h4 fun h8=>
 aq 4 t2 h8 fun r9=>
 Q r9 h8)
theorem ww (a0:AV) (h:ae) (Q:QT) (k:rn a0 h Q):C fD [a0] h Q:=
 okF (pl:=[]) Tryz.func212 Tryz.ntmps212 (by kernel_rfl) rfl (by kernel_rfl) k
def jN (s8 s7 s0:AV) (Q:QT) (vs0:List AV) (h:ae) (next0:NT):Prop:=
 ai .lss (ap vs0 1) s8 fun t10=>
 ifB t10 (
 ak 1 s7 (ap vs0 1) fun t11=>
 ag t11 h fun t12=>
 C sC [] h fun t14 h1=>
 ak 1 t14 t12 fun t16=>
 ag t16 h1 fun t17=>
 C cq [s0,t17] h1 fun t18 h2=>
 ifB t18 (
 Q t12 h2) (
 ai .add (ap vs0 1) (I 1) fun t20=>
 next0 [(ap vs0 0),t20] h2)) (
 Q (I 0) h)
def mZ (a0 a1:AV) (h:ae) (Q:QT):Prop:=
 aW a1 fun t8=>
 bZ [(I 0),(I 0)] h fun vs0 h next0=>jN t8 a1 a0 Q vs0 h next0
theorem oB (a0 a1:AV) (h:ae) (Q:QT) (k:mZ a0 a1 h Q):C eA [a0,a1] h Q:=
 okF (pl:=[(3,[4,6,9,10,11,12,13,14,15,16,17,18,19,20],[4,9])]) Tryz.func205 Tryz.ntmps205 (by kernel_rfl) rfl (by kernel_rfl) k
def rj (a0:AV) (h:ae) (Q:QT):Prop:=
 cP [(I 0),(I 0),(S ⟨#[]⟩),(.full 0 [])] h fun t2 h0=>
 C c5 [a0] h0 fun t4 h1=>
 am 1 4 [t4] fun t5=>
 ax [(I 0),(I 0),(S ⟨#[]⟩),(.full 0 [])] [(0,1,(I 4)),(3,1,t5)] fun t6=>
 an 4 t2 t6 h1 fun h2=>
 aq 4 t2 h2 fun r3=>
 Q r3 h2
theorem vB (a0:AV) (h:ae) (Q:QT) (k:rj a0 h Q):C fu [a0] h Q:=
 okF (pl:=[]) Tryz.func213 Tryz.ntmps213 (by kernel_rfl) rfl (by kernel_rfl) k
def eZ (s10 s7 s6 s0 s2:AV) (h:ae) (next2:NT) (Q:QT):Prop:=
 ai .mul s7 s2 fun t27=>
 ai .add t27 s10 fun t29=>
 ai .geq t29 (I 4294967296) fun t31=>
 ifB t31 (
 C bU [s0] h fun t33 h4=>
 an 4 s6 t33 h4 fun h5=>
 aq 4 s6 h5 fun r6=>
 Q r6 h5) (
 next2 [t29] h)
def lY (s12 s6 s0 s1 s2:AV) (Q:QT) (vs2:List AV) (h:ae) (next2:NT):Prop:=
 zP s12 h fun t13 h3=>
 ao 0 t13 fun t14=>
 ifB t14 (
 ao 2 t13 fun t15=>
 ai .sub t15 (.lit (.int .i32 48)) fun t17=>
 ci .i64 t17 fun t18=>
 ai .geq t15 (.lit (.int .i32 97)) fun t20=>
 ifB t20 (
 ai .sub t15 (.lit (.int .i32 97)) fun t22=>
 ci .i64 t22 fun t23=>
 ai .add t23 (I 10) fun t24=>
 eZ t24 (ap vs2 0) s6 s0 s2 h3 next2 Q) (
 eZ t18 (ap vs2 0) s6 s0 s2 h3 next2 Q)) (
 aF s0 fun t36=>
 ab 0 t36 fun t37=>
 ag t37 h3 fun t38=>
 bK s1 fun t40=>
 bo t38 (some t40) none fun t41=>
 aF s0 fun t42=>
 ab 0 t42 fun t43=>
 an 1 t43 t41 h3 fun h8=>
 ax [(I 0),(I 0),(S ⟨#[]⟩),(.full 0 [])] [(0,1,(I 1)),(1,1,(ap vs2 0))] fun t45=>
 an 4 s6 t45 h8 fun h9=>
 aq 4 s6 h9 fun r10=>
 Q r10 h9)
def pR (a0 a1 a2:AV) (h:ae) (Q:QT):Prop:=
 cP [(I 0),(I 0),(S ⟨#[]⟩),(.full 0 [])] h fun t6 h0=>
 tU a1 h0 fun t12 h1=>
 bZ [(I 0)] h1 fun vs2 h next2=>lY t12 t6 a0 a1 a2 Q vs2 h next2
theorem vr (a0 a1 a2:AV) (h:ae) (Q:QT) (k:pR a0 a1 a2 h Q):C cu [a0,a1,a2] h Q:=
 okF (pl:=[(4,[7,9,10,13,14,15,16,17,18,19,20,21,22,23,24,25,26,27,28,29,30,31,32,33],[7])]) Tryz.func218 Tryz.ntmps218 (by kernel_rfl) rfl (by kernel_rfl) k
def vg (a0:AV) (h:ae) (Q:QT):Prop:=
 cP [(I 0),(I 0),(S ⟨#[]⟩),(.full 0 [])] h fun t2 h0=>
 C cq [a0,(S ⟨#[40]⟩)] h0 fun t7 h1=>
 ifB t7 (
 C cU [a0,(.fn (.func fD) [a0] [])] h1 fun t11 h2=>
 an 4 t2 t11 h2 fun h3=>
 aq 4 t2 h3 fun r4=>
 Q r4 h3) (
 C cq [a0,(S ⟨#[45]⟩)] h1 fun t14 h5=>
 ifB t14 (
 C cU [a0,(.fn (.func fu) [a0] [])] h5 fun t18 h6=>
 an 4 t2 t18 h6 fun h7=>
 aq 4 t2 h7 fun r8=>
 Q r8 h7) (
 C cq [a0,(S ⟨#[46]⟩)] h5 fun t21 h9=>
 ifB t21 (
 ax [(I 0),(I 0),(S ⟨#[]⟩),(.full 0 [])] [(0,1,(I 3))] fun t22=>
 an 4 t2 t22 h9 fun h10=>
 aq 4 t2 h10 fun r11=>
 Q r11 h10) (
 aF a0 fun t25=>
 ab 2 t25 fun t26=>
 ag t26 h9 fun t27=>
 ifB t27 (
 ax [(I 0),(I 0),(S ⟨#[]⟩),(.full 0 [])] [] fun t28=>
 an 4 t2 t28 h9 fun h12=>
 aq 4 t2 h12 fun r13=>
 Q r13 h12) (
 aF a0 fun t30=>
 ab 0 t30 fun t31=>
 ag t31 h9 fun t32=>
 C fw [t32,(S ⟨#[48,120]⟩)] h9 fun t33 h14=>
 ifB t33 (aF a0 fun t36=>
 ab 0 t36 fun t37=>
 ag t37 h14 fun t38=>
 bo t38 (some (I 2)) none fun t39=>
 C cN [t39,(.fn (.func ll) [] [])] h14 fun t40 h15=>
 ai .neq t40 (S ⟨#[]⟩) fun t41=>
 ifB t41 (
 aF a0 fun t45=>
 ab 0 t45 fun t46=>
 ag t46 h15 fun t47=>
 bo t47 (some (I 2)) none fun t48=>
 aF a0 fun t49=>
 ab 0 t49 fun t50=>
 an 1 t50 t48 h15 fun h16=>
 aF a0 fun t54=>
 ab 0 t54 fun t55=>
 ag t55 h16 fun t56=>
 C cN [t56,(.fn (.func ll) [] [])] h16 fun t57 h17=>
 C cu [a0,t57,(I 16)] h17 fun t58 h18=>
 C cF [a0,t58] h18 fun t59 h19=>
 an 4 t2 t59 h19 fun h20=>
 aq 4 t2 h20 fun r21=>
 Q r21 h20) (
 aF a0 fun t61=>
 ab 0 t61 fun t62=>
 ag t62 h15 fun t63=>
 C cN [t63,(.fn (.func cV) [] [])] h15 fun t64 h22=>
 ai .neq t64 (S ⟨#[]⟩) fun t66=>
 ifB t66 (
 C cu [a0,t64,(I 10)] h22 fun t70 h23=>
 C cF [a0,t70] h23 fun t71 h24=>
 an 4 t2 t71 h24 fun h25=>
 aq 4 t2 h25 fun r26=>
 Q r26 h25) (
 aF a0 fun t73=>
 ab 0 t73 fun t74=>
 ag t74 h22 fun t75=>
 C cN [t75,(.fn (.func dW) [] [])] h22 fun t76 h27=>
 C lJ [t76] h27 fun t78 h28=>
 ifB t78 (
 aF a0 fun t81=>
 ab 0 t81 fun t82=>
 ag t82 h28 fun t83=>
 bK t76 fun t85=>
 bo t83 (some t85) none fun t86=>
 aF a0 fun t87=>
 ab 0 t87 fun t88=>
 an 1 t88 t86 h28 fun h29=>
 ax [(I 0),(I 0),(S ⟨#[]⟩),(.full 0 [])] [(0,1,(I 2)),(2,1,t76)] fun t90=>
 an 4 t2 t90 h29 fun h30=>
 aq 4 t2 h30 fun r31=>
 Q r31 h30) (
 C bU [a0] h28 fun t92 h32=>
 an 4 t2 t92 h32 fun h33=>
 aq 4 t2 h33 fun r34=>
 Q r34 h33)))) (
 aF a0 fun t61=>
 ab 0 t61 fun t62=>
 ag t62 h14 fun t63=>
 C cN [t63,(.fn (.func cV) [] [])] h14 fun t64 h35=>
 ai .neq t64 (S ⟨#[]⟩) fun t66=>
 ifB t66 (
 C cu [a0,t64,(I 10)] h35 fun t70 h36=>
 C cF [a0,t70] h36 fun t71 h37=>
 an 4 t2 t71 h37 fun h38=>
 aq 4 t2 h38 fun r39=>
 Q r39 h38) (
 aF a0 fun t73=>
 ab 0 t73 fun t74=>
 ag t74 h35 fun t75=>
 C cN [t75,(.fn (.func dW) [] [])] h35 fun t76 h40=>
 C lJ [t76] h40 fun t78 h41=>
 ifB t78 (
 aF a0 fun t81=>
 ab 0 t81 fun t82=>
 ag t82 h41 fun t83=>
 bK t76 fun t85=>
 bo t83 (some t85) none fun t86=>
 aF a0 fun t87=>
 ab 0 t87 fun t88=>
 an 1 t88 t86 h41 fun h42=>
 ax [(I 0),(I 0),(S ⟨#[]⟩),(.full 0 [])] [(0,1,(I 2)),(2,1,t76)] fun t90=>
 an 4 t2 t90 h42 fun h43=>
 aq 4 t2 h43 fun r44=>
 Q r44 h43) (
 C bU [a0] h41 fun t92 h45=>
 an 4 t2 t92 h45 fun h46=>
 aq 4 t2 h46 fun r47=>
 Q r47 h46)))))))
theorem zF (a0:AV) (h:ae) (Q:QT) (k:vg a0 h Q):C c5 [a0] h Q:=
 okF (pl:=[]) Tryz.func204 Tryz.ntmps204 (by kernel_rfl) rfl (by kernel_rfl) k
def mS (a0 a1:AV) (h:ae) (Q:QT):Prop:=
 C fa [a0] h fun t6 h0=>
 aF a0 fun t8=>
 ab 2 t8 fun t9=>
 ag t9 h0 fun t10=>
 ifB t10 (Q (B false) h0) (
 aF a0 fun t13=>
 ab 0 t13 fun t14=>
 ag t14 h0 fun t15=>
 C fw [t15,a1] h0 fun t17 h1=>
 qUn .not t17 fun t18=>
 ifB t18 (
 Q (B false) h1) (
 aF a0 fun t22=>
 ab 0 t22 fun t23=>
 ag t23 h1 fun t24=>
 bK a1 fun t26=>
 bo t24 (some t26) none fun t27=>
 aF a0 fun t28=>
 ab 0 t28 fun t29=>
 an 1 t29 t27 h1 fun h2=>
 Q (B true) h2))
theorem oG (a0 a1:AV) (h:ae) (Q:QT) (k:mS a0 a1 h Q):C cq [a0,a1] h Q:=
 okF (pl:=[]) Tryz.func210 Tryz.ntmps210 (by kernel_rfl) rfl (by kernel_rfl) k
def jZ (s5 s4 s0 s1:AV) (Q:QT) (vs10:List AV) (h:ae) (next10:NT):Prop:=
 ai .neq (ap vs10 0) (I 0) fun t24=>
 ifB t24 (aF s0 fun t27=>
 ab 2 t27 fun t28=>
 ag t28 h fun t29=>
 qUn .not t29 fun t30=>
 ifB t30 (
 aq 4 s5 h fun t39=>
 ai .add s1 (I 1) fun t42=>
 C cB [s0,t42] h fun t43 h11=>
 (aq 4 s5 h11 fun _t=>
 _t=t39)∧
 am 2 4 [t39,t43] fun t44=>
 ax [(I 0),(I 0),(S ⟨#[]⟩),(.full 0 [])] [(0,1,(ap vs10 0)),(3,1,t44)] fun t45=>
 an 4 s5 t45 h11 fun h12=>
 C iW [] h12 fun t33 h13=>
 ak 1 t33 s1 fun t35=>
 ag t35 h13 fun t36=>
 C eA [s0,t36] h13 fun t37 h14=>
 next10 [t37] h14) (
 aq 4 s5 h fun t46=>
 an 4 s4 t46 h fun h15=>
 aq 4 s4 h15 fun r16=>
 Q r16 h15)) (
 aq 4 s5 h fun t46=>
 an 4 s4 t46 h fun h17=>
 aq 4 s4 h17 fun r18=>
 Q r18 h17)
def ov (a0 a1:AV) (h:ae) (Q:QT):Prop:=
 cP [(I 0),(I 0),(S ⟨#[]⟩),(.full 0 [])] h fun t4 h0=>
 C iW [] h0 fun t8 h1=>
 aW t8 fun t9=>
 ai .eql a1 t9 fun t10=>
 ifB t10 (
 C c5 [a0] h1 fun t12 h2=>
 an 4 t4 t12 h2 fun h3=>
 aq 4 t4 h3 fun r4=>
 Q r4 h3) (
 ai .add a1 (I 1) fun t15=>
 C cB [a0,t15] h1 fun t16 h5=>
 cP [(I 0),(I 0),(S ⟨#[]⟩),(.full 0 [])] h5 fun t5 h6=>
 an 4 t5 t16 h6 fun h7=>
 C iW [] h7 fun t18 h8=>
 ak 1 t18 a1 fun t20=>
 ag t20 h8 fun t21=>
 C eA [a0,t21] h8 fun t22 h9=>
 bZ [t22] h9 fun vs10 h next10=>jZ t5 t4 a0 a1 Q vs10 h next10)
theorem pM (a0 a1:AV) (h:ae) (Q:QT) (k:ov a0 a1 h Q):C cB [a0,a1] h Q:=
 okF (pl:=[(6,[6,23,24,25,26,27,28,29,30,31,32,33,34,35,36,37,38,39,40,41,42,43,44,45],[6]),(1000007,[0,1,2,3,4,5,6,7,8],[])]) Tryz.func190 Tryz.ntmps190 (by kernel_rfl) rfl (by kernel_rfl) k
def kR (a0 a1:AV) (h:ae) (Q:QT):Prop:=
 cP [(I 0),(I 0),(S ⟨#[]⟩),(.full 0 [])] h fun t4 h0=>
 aF a0 fun t7=>
 ab 1 t7 fun t8=>
 ag t8 h0 fun t9=>
 ai .geq t9 (I 12) fun t10=>
 ifB t10 (
 C bU [a0] h0 fun t12 h1=>
 an 4 t4 t12 h1 fun h2=>
 aq 4 t4 h2 fun r3=>
 Q r3 h2) (
 aF a0 fun t14=>
 ab 1 t14 fun t15=>
 ag t15 h0 fun t16=>
 ai .add t16 (I 1) fun t17=>
 aF a0 fun t18=>
 ab 1 t18 fun t19=>
 an 1 t19 t17 h0 fun h4=>
 CV a1 [] h4 fun t21 h5=>
 cP [(I 0),(I 0),(S ⟨#[]⟩),(.full 0 [])] h5 fun t5 h6=>
 an 4 t5 t21 h6 fun h7=>
 aF a0 fun t23=>
 ab 1 t23 fun t24=>
 ag t24 h7 fun t25=>
 ai .sub t25 (I 1) fun t26=>
 aF a0 fun t27=>
 ab 1 t27 fun t28=>
 an 1 t28 t26 h7 fun h8=>
 aq 4 t5 h8 fun t29=>
 an 4 t4 t29 h8 fun h9=>
 aq 4 t4 h9 fun r10=>
 Q r10 h9)
theorem mF (a0 a1:AV) (h:ae) (Q:QT) (k:kR a0 a1 h Q):C cU [a0,a1] h Q:=
 okF (pl:=[]) Tryz.func211 Tryz.ntmps211 (by kernel_rfl) rfl (by kernel_rfl) k
def F7 (h:ae) (Q:QT):Prop:=
 am 12 1 [(S ⟨#[]⟩),(S ⟨#[]⟩),(S ⟨#[]⟩),(S ⟨#[46]⟩),(S ⟨#[45]⟩),(S ⟨#[43]⟩),(S ⟨#[45]⟩),(S ⟨#[42]⟩),(S ⟨#[38]⟩),(S ⟨#[124]⟩),(S ⟨#[60,60]⟩),(S ⟨#[62,62]⟩)] fun t1=>
 Q t1 h
theorem Hw (h:ae) (Q:QT) (k:F7  h Q):C sC [] h Q:=
 okF (pl:=[]) Tryz.func223 Tryz.ntmps223 (by kernel_rfl) rfl (by kernel_rfl) k
def F3 (a0:AV) (h:ae) (Q:QT):Prop:=
 ai .geq a0 (.lit (.int .i32 97)) fun t4=>
 ifB t4 (ai .leq a0 (.lit (.int .i32 122)) fun t7=>
 ifB t7 (Q (B true) h) (
 ai .eql a0 (.lit (.int .i32 95)) fun t11=>
 Q t11 h)) (
 ai .eql a0 (.lit (.int .i32 95)) fun t11=>
 Q t11 h)
theorem Ho (a0:AV) (h:ae) (Q:QT) (k:F3 a0 h Q):C sf [a0] h Q:=
 okF (pl:=[]) Tryz.func230 Tryz.ntmps230 (by kernel_rfl) rfl (by kernel_rfl) k
def EN (a0 a1:AV) (h:ae) (Q:QT):Prop:=
 ai .eql a0 (I 0) fun t8=>
 ifB t8 (Q (.tup [(I 0),(I 0)]) h) (
 ai .eql a1 (I 0) fun t11=>
 ifB t11 (
 Q (.tup [(I 0),(I 0)]) h) (
 ai .mul a0 a1 fun t15=>
 qUn .neg a0 fun t18=>
 B0 a0 t18 fun t19=>
 qUn .neg a1 fun t22=>
 B0 a1 t22 fun t23=>
 ai .quo (I 1099511627776) t23 fun t24=>
 ai .gtr t19 t24 fun t25=>
 ifB t25 (
 Q (.tup [(I 0),(I 6)]) h) (
 C cH [t15] h fun t27 h0=>
 ao 0 t27 fun t28=>
 ao 1 t27 fun t29=>
 Q (.tup [t28,t29]) h0)))
theorem Hv (a0 a1:AV) (h:ae) (Q:QT) (k:EN a0 a1 h Q):C ny [a0,a1] h Q:=
 okF (pl:=[]) Tryz.func129 Tryz.ntmps129 (by kernel_rfl) rfl (by kernel_rfl) k
def IB (a0:AV) (h:ae) (Q:QT):Prop:=
 ai .eql a0 (S ⟨#[]⟩) fun t4=>
 ifB t4 (Q (B false) h) (
 bK a0 fun t7=>
 ai .gtr t7 (I 12) fun t8=>
 ifB t8 (Q (B false) h) (
 bk a0 (I 0) fun t12=>
 ci .i32 t12 fun t13=>
 C cV [t13] h fun t14 h0=>
 ifB t14 (Q (B false) h0) (
 C cN [a0,(.fn (.func dW) [] [])] h0 fun t18 h1=>
 ai .neq t18 a0 fun t20=>
 ifB t20 (
 Q (B false) h1) (
 bk a0 (I 0) fun t23=>
 ai .neq t23 (.lit (.int .u8 114)) fun t24=>
 ifB t24 (Q (B true) h1) (
 bK a0 fun t27=>
 ai .eql t27 (I 1) fun t28=>
 ifB t28 (Q (B true) h1) (
 bo a0 (some (I 1)) none fun t32=>
 bo a0 (some (I 1)) none fun t35=>
 C cN [t32,(.fn (.func cV) [] [])] h1 fun t33 h2=>
 ai .neq t33 t35 fun t36=>
 Q t36 h2))))))
theorem J5 (a0:AV) (h:ae) (Q:QT) (k:IB a0 h Q):C lJ [a0] h Q:=
 okF (pl:=[(1000003,[0,1,2,3,4,5,6,7,8,9,10,12,13,11,14,15,16],[])]) Tryz.func221 Tryz.ntmps221 (by kernel_rfl) rfl (by kernel_rfl) k
def jh (s0 s4 s2:AV) (h:ae) (Q:QT):Prop:=
 ai .eql s0 (S ⟨#[]⟩) fun t47=>
 ifB t47 (
 aF s4 fun t49=>
 ab 0 t49 fun t50=>
 ab 1 t50 fun t51=>
 ag t51 h fun t52=>
 ai .eql t52 (S ⟨#[]⟩) fun t53=>
 ifB t53 (
 ax [(I 0),(S ⟨#[]⟩),(I 0),(I 0),(S ⟨#[]⟩),(.full 0 [])] [] fun t54=>
 an 6 s2 t54 h fun h12=>
 aq 6 s2 h12 fun r13=>
 Q (.tup [r13,(B true)]) h12) (
 aF s4 fun t56=>
 ab 0 t56 fun t57=>
 aq 6 t57 h fun t58=>
 an 6 s2 t58 h fun h14=>
 aq 6 s2 h14 fun r15=>
 Q (.tup [r15,(B true)]) h14)) (
 C eL [s0,(.fn (.func nu) [] [])] h fun t60 h16=>
 bo s0 none (some t60) fun t64=>
 bo s0 (some t60) none fun t67=>
 C ft [t67,(S ⟨#[32,9]⟩)] h16 fun t68 h17=>
 C fR [s4,t64,t68] h17 fun t69 h18=>
 qUn .not t69 fun t70=>
 ifB t70 (
 ax [(I 0),(S ⟨#[]⟩),(I 0),(I 0),(S ⟨#[]⟩),(.full 0 [])] [] fun t71=>
 an 6 s2 t71 h18 fun h19=>
 aq 6 s2 h19 fun r20=>
 Q (.tup [r20,(B false)]) h19) (
 aF s4 fun t74=>
 ab 0 t74 fun t75=>
 ab 5 t75 fun t76=>
 ag t76 h18 fun t77=>
 C dA [t77] h18 fun t78 h21=>
 aF s4 fun t79=>
 ab 0 t79 fun t80=>
 ab 5 t80 fun t81=>
 an 1 t81 t78 h21 fun h22=>
 aF s4 fun t83=>
 ab 0 t83 fun t84=>
 aq 6 t84 h22 fun t85=>
 an 6 s2 t85 h22 fun h23=>
 aq 6 s2 h23 fun r24=>
 Q (.tup [r24,(B true)]) h23))
def OP (a0:AV) (h:ae) (Q:QT):Prop:=
 cP [(I 0),(S ⟨#[]⟩),(I 0),(I 0),(S ⟨#[]⟩),(.full 0 [])] h fun t2 h0=>
 C jd [a0,(.lit (.int .u8 10))] h0 fun t8 h1=>
 ai .geq t8 (I 0) fun t9=>
 ifB t9 (
 ax [(I 0),(S ⟨#[]⟩),(I 0),(I 0),(S ⟨#[]⟩),(.full 0 [])] [] fun t10=>
 an 6 t2 t10 h1 fun h2=>
 aq 6 t2 h2 fun r3=>
 Q (.tup [r3,(B false)]) h2) (
 C tG [a0] h1 fun t12 h4=>
 ax [(I 0),(S ⟨#[]⟩),(I 0),(I 0),(S ⟨#[]⟩),(.full 0 [])] [(0,1,(I 1))] fun t13=>
 ax [(I 0),(S ⟨#[]⟩),(I 0),(I 0),(S ⟨#[]⟩),(.full 0 [])] [(0,6,t13)] fun t14=>
 gF t14 h4 fun t15 h5=>
 C eL [t12,(.fn (.func kj) [] [])] h5 fun t17 h6=>
 bK t12 fun t20=>
 ai .lss t17 t20 fun t21=>
 ifB t21 (bk t12 t17 fun t25=>
 ai .eql t25 (.lit (.int .u8 58)) fun t26=>
 ifB t26 (
 bo t12 none (some t17) fun t30=>
 C pf [t30] h6 fun t31 h7=>
 qUn .not t31 fun t32=>
 ifB t32 (
 ax [(I 0),(S ⟨#[]⟩),(I 0),(I 0),(S ⟨#[]⟩),(.full 0 [])] [] fun t33=>
 an 6 t2 t33 h7 fun h8=>
 aq 6 t2 h8 fun r9=>
 Q (.tup [r9,(B false)]) h8) (
 bo t12 none (some t17) fun t37=>
 ai .add t17 (I 1) fun t40=>
 bo t12 (some t40) none fun t41=>
 C ft [t41,(S ⟨#[32,9]⟩)] h7 fun t42 h10=>
 aF t15 fun t43=>
 ab 0 t43 fun t44=>
 ab 1 t44 fun t45=>
 an 1 t45 t37 h10 fun h11=>
 jh t42 t15 t2 h11 Q)) (
 jh t12 t15 t2 h6 Q)) (
 jh t12 t15 t2 h6 Q))
theorem MI (a0:AV) (h:ae) (Q:QT) (k:OP a0 h Q):C w4 [a0] h Q:=
 okF (pl:=[(1000009,[0,1,2,3,4,5,6,7,8,9,10,11,12,13],[]),(1000015,[0,1,2,3,4,5,6,7,8,9],[])]) Tryz.func73 Tryz.ntmps73 (by kernel_rfl) rfl (by kernel_rfl) k
def Fe (a0:AV) (h:ae) (Q:QT):Prop:=
 ai .neq a0 (.lit (.int .u8 32)) fun t4=>
 ifB t4 (ai .neq a0 (.lit (.int .u8 9)) fun t7=>
 Q t7 h) (
 Q (B false) h)
theorem Hs (a0:AV) (h:ae) (Q:QT) (k:Fe a0 h Q):C nu [a0] h Q:=
 okF (pl:=[]) Tryz.func112 Tryz.ntmps112 (by kernel_rfl) rfl (by kernel_rfl) k
def rH (s3 s2 s11:AV) (h:ae) (next1:NT):Prop:=
 ai .add s11 (I 1) fun t40=>
 next1 [s2,s3,t40] h
def sb (s3 s2 s11:AV) (h:ae) (next1:NT):Prop:=
 rH s3 s2 s11 h next1
def kz (s3 s2 s11:AV) (h:ae) (next1:NT):Prop:=
 sb s3 s2 s11 h next1
def xk (s10 s9:AV) (Q:QT) (vs1:List AV) (h:ae) (next1:NT):Prop:=
 ai .lss (ap vs1 2) s10 fun t12=>
 ifB t12 (
 ak 1 s9 (ap vs1 2) fun t14=>
 ag t14 h fun t15=>
 C w4 [t15] h fun t18 h2=>
 ao 0 t18 fun t19=>
 ao 1 t18 fun t20=>
 cP [(I 0),(S ⟨#[]⟩),(I 0),(I 0),(S ⟨#[]⟩),(.full 0 [])] h2 fun t6 h3=>
 an 6 t6 t19 h3 fun h4=>
 qUn .not t20 fun t23=>
 ifB t23 (
 ai .add (ap vs1 2) (I 1) fun t26=>
 am 1 1 [t26] fun t27=>
 bl 1 8 (ap vs1 1) t27 h4 fun t28 h5=>
 kz t28 (ap vs1 0) (ap vs1 2) h5 next1) (
 ab 0 t6 fun t30=>
 ag t30 h4 fun t31=>
 ai .gtr t31 (I 0) fun t32=>
 ifB t32 (
 ai .add (ap vs1 2) (I 1) fun t34=>
 ab 0 t6 fun t35=>
 an 1 t35 t34 h4 fun h9=>
 aq 6 t6 h9 fun t37=>
 am 1 6 [t37] fun t38=>
 bl 6 80 (ap vs1 0) t38 h9 fun t39 h10=>
 kz (ap vs1 1) t39 (ap vs1 2) h10 next1) (
 kz (ap vs1 1) (ap vs1 0) (ap vs1 2) h4 next1))) (
 C cZ [(ap vs1 0)] h fun t42 h11=>
 C dV [(ap vs1 1)] h11 fun t44 h12=>
 Q (.tup [t42,t44]) h12)
def FY (a0:AV) (h:ae) (Q:QT):Prop:=
 C gu [a0,(S ⟨#[10]⟩)] h fun t9 h0=>
 aW t9 fun t10=>
 bZ [(.full 0 []),(.full 0 []),(I 0)] h0 fun vs1 h next1=>xk t10 t9 Q vs1 h next1
theorem HM (a0:AV) (h:ae) (Q:QT) (k:FY a0 h Q):C rR [a0] h Q:=
 okF (pl:=[(3,[2,3,4,5,6,7,11,12,13,14,15,16,17,18,19,20,21,22,23,24,25,26,27,28,29,30,31,32,33,34,35,36,37,38,39,40],[2,3,11])]) Tryz.func50 Tryz.ntmps50 (by kernel_rfl) rfl (by kernel_rfl) k
def IY (a0:AV) (h:ae) (Q:QT):Prop:=
 ai .eql a0 (S ⟨#[]⟩) fun t4=>
 ifB t4 (Q (B false) h) (
 bK a0 fun t7=>
 ai .gtr t7 (I 12) fun t8=>
 ifB t8 (Q (B false) h) (
 bk a0 (I 0) fun t12=>
 C dU [t12] h fun t13 h0=>
 ifB t13 (Q (B false) h0) (
 C eL [a0,(.fn (.func kj) [] [])] h0 fun t17 h1=>
 bK a0 fun t19=>
 ai .neq t17 t19 fun t20=>
 ifB t20 (
 Q (B false) h1) (
 bk a0 (I 0) fun t23=>
 ai .neq t23 (.lit (.int .u8 114)) fun t24=>
 ifB t24 (Q (B true) h1) (
 bK a0 fun t27=>
 ai .eql t27 (I 1) fun t28=>
 ifB t28 (Q (B true) h1) (
 bo a0 (some (I 1)) none fun t32=>
 C eL [t32,(.fn (.func dU) [] [])] h1 fun t33 h2=>
 bK a0 fun t35=>
 ai .sub t35 (I 1) fun t36=>
 ai .neq t33 t36 fun t37=>
 Q t37 h2))))))
theorem Ks (a0:AV) (h:ae) (Q:QT) (k:IY a0 h Q):C pf [a0] h Q:=
 okF (pl:=[]) Tryz.func110 Tryz.ntmps110 (by kernel_rfl) rfl (by kernel_rfl) k
def xf (s0 s1:AV) (Q:QT) (vs0:List AV) (h:ae) (next0:NT):Prop:=
 aW s1 fun t14=>
 ai .lss (ap vs0 1) t14 fun t15=>
 ifB t15 (ifB (ap vs0 0) (
 ak 1 s1 (ap vs0 1) fun t23=>
 ag t23 h fun t24=>
 ak 1 s0 (ap vs0 1) fun t27=>
 ag t27 h fun t28=>
 CV t24 [t28] h fun t29 h1=>
 ai .add (ap vs0 1) (I 1) fun t20=>
 next0 [t29,t20] h1) (
 Q (ap vs0 0) h)) (
 Q (ap vs0 0) h)
def LP (a0 a1:AV) (h:ae) (Q:QT):Prop:=
 aW a0 fun t8=>
 aW a1 fun t10=>
 ai .eql t8 t10 fun t11=>
 bZ [t11,(I 0)] h fun vs0 h next0=>xf a0 a1 Q vs0 h next0
theorem OD (a0 a1:AV) (h:ae) (Q:QT) (k:LP a0 a1 h Q):C fK [a0,a1] h Q:=
 okF (pl:=[(4,[5,6,12,13,14,15,16,17,18,19,20,21,22,23,24,25,26,27,28,29],[5,6]),(1000005,[0,1,2,3,4,5,6,7,8,9],[])]) Tryz.func148 Tryz.ntmps148 (by kernel_rfl) rfl (by kernel_rfl) k
def GK (a0:AV) (h:ae) (Q:QT):Prop:=
 ai .geq a0 (.lit (.int .u8 48)) fun t4=>
 ifB t4 (ai .leq a0 (.lit (.int .u8 57)) fun t7=>
 Q t7 h) (
 Q (B false) h)
theorem Hk (a0:AV) (h:ae) (Q:QT) (k:GK a0 h Q):C dU [a0] h Q:=
 okF (pl:=[]) Tryz.func136 Tryz.ntmps136 (by kernel_rfl) rfl (by kernel_rfl) k
def yO (s0 s1:AV) (Q:QT) (vs0:List AV) (h:ae) (next0:NT):Prop:=
 bK s0 fun t8=>
 ai .lss (ap vs0 0) t8 fun t9=>
 ifB t9 (bk s0 (ap vs0 0) fun t14=>
 CV s1 [t14] h fun t15 h1=>
 ifB t15 (
 ai .add (ap vs0 0) (I 1) fun t18=>
 next0 [t18] h1) (
 Q (ap vs0 0) h1)) (
 Q (ap vs0 0) h)
def Gs (a0 a1:AV) (h:ae) (Q:QT):Prop:=
 bZ [(I 0)] h fun vs0 h next0=>yO a0 a1 Q vs0 h next0
theorem Hm (a0 a1:AV) (h:ae) (Q:QT) (k:Gs a0 a1 h Q):C eL [a0,a1] h Q:=
 okF (pl:=[(3,[5,6,7,8,9,10,11,12,13,14,15,16,17,18],[5])]) Tryz.func108 Tryz.ntmps108 (by kernel_rfl) rfl (by kernel_rfl) k
def Ff (h:ae) (Q:QT):Prop:=
 am 3 1 [(S ⟨#[98]⟩),(S ⟨#[98,108]⟩),(S ⟨#[98,99]⟩)] fun t1=>
 Q t1 h
theorem Ht (h:ae) (Q:QT) (k:Ff  h Q):C rz [] h Q:=
 okF (pl:=[]) Tryz.func147 Tryz.ntmps147 (by kernel_rfl) rfl (by kernel_rfl) k
def FV (a0:AV) (h:ae) (Q:QT):Prop:=
 ai .geq a0 (.lit (.int .u8 97)) fun t4=>
 ifB t4 (ai .leq a0 (.lit (.int .u8 122)) fun t7=>
 ifB t7 (Q (B true) h) (
 ai .eql a0 (.lit (.int .u8 95)) fun t11=>
 ifB t11 (Q (B true) h) (
 C dU [a0] h fun t15 h0=>
 Q t15 h0))) (
 ai .eql a0 (.lit (.int .u8 95)) fun t11=>
 ifB t11 (Q (B true) h) (
 C dU [a0] h fun t15 h1=>
 Q t15 h1))
theorem Hy (a0:AV) (h:ae) (Q:QT) (k:FV a0 h Q):C kj [a0] h Q:=
 okF (pl:=[]) Tryz.func109 Tryz.ntmps109 (by kernel_rfl) rfl (by kernel_rfl) k
def sU (s10 s3:AV) (Q:QT) (vs1:List AV) (h:ae) (next1:NT):Prop:=
 ai .lss (ap vs1 0) s10 fun t12=>
 ifB t12 (
 ak 1 s3 (ap vs1 0) fun t18=>
 ag t18 h fun t19=>
 C ft [t19,(S ⟨#[32,9]⟩)] h fun t20 h2=>
 ak 1 s3 (ap vs1 0) fun t21=>
 an 1 t21 t20 h2 fun h3=>
 ai .add (ap vs1 0) (I 1) fun t22=>
 next1 [t22] h3) (
 Q s3 h)
def yF (a0:AV) (h:ae) (Q:QT):Prop:=
 ai .eql a0 (S ⟨#[]⟩) fun t6=>
 ifB t6 (
 Q (.full 0 []) h) (
 C gu [a0,(S ⟨#[44]⟩)] h fun t8 h0=>
 aW t8 fun t10=>
 bZ [(I 0)] h0 fun vs1 h next1=>sU t10 t8 Q vs1 h next1)
theorem CC (a0:AV) (h:ae) (Q:QT) (k:yF a0 h Q):C m6 [a0] h Q:=
 okF (pl:=[(6,[4,11,12,13,14,15,16,17,18,19,20,21,22],[11])]) Tryz.func144 Tryz.ntmps144 (by kernel_rfl) rfl (by kernel_rfl) k
def qE (a0 a1:AV) (h:ae) (Q:QT):Prop:=
 bK a1 fun t6=>
 ai .lss t6 (I 2) fun t7=>
 ifB t7 (Q (B false) h) (
 bK a1 fun t10=>
 ai .gtr t10 (I 62) fun t11=>
 ifB t11 (Q (B false) h) (
 bk a1 (I 0) fun t15=>
 ai .neq t15 (.lit (.int .u8 34)) fun t16=>
 ifB t16 (Q (B false) h) (
 bK a1 fun t21=>
 ai .sub t21 (I 1) fun t22=>
 bk a1 t22 fun t23=>
 ai .neq t23 (.lit (.int .u8 34)) fun t24=>
 ifB t24 (
 Q (B false) h) (
 bK a1 fun t29=>
 ai .sub t29 (I 1) fun t30=>
 bo a1 (some (I 1)) (some t30) fun t31=>
 aF a0 fun t32=>
 ab 0 t32 fun t33=>
 ab 4 t33 fun t34=>
 an 1 t34 t31 h fun h0=>
 aF a0 fun t36=>
 ab 0 t36 fun t37=>
 ab 4 t37 fun t38=>
 ag t38 h0 fun t39=>
 aF a0 fun t42=>
 ab 0 t42 fun t43=>
 ab 4 t43 fun t44=>
 ag t44 h0 fun t45=>
 bK t45 fun t46=>
 C eL [t39,(.fn (.func eH) [] [])] h0 fun t40 h1=>
 (ag t44 h1 fun _t=>
 _t=t45)∧
 ai .eql t40 t46 fun t47=>
 Q t47 h1))))
theorem wN (a0 a1:AV) (h:ae) (Q:QT) (k:qE a0 a1 h Q):C jg [a0,a1] h Q:=
 okF (pl:=[(1000004,[0,1,2,3,4,6,7,8,9,10,11,5,12,13],[])]) Tryz.func151 Tryz.ntmps151 (by kernel_rfl) rfl (by kernel_rfl) k
def ow (a0:AV) (h:ae) (Q:QT):Prop:=
 ai .geq a0 (.lit (.int .u8 32)) fun t4=>
 ifB t4 (ai .leq a0 (.lit (.int .u8 126)) fun t7=>
 ifB t7 (ai .neq a0 (.lit (.int .u8 34)) fun t11=>
 Q t11 h) (
 Q (B false) h)) (
 Q (B false) h)
theorem uD (a0:AV) (h:ae) (Q:QT) (k:ow a0 h Q):C eH [a0] h Q:=
 okF (pl:=[]) Tryz.func178 Tryz.ntmps178 (by kernel_rfl) rfl (by kernel_rfl) k
def eU (s5 s16:AV) (h:ae) (next2:NT):Prop:=
 ai .add s16 (I 1) fun t34=>
 next2 [s5,t34] h
def dr (s5 s16:AV) (h:ae) (next2:NT):Prop:=
 eU s5 s16 h next2
def iO (s15 s14 s0 s1:AV) (Q:QT) (vs2:List AV) (h:ae) (next2:NT):Prop:=
 ai .lss (ap vs2 1) s15 fun t17=>
 ifB t17 (
 ak 1 s14 (ap vs2 1) fun t18=>
 ag t18 h fun t19=>
 ai .add (S ⟨#[32]⟩) t19 fun t21=>
 ai .add t21 (S ⟨#[32]⟩) fun t22=>
 C jQ [(S ⟨#[32,88,32,89,32,68,32,65,32,66,32]⟩),t22] h fun t23 h3=>
 ifB t23 (
 am 1 1 [(.fn (.func d9) [s0] [])] fun t27=>
 bl 1 8 (ap vs2 0) t27 h3 fun t28 h4=>
 dr t28 (ap vs2 1) h4 next2) (
 am 1 1 [(.fn (.func bF) [s0] [])] fun t32=>
 bl 1 8 (ap vs2 0) t32 h3 fun t33 h7=>
 dr t33 (ap vs2 1) h7 next2)) (
 C fK [s1,(ap vs2 0)] h fun t37 h8=>
 Q t37 h8)
def k9 (a0 a1:AV) (h:ae) (Q:QT):Prop:=
 aF a0 fun t9=>
 ab 0 t9 fun t10=>
 ab 3 t10 fun t11=>
 ag t11 h fun t12=>
 C pq [t12] h fun t13 h0=>
 C ef [t13] h0 fun t14 h1=>
 aW t14 fun t15=>
 bZ [(.full 0 []),(I 0)] h1 fun vs2 h next2=>iO t15 t14 a0 a1 Q vs2 h next2
theorem pK (a0 a1:AV) (h:ae) (Q:QT) (k:k9 a0 a1 h Q):C eO [a0,a1] h Q:=
 okF (pl:=[(4,[5,7,16,17,18,19,20,21,22,23,24,25,26,27,28,29,30,31,32,33,34],[5,16])]) Tryz.func146 Tryz.ntmps146 (by kernel_rfl) rfl (by kernel_rfl) k
def nQ (a0 a1:AV) (h:ae) (Q:QT):Prop:=
 C mT [a1] h fun t9 h0=>
 ao 0 t9 fun t10=>
 ao 1 t9 fun t11=>
 aF a0 fun t14=>
 ab 0 t14 fun t15=>
 ab 5 t15 fun t16=>
 ag t16 h0 fun t17=>
 ax [(I 0),(I 0),(I 0),(S ⟨#[]⟩),(.full 0 [])] [(0,1,t10)] fun t19=>
 am 1 5 [t19] fun t20=>
 bl 5 64 t17 t20 h0 fun t21 h1=>
 aF a0 fun t22=>
 ab 0 t22 fun t23=>
 ab 5 t23 fun t24=>
 an 1 t24 t21 h1 fun h2=>
 Q t11 h2
theorem sM (a0 a1:AV) (h:ae) (Q:QT) (k:nQ a0 a1 h Q):C d9 [a0,a1] h Q:=
 okF (pl:=[]) Tryz.func176 Tryz.ntmps176 (by kernel_rfl) rfl (by kernel_rfl) k
def cL (s93 s54 s7 s0 s1:AV) (h:ae) (Q:QT):Prop:=
 ifB s93 (
 am 2 1 [(S ⟨#[46,97,108,105,103,110]⟩),(S ⟨#[46,115,112,97,99,101]⟩)] fun t97=>
 C bG [t97,s1] h fun t99 h17=>
 ai .add (I 7) t99 fun t100=>
 aF s0 fun t101=>
 ab 0 t101 fun t102=>
 ab 2 t102 fun t103=>
 an 1 t103 t100 h17 fun h18=>
 C jl [(.fn (.func bF) [s0] []),(I 1)] h18 fun t107 h19=>
 C fK [s7,t107] h19 fun t108 h20=>
 Q t108 h20) (
 ai .eql s54 (S ⟨#[46,101,113,117]⟩) fun t110=>
 ifB t110 (
 aF s0 fun t112=>
 ab 0 t112 fun t113=>
 ab 2 t113 fun t114=>
 an 1 t114 (I 9) h fun h21=>
 am 2 1 [(.fn (.func fY) [s0] []),(.fn (.func bF) [s0] [])] fun t120=>
 C fK [s7,t120] h21 fun t121 h22=>
 Q t121 h22) (
 Q (B false) h))
def cf (s55 s54 s7 s0 s1 s2:AV) (h:ae) (Q:QT):Prop:=
 ifB s55 (
 am 3 1 [(S ⟨#[46,98,121,116,101]⟩),(S ⟨#[46,104,97,108,102]⟩),(S ⟨#[46,108,111,110,103]⟩)] fun t60=>
 C bG [t60,s1] h fun t62 h11=>
 ai .add (I 3) t62 fun t63=>
 aF s0 fun t64=>
 ab 0 t64 fun t65=>
 ab 2 t65 fun t66=>
 an 1 t66 t63 h11 fun h12=>
 aW s7 fun t68=>
 ai .geq t68 (I 1) fun t69=>
 ifB t69 (aW s7 fun t72=>
 ai .leq t72 (I 16) fun t73=>
 ifB t73 (aW s7 fun t80=>
 C jl [(.fn (.func bF) [s0] []),t80] h12 fun t81 h13=>
 C fK [s7,t81] h13 fun t82 h14=>
 Q t82 h14) (
 Q (B false) h12)) (
 Q (B false) h12)) (
 ai .eql s54 (S ⟨#[46,97,115,99,105,105]⟩) fun t85=>
 ifB t85 (
 aF s0 fun t87=>
 ab 0 t87 fun t88=>
 ab 2 t88 fun t89=>
 an 1 t89 (I 6) h fun h15=>
 C jg [s0,s2] h15 fun t92 h16=>
 Q t92 h16) (
 ai .eql s54 (S ⟨#[46,97,108,105,103,110]⟩) fun t94=>
 ifB t94 (
 cL t94 s54 s7 s0 s1 h Q) (
 ai .eql s54 (S ⟨#[46,115,112,97,99,101]⟩) fun t95=>
 cL t95 s54 s7 s0 s1 h Q)))
def mB (a0 a1 a2:AV) (h:ae) (Q:QT):Prop:=
 C m6 [a2] h fun t12 h0=>
 C qu [a1] h0 fun t15 h1=>
 ao 0 t15 fun t16=>
 ao 1 t15 fun t17=>
 ifB t17 (
 aF a0 fun t22=>
 ab 0 t22 fun t23=>
 ab 2 t23 fun t24=>
 an 1 t24 (I 1) h1 fun h2=>
 aF a0 fun t25=>
 ab 0 t25 fun t26=>
 ab 3 t26 fun t27=>
 an 1 t27 t16 h2 fun h3=>
 C eO [a0,t12] h3 fun t30 h4=>
 Q t30 h4) (
 C rz [] h1 fun t31 h5=>
 C bG [t31,a1] h5 fun t33 h6=>
 ai .geq t33 (I 0) fun t35=>
 ifB t35 (
 aF a0 fun t39=>
 ab 0 t39 fun t40=>
 ab 2 t40 fun t41=>
 an 1 t41 (I 2) h6 fun h7=>
 aF a0 fun t42=>
 ab 0 t42 fun t43=>
 ab 3 t43 fun t44=>
 an 1 t44 t33 h7 fun h8=>
 ai .quo t33 (I 2) fun t49=>
 ai .mul t49 (I 2) fun t50=>
 ai .add (I 1) t50 fun t51=>
 C jl [(.fn (.func bF) [a0] []),t51] h8 fun t52 h9=>
 C fK [t12,t52] h9 fun t53 h10=>
 Q t53 h10) (
 ai .eql a1 (S ⟨#[46,98,121,116,101]⟩) fun t56=>
 ifB t56 (
 cf t56 a1 t12 a0 a1 a2 h6 Q) (
 ai .eql a1 (S ⟨#[46,104,97,108,102]⟩) fun t57=>
 ifB t57 (
 cf t57 a1 t12 a0 a1 a2 h6 Q) (
 ai .eql a1 (S ⟨#[46,108,111,110,103]⟩) fun t58=>
 cf t58 a1 t12 a0 a1 a2 h6 Q))))
theorem rS (a0 a1 a2:AV) (h:ae) (Q:QT) (k:mB a0 a1 a2 h Q):C fR [a0,a1,a2] h Q:=
 okF (pl:=[]) Tryz.func113 Tryz.ntmps113 (by kernel_rfl) rfl (by kernel_rfl) k
def qG (a0 a1:AV) (h:ae) (Q:QT):Prop:=
 C rY [a1] h fun t9 h0=>
 ao 0 t9 fun t10=>
 ao 1 t9 fun t11=>
 cP [(I 0),(I 0),(S ⟨#[]⟩),(.full 0 [])] h0 fun t5 h1=>
 an 4 t5 t10 h1 fun h2=>
 aF a0 fun t14=>
 ab 0 t14 fun t15=>
 ab 5 t15 fun t16=>
 ag t16 h2 fun t17=>
 aq 4 t5 h2 fun t18=>
 ax [(I 0),(I 0),(I 0),(S ⟨#[]⟩),(.full 0 [])] [(0,1,(I (-1))),(1,4,t18)] fun t19=>
 am 1 5 [t19] fun t20=>
 bl 5 64 t17 t20 h2 fun t21 h3=>
 aF a0 fun t22=>
 ab 0 t22 fun t23=>
 ab 5 t23 fun t24=>
 an 1 t24 t21 h3 fun h4=>
 Q t11 h4
theorem vW (a0 a1:AV) (h:ae) (Q:QT) (k:qG a0 a1 h Q):C bF [a0,a1] h Q:=
 okF (pl:=[(1000002,[0,1,2,3,4,5,6,7,8,9,10,11,12,13],[])]) Tryz.func150 Tryz.ntmps150 (by kernel_rfl) rfl (by kernel_rfl) k
def tm (a0 a1:AV) (h:ae) (Q:QT):Prop:=
 aF a0 fun t7=>
 ab 0 t7 fun t8=>
 ab 4 t8 fun t9=>
 an 1 t9 a1 h fun h0=>
 C pf [a1] h0 fun t11 h1=>
 Q t11 h1
theorem x5 (a0 a1:AV) (h:ae) (Q:QT) (k:tm a0 a1 h Q):C fY [a0,a1] h Q:=
 okF (pl:=[]) Tryz.func152 Tryz.ntmps152 (by kernel_rfl) rfl (by kernel_rfl) k
def yu (a0:AV) (h:ae) (Q:QT):Prop:=
 bK a0 fun t7=>
 ai .lss t7 (I 2) fun t8=>
 ifB t8 (Q (.tup [(I 0),(B false)]) h) (
 bK a0 fun t11=>
 ai .gtr t11 (I 3) fun t12=>
 ifB t12 (Q (.tup [(I 0),(B false)]) h) (
 bk a0 (I 0) fun t16=>
 ai .neq t16 (.lit (.int .u8 114)) fun t17=>
 ifB t17 (Q (.tup [(I 0),(B false)]) h) (
 bo a0 (some (I 1)) none fun t21=>
 C eL [t21,(.fn (.func dU) [] [])] h fun t22 h0=>
 bK a0 fun t24=>
 ai .sub t24 (I 1) fun t25=>
 ai .neq t22 t25 fun t26=>
 ifB t26 (Q (.tup [(I 0),(B false)]) h0) (
 bK a0 fun t30=>
 ai .eql t30 (I 3) fun t31=>
 ifT t31 (bk a0 (I 1) fun t34=>
 ai .eql t34 (.lit (.int .u8 48)) fun t35=>
 ifB t35 (
 Q (.tup [(I 0),(B false)]) h0) (
 bo a0 (some (I 1)) none fun t40=>
 C em [t40] h0 fun t41 h1=>
 ao 0 t41 fun t42=>
 ao 1 t41 fun t43=>
 ai .lss t42 (I 32) fun t46=>
 Q (.tup [t42,t46]) h1)) (
 bo a0 (some (I 1)) none fun t40=>
 C em [t40] h0 fun t41 h2=>
 ao 0 t41 fun t42=>
 ao 1 t41 fun t43=>
 ai .lss t42 (I 32) fun t46=>
 Q (.tup [t42,t46]) h2) (
 ifB (.tup []) (ifB (.tup []) (
 Q (.tup [(I 0),(B false)]) h0) (
 bo a0 (some (I 1)) none fun t40=>
 C em [t40] h0 fun t41 h3=>
 ao 0 t41 fun t42=>
 ao 1 t41 fun t43=>
 ai .lss t42 (I 32) fun t46=>
 Q (.tup [t42,t46]) h3)) (bo a0 (some (I 1)) none fun t40=>
 C em [t40] h0 fun t41 h4=>
 ao 0 t41 fun t42=>
 ao 1 t41 fun t43=>
 ai .lss t42 (I 32) fun t46=>
 Q (.tup [t42,t46]) h4))))))
theorem BP (a0:AV) (h:ae) (Q:QT) (k:yu a0 h Q):C mT [a0] h Q:=
 okF (pl:=[]) Tryz.func189 Tryz.ntmps189 (by kernel_rfl) rfl (by kernel_rfl) k
def A5 (s6 s0:AV) (Q:QT) (vs0:List AV) (h:ae) (next0:NT):Prop:=
 ai .lss (ap vs0 1) s6 fun t8=>
 ifB t8 (
 am 1 1 [s0] fun t11=>
 bl 1 8 (ap vs0 0) t11 h fun t12 h1=>
 ai .add (ap vs0 1) (I 1) fun t13=>
 next0 [t12,t13] h1) (
 Q (ap vs0 0) h)
def Ig (a0 a1:AV) (h:ae) (Q:QT):Prop:=
 bZ [(.full 0 []),(I 0)] h fun vs0 h next0=>A5 a1 a0 Q vs0 h next0
theorem KA (a0 a1:AV) (h:ae) (Q:QT) (k:Ig a0 a1 h Q):C jl [a0,a1] h Q:=
 okF (pl:=[(4,[5,7,8,9,10,11,12,13],[5,7])]) Tryz.func149 Tryz.ntmps149 (by kernel_rfl) rfl (by kernel_rfl) k
def aaY:Code→Code
 | .seq a _=>a
 | c=>c
def Zt:Code→Code
 | .seq _ (.scope c)=>c
 | c=>c
def qC (a0 s4:AV) (h:ae) (Q:QT):Prop:=
 bo a0 none (some s4) fun t21=>
 C ft [t21,(S ⟨#[32,9]⟩)] h fun t22 h1=>
 Q t22 h1
def qW (s3 s4:AV) (h:ae) (next:NT):Prop:=
 ai .add s4 (I 1) fun t30=>
 next [s3,t30] h
def qZ (a0 s3 s4:AV) (h:ae) (next:NT):Prop:=
 bk a0 s4 fun t25=>
 ai .eql t25 (.lit (.int .u8 34)) fun t26=>
 ifB t26 (qUn .not s3 fun t28=>qW t28 s4 h next) (qW s3 s4 h next)
def qK (a0 s3 s4:AV) (h:ae) (Q:QT) (next:NT):Prop:=
 bK a0 fun t7=>
 ai .eql s4 t7 fun t8=>
 ifB t8 (qC a0 s4 h Q) (
 bk a0 s4 fun t12=>
 ai .eql t12 (.lit (.int .u8 35)) fun t13=>
 ifT t13 (qUn .not s3 fun t16=>
 ifB t16 (qC a0 s4 h Q) (qZ a0 s3 s4 h next)) (qZ a0 s3 s4 h next) False)
def CH (a0:AV) (h:ae) (Q:QT):Prop:=
 qK a0 (B false) (I 0) h Q fun vs h=>bZ vs h fun vs h next=>qK a0 (ap vs 0) (ap vs 1) h Q next
theorem KJ (a0:AV) (h:ae) (Q:QT):aaW Pg [] Tryz.f107 (aaY (uh Tryz.f107)) (Zt (uh Tryz.f107)) ((findLabel (Zt (uh Tryz.f107)) 0).getD .skip) 0 [2,3,4,5,6,7,8,9,10,11,12,13,14,15,16,17,18,19,20,21,22,23,24,25,26,27,28,29,30] [3,4] [a0] h Q=CH a0 h Q:=by kernel_rfl
theorem JZ (a0:AV) (h:ae) (Q:QT) (k:CH a0 h Q):C tG [a0] h Q:=
 Hi (pl:=[]) Tryz.func107 (A:=aaY (uh Tryz.f107)) (c:=Zt (uh Tryz.f107)) (rest:=(findLabel (Zt (uh Tryz.f107)) 0).getD .skip) (l:=0) (ws:=[2,3,4,5,6,7,8,9,10,11,12,13,14,15,16,17,18,19,20,21,22,23,24,25,26,27,28,29,30]) (ks:=[3,4]) (by kernel_rfl) (by kernel_rfl) (by kernel_rfl) (by kernel_rfl) (by kernel_rfl) (by kernel_rfl) (by have:=Tryz.ntmps107;simp only[List.length_cons,List.length_nil];omega) (by rw[KJ];exact k)
end
end Go.Proofs.YtbhphjpgjgigpaaGreatDoor.AL
