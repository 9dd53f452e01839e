import Derived.Test.YtgkmmcdhhkllnaaGreatDoorF5
set_option linter.all false
set_option autoImplicit true
set_option relaxedAutoImplicit true
set_option maxRecDepth 100000
namespace Go.Proofs.YtgkmmcdhhkllnaaGreatDoor.AL
noncomputable section
open Go.Proofs
variable [Tabs]
abbrev sQ:Nat:=44
abbrev tv:Nat:=103
def mH (s15 s14 s10 s8 s0 s1 s2:AV) (Q:QT) (vs1:List AV) (h:ae) (next1:NT):Prop:=
 ai .lss (ap vs1 1) s15 fun t17=>
 ifB t17 (
 am 2 s14 (ap vs1 1) fun t18=>
 aw 2 t18 h fun t19=>
 df [(S ⟨#[]⟩),(S ⟨#[]⟩)] h fun t12 h2=>
 ak 2 t12 t19 h2 fun h3=>
 ab 0 t12 fun t21=>
 ag t21 h3 fun t22=>
 aw 2 t12 h3 fun t25=>
 CV s10 [s0,t25] h3 fun t26 h4=>
 (ag t21 h4 fun _t=>
 _t=t22)∧
 c5 .string s8 t22 t26 h4 fun h5=>
 ab 0 t12 fun t28=>
 ag t28 h5 fun t29=>
 ao 1 1 [t29] fun t30=>
 bc 1 16 (ap vs1 0) t30 h5 fun t31 h6=>
 ai .add (ap vs1 1) (I 1) fun t32=>
 next1 [t31,t32] h6) (
 aE s0 fun t37=>
 ab 0 t37 fun t38=>
 ak 1 t38 s8 h fun h7=>
 aE s0 fun t39=>
 ab 1 t39 fun t40=>
 ak 1 t40 (ap vs1 0) h7 fun h8=>
 C oZ [s1,s2] h8 fun t43 h9=>
 an 0 t43 fun t44=>
 an 1 t43 fun t45=>
 Q (.tup [t44,t45]) h9)
def qQ (a0 a1 a2:AV) (h:ae) (Q:QT):Prop:=
 mo h fun t13 h0=>
 aY a1 fun t15=>
 cb [(.full 0 []),(I 0)] h0 fun vs1 h next1=>mH t15 a1 (.fn (.func iJ) [] []) t13 a0 a1 a2 Q vs1 h next1
theorem vZ (a0 a1 a2:AV) (h:ae) (Q:QT) (k:qQ a0 a1 a2 h Q):C cq [a0,a1,a2] h Q:=
 okF (pl:=[(6,[9,12,16,17,18,19,20,21,22,23,24,25,26,27,28,29,30,31,32],[9,16]),(1000007,[0,1,2,3,4,5,6,7],[])]) Tryz.func11 Tryz.ntmps11 (by kernel_rfl) (by kernel_rfl) rfl (by kernel_rfl) k
def rm (a0:AV) (h:ae) (Q:QT):Prop:=
 aE a0 fun t4=>
 ab 1 t4 fun t5=>
 ag t5 h fun t6=>
 aY t6 fun t7=>
 Q t7 h
theorem xq (a0:AV) (h:ae) (Q:QT) (k:rm a0 h Q):C d5 [a0] h Q:=
 okF (pl:=[]) Tryz.func13 Tryz.ntmps13 (by kernel_rfl) (by kernel_rfl) rfl (by kernel_rfl) k
def pt (a0:AV) (h:ae) (Q:QT):Prop:=
 aE a0 fun t4=>
 ab 2 t4 fun t5=>
 ag t5 h fun t6=>
 Q t6 h
theorem vj (a0:AV) (h:ae) (Q:QT) (k:pt a0 h Q):C cL [a0] h Q:=
 okF (pl:=[]) Tryz.func12 Tryz.ntmps12 (by kernel_rfl) (by kernel_rfl) rfl (by kernel_rfl) k
def qz (a0 a1:AV) (h:ae) (Q:QT):Prop:=
 gk a1 h fun t3 h0=>
 df [(S ⟨#[]⟩),(.full 0 [])] h0 fun t4 h1=>
 aE a0 fun t11=>
 ab 0 t11 fun t12=>
 ag t12 h1 fun t13=>
 ab 0 t3 fun t14=>
 ag t14 h1 fun t15=>
 fW .string true (.agg [(S ⟨#[]⟩),(.full 0 [])]) t13 t15 h1 fun t16=>
 an 0 t16 fun t17=>
 an 1 t16 fun t18=>
 df [(S ⟨#[]⟩),(.full 0 [])] h1 fun t5 h2=>
 (fW .string true (.agg [(S ⟨#[]⟩),(.full 0 [])]) t13 t15 h2 fun _t=>
 _t=t16)∧
 (ag t14 h2 fun _t=>
 _t=t15)∧
 (ag t12 h2 fun _t=>
 _t=t13)∧
 ak 2 t5 t17 h2 fun h3=>
 ifB t18 (ab 0 t5 fun t21=>
 ag t21 h3 fun t22=>
 ab 1 t3 fun t23=>
 ag t23 h3 fun t24=>
 ai .eql t22 t24 fun t25=>
 ifB t25 (
 aw 2 t5 h3 fun t27=>
 ak 2 t4 t27 h3 fun h4=>
 aw 2 t4 h4 fun r5=>
 Q r5 h4) (
 aE a0 fun t29=>
 ab 2 t29 fun t30=>
 ag t30 h3 fun t31=>
 ai .add t31 (I 1) fun t32=>
 aE a0 fun t33=>
 ab 2 t33 fun t34=>
 ak 1 t34 t32 h3 fun h6=>
 ab 1 t3 fun t36=>
 ag t36 h6 fun t37=>
 C iH [t37] h6 fun t38 h7=>
 an 0 t38 fun t39=>
 an 1 t38 fun t40=>
 ab 1 t3 fun t41=>
 ag t41 h7 fun t42=>
 ax [(S ⟨#[]⟩),(.full 0 [])] [(0,1,t42),(1,1,t39)] fun t44=>
 ak 2 t4 t44 h7 fun h8=>
 aw 2 t4 h8 fun r9=>
 Q r9 h8)) (
 aE a0 fun t29=>
 ab 2 t29 fun t30=>
 ag t30 h3 fun t31=>
 ai .add t31 (I 1) fun t32=>
 aE a0 fun t33=>
 ab 2 t33 fun t34=>
 ak 1 t34 t32 h3 fun h10=>
 ab 1 t3 fun t36=>
 ag t36 h10 fun t37=>
 C iH [t37] h10 fun t38 h11=>
 an 0 t38 fun t39=>
 an 1 t38 fun t40=>
 ab 1 t3 fun t41=>
 ag t41 h11 fun t42=>
 ax [(S ⟨#[]⟩),(.full 0 [])] [(0,1,t42),(1,1,t39)] fun t44=>
 ak 2 t4 t44 h11 fun h12=>
 aw 2 t4 h12 fun r13=>
 Q r13 h12)
theorem wb (a0 a1:AV) (h:ae) (Q:QT) (k:qz a0 a1 h Q):C iJ [a0,a1] h Q:=
 okF (pl:=[(1000001,[0,1,2,3,4,5,6,7,8,9,10,11,12],[])]) Tryz.func27 Tryz.ntmps27 (by kernel_rfl) (by kernel_rfl) rfl (by kernel_rfl) k
def On (h:ae) (Q:QT):Prop:=
 mo h fun t1 h0=>
 ax [(.lit (.map none)),(.full 0 []),(I 0)] [(0,1,t1)] fun t2=>
 gk t2 h0 fun t3 h1=>
 Q t3 h1
theorem Ny (h:ae) (Q:QT) (k:On  h Q):C wE [] h Q:=
 okF (pl:=[]) Tryz.func9 Tryz.ntmps9 (by kernel_rfl) (by kernel_rfl) rfl (by kernel_rfl) k
def ld (s62 s8 s5 s1:AV) (h:ae) (Q:QT):Prop:=
 ifB s62 (
 C dr [s1,(I 4)] h fun t66 h2=>
 Q t66 h2) (
 ai .eql s8 (S ⟨#[84,56]⟩) fun t68=>
 ifB t68 (
 C dr [s1,(I 256)] h fun t70 h3=>
 ai .sub t70 (I 128) fun t71=>
 ai .mul (I 2) t71 fun t72=>
 Q t72 h3) (
 ai .eql s8 (S ⟨#[83,49,54]⟩) fun t74=>
 ifB t74 (
 ao 9 1 [(I 0),(I 32767),(I (-32768)),(I (-1)),(I 1),(I 255),(I (-256)),(I 4660),(I (-4660))] fun t75=>
 am 1 t75 s5 fun t77=>
 ag t77 h fun t78=>
 Q t78 h) (
 ai .eql s8 (S ⟨#[76,50,48]⟩) fun t80=>
 ifB t80 (
 C dr [s1,(I 1048576)] h fun t82 h4=>
 ai .sub t82 (I 524288) fun t83=>
 Q t83 h4) (
 ai .eql s8 (S ⟨#[84,49,53]⟩) fun t85=>
 ifB t85 (
 C dr [s1,(I 32768)] h fun t87 h5=>
 ai .sub t87 (I 16384) fun t88=>
 ai .mul (I 2) t88 fun t89=>
 Q t89 h5) (
 ai .eql s8 (S ⟨#[84,50,52]⟩) fun t91=>
 ifB t91 (
 C dr [s1,(I 16777216)] h fun t93 h6=>
 ai .sub t93 (I 8388608) fun t94=>
 ai .mul (I 2) t94 fun t95=>
 Q t95 h6) (
 ao 9 1 [(I 0),(I 255),(I 256),(I 65280),(I (-1)),(I (-2)),(I 16711680),(I (-256)),(I 2130706432)] fun t96=>
 am 1 t96 s5 fun t98=>
 ag t98 h fun t99=>
 Q t99 h))))))
def k9 (s37 s8 s5 s1:AV) (h:ae) (Q:QT):Prop:=
 ifB s37 (
 ao 9 1 [(I 0),(I 15),(I 1),(I 7),(I 8),(I 4),(I 12),(I 3),(I 14)] fun t40=>
 am 1 t40 s5 fun t42=>
 ag t42 h fun t43=>
 Q t43 h) (
 ai .eql s8 (S ⟨#[77,50]⟩) fun t45=>
 ifB t45 (
 ao 9 1 [(I 0),(I 15),(I 1),(I 7),(I 8),(I 4),(I 12),(I 3),(I 14)] fun t46=>
 am 1 t46 s5 fun t48=>
 ag t48 h fun t49=>
 ai .mul (I 2) t49 fun t50=>
 Q t50 h) (
 ai .eql s8 (S ⟨#[77,52]⟩) fun t52=>
 ifB t52 (
 ao 9 1 [(I 0),(I 15),(I 1),(I 7),(I 8),(I 4),(I 12),(I 3),(I 14)] fun t53=>
 am 1 t53 s5 fun t55=>
 ag t55 h fun t56=>
 ai .mul (I 4) t56 fun t57=>
 Q t57 h) (
 ai .eql s8 (S ⟨#[79,49]⟩) fun t59=>
 ifB t59 (
 C dr [s1,(I 2)] h fun t61 h1=>
 Q t61 h1) (
 ai .eql s8 (S ⟨#[73,50]⟩) fun t63=>
 ifB t63 (
 ld t63 s8 s5 s1 h Q) (
 ai .eql s8 (S ⟨#[79,50]⟩) fun t64=>
 ld t64 s8 s5 s1 h Q)))))
def fy (s16 s8 s5 s1:AV) (h:ae) (Q:QT):Prop:=
 ifB s16 (
 ao 9 1 [(I 0),(I 31),(I 1),(I 15),(I 16),(I 7),(I 30),(I 12),(I 3)] fun t21=>
 am 1 t21 s5 fun t23=>
 ag t23 h fun t24=>
 Q t24 h) (
 ai .eql s8 (S ⟨#[85,55]⟩) fun t26=>
 ifB t26 (
 ao 9 1 [(I 0),(I 127),(I 64),(I 1),(I 63),(I 100),(I 7),(I 15),(I 16)] fun t27=>
 am 1 t27 s5 fun t29=>
 ag t29 h fun t30=>
 Q t30 h) (
 ai .eql s8 (S ⟨#[79,53]⟩) fun t32=>
 ifB t32 (
 ao 9 1 [(I 1),(I 32),(I 2),(I 16),(I 31),(I 17),(I 8),(I 5),(I 30)] fun t33=>
 am 1 t33 s5 fun t35=>
 ag t35 h fun t36=>
 Q t36 h) (
 ai .eql s8 (S ⟨#[77,49]⟩) fun t38=>
 ifB t38 (
 k9 t38 s8 s5 s1 h Q) (
 ai .eql s8 (S ⟨#[73,52]⟩) fun t39=>
 k9 t39 s8 s5 s1 h Q))))
def jZ (s9 s8 s5 s1:AV) (h:ae) (Q:QT):Prop:=
 ifB s9 (
 ao 9 1 [(I 0),(I 1),(I 7),(I 24),(I 31),(I 5),(I 28),(I 3),(I 30)] fun t12=>
 am 1 t12 s5 fun t14=>
 ag t14 h fun t15=>
 Q t15 h) (
 ai .eql s8 (S ⟨#[68]⟩) fun t17=>
 ifB t17 (
 fy t17 s8 s5 s1 h Q) (
 ai .eql s8 (S ⟨#[65]⟩) fun t18=>
 ifB t18 (
 fy t18 s8 s5 s1 h Q) (
 ai .eql s8 (S ⟨#[66]⟩) fun t19=>
 ifB t19 (
 fy t19 s8 s5 s1 h Q) (
 ai .eql s8 (S ⟨#[85,53]⟩) fun t20=>
 fy t20 s8 s5 s1 h Q))))
def BN (a0 a1:AV) (h:ae) (Q:QT):Prop:=
 C dr [a1,(I 9)] h fun t7 h0=>
 ai .eql a0 (S ⟨#[88]⟩) fun t10=>
 ifB t10 (
 jZ t10 a0 t7 a1 h0 Q) (
 ai .eql a0 (S ⟨#[89]⟩) fun t11=>
 jZ t11 a0 t7 a1 h0 Q)
theorem EW (a0 a1:AV) (h:ae) (Q:QT) (k:BN a0 a1 h Q):C k5 [a0,a1] h Q:=
 okF (pl:=[]) Tryz.func104 Tryz.ntmps104 (by kernel_rfl) (by kernel_rfl) rfl (by kernel_rfl) k
def wg (s5:AV) (h:ae) (Q:QT):Prop:=
 Q s5 h
def DY (a0 a1:AV) (h:ae) (Q:QT):Prop:=
 ai .rem a0 a1 fun t8=>
 ai .lss t8 (I 0) fun t10=>
 ifB t10 (
 ai .add t8 a1 fun t13=>
 wg t13 h Q) (
 wg t8 h Q)
theorem FS (a0 a1:AV) (h:ae) (Q:QT) (k:DY a0 a1 h Q):C dr [a0,a1] h Q:=
 okF (pl:=[]) Tryz.func131 Tryz.ntmps131 (by kernel_rfl) (by kernel_rfl) rfl (by kernel_rfl) k
def Pn (a0:AV) (h:ae) (Q:QT):Prop:=
 C pY [a0,(I 0)] h fun t4 h0=>
 ai .leq t4 (I 16) fun t5=>
 Q t5 h0
theorem NR (a0:AV) (h:ae) (Q:QT) (k:Pn a0 h Q):C wl [a0] h Q:=
 okF (pl:=[]) Tryz.func29 Tryz.ntmps29 (by kernel_rfl) (by kernel_rfl) rfl (by kernel_rfl) k
def AI (h:ae) (Q:QT):Prop:=
 ao 4 1 [(S ⟨#[98,97,115,101]⟩),(S ⟨#[120]⟩),(S ⟨#[101,110,100,95,49]⟩),(S ⟨#[114]⟩)] fun t1=>
 Q t1 h
theorem yU (h:ae) (Q:QT) (k:AI  h Q):C sQ [] h Q:=
 okF (pl:=[]) Tryz.func44 Tryz.ntmps44 (by kernel_rfl) (by kernel_rfl) rfl (by kernel_rfl) k
def OL (a0:AV) (h:ae) (Q:QT):Prop:=
 df [(I 0),(I 0),(S ⟨#[]⟩),(.full 0 [])] h fun t2 h0=>
 aY a0 fun t4=>
 ai .eql t4 (I 0) fun t5=>
 ifB t5 (
 ax [(I 0),(I 0),(S ⟨#[]⟩),(.full 0 [])] [(0,1,(I 1)),(1,1,(I 1))] fun t6=>
 ak 4 t2 t6 h0 fun h1=>
 aw 4 t2 h1 fun r2=>
 Q r2 h1) (
 am 3 a0 (I 0) fun t8=>
 aw 3 t8 h0 fun t9=>
 C jQ [t9] h0 fun t10 h3=>
 ak 4 t2 t10 h3 fun h4=>
 aw 4 t2 h4 fun r5=>
 Q r5 h4)
theorem NC (a0:AV) (h:ae) (Q:QT) (k:OL a0 h Q):C oG [a0] h Q:=
 okF (pl:=[]) Tryz.func77 Tryz.ntmps77 (by kernel_rfl) (by kernel_rfl) rfl (by kernel_rfl) k
def zM (a0:AV) (h:ae) (Q:QT):Prop:=
 gk a0 h fun t1 h0=>
 df [(I 0),(I 0),(S ⟨#[]⟩),(.full 0 [])] h0 fun t2 h1=>
 ab 0 t1 fun t4=>
 ag t4 h1 fun t5=>
 C ea [t5,(I 18)] h1 fun t6 h2=>
 ai .lss t6 (I 4) fun t18=>
 ifB t18 (
 ao 8 1 [(I 0),(I 1),(I 2),(I 255),(I 65536),(I 4294967295),(I 40),(I 7)] fun t19=>
 ab 1 t1 fun t20=>
 ag t20 h2 fun t21=>
 C ea [t21,(I 8)] h2 fun t22 h3=>
 am 1 t19 t22 fun t23=>
 ag t23 h3 fun t24=>
 ax [(I 0),(I 0),(S ⟨#[]⟩),(.full 0 [])] [(0,1,(I 1)),(1,1,t24)] fun t25=>
 ak 4 t2 t25 h3 fun h4=>
 aw 4 t2 h4 fun r5=>
 Q r5 h4) (
 ai .lss t6 (I 8) fun t28=>
 ifB t28 (
 ab 1 t1 fun t30=>
 ag t30 h2 fun t31=>
 C sQ [] h2 fun t29 h6=>
 (ag t30 h6 fun _t=>
 _t=t31)∧
 C ea [t31,(I 4)] h6 fun t32 h7=>
 am 1 t29 t32 fun t33=>
 ag t33 h7 fun t34=>
 ax [(I 0),(I 0),(S ⟨#[]⟩),(.full 0 [])] [(0,1,(I 2)),(2,1,t34)] fun t35=>
 ak 4 t2 t35 h7 fun h8=>
 aw 4 t2 h8 fun r9=>
 Q r9 h8) (
 ai .eql t6 (I 8) fun t38=>
 ifB t38 (
 ax [(I 0),(I 0),(S ⟨#[]⟩),(.full 0 [])] [(0,1,(I 3))] fun t39=>
 ak 4 t2 t39 h2 fun h10=>
 aw 4 t2 h10 fun r11=>
 Q r11 h10) (
 ai .lss t6 (I 11) fun t42=>
 ifB t42 (
 aw 3 t1 h2 fun t43=>
 C gK [t43,(I 0)] h2 fun t44 h12=>
 ao 1 4 [t44] fun t45=>
 ax [(I 0),(I 0),(S ⟨#[]⟩),(.full 0 [])] [(0,1,(I 4)),(3,1,t45)] fun t46=>
 ak 4 t2 t46 h12 fun h13=>
 aw 4 t2 h13 fun r14=>
 Q r14 h13) (
 ai .add (I 5) t6 fun t8=>
 ai .sub t8 (I 11) fun t9=>
 aw 3 t1 h2 fun t10=>
 aw 3 t1 h2 fun t12=>
 C gK [t10,(I 0)] h2 fun t11 h15=>
 (aw 3 t1 h15 fun _t=>
 _t=t12)∧
 C gK [t12,(I 1)] h15 fun t13 h16=>
 ao 2 4 [t11,t13] fun t14=>
 ax [(I 0),(I 0),(S ⟨#[]⟩),(.full 0 [])] [(0,1,t9),(3,1,t14)] fun t15=>
 ak 4 t2 t15 h16 fun h17=>
 aw 4 t2 h17 fun r18=>
 Q r18 h17))))
theorem Cr (a0:AV) (h:ae) (Q:QT) (k:zM a0 h Q):C jQ [a0] h Q:=
 okF (pl:=[(1000006,[1,2,0,3,4,5,6,7],[]),(1000002,[0,1,2,3,5,4,6,7,8,9],[])]) Tryz.func106 Tryz.ntmps106 (by kernel_rfl) (by kernel_rfl) rfl (by kernel_rfl) k
def zA (a0 a1:AV) (h:ae) (Q:QT):Prop:=
 gk a0 h fun t2 h0=>
 df [(I 0),(I 0),(S ⟨#[]⟩),(.full 0 [])] h0 fun t4 h1=>
 ab 2 t2 fun t6=>
 ag t6 h1 fun t7=>
 aY t7 fun t8=>
 ai .lss a1 t8 fun t9=>
 ifB t9 (
 ab 2 t2 fun t10=>
 ag t10 h1 fun t11=>
 am 3 t11 a1 fun t13=>
 aw 3 t13 h1 fun t14=>
 C jQ [t14] h1 fun t15 h2=>
 ak 4 t4 t15 h2 fun h3=>
 aw 4 t4 h3 fun r4=>
 Q r4 h3) (
 ab 1 t2 fun t16=>
 ag t16 h1 fun t17=>
 ai .add t17 a1 fun t19=>
 C ea [t19,(I 5)] h1 fun t20 h5=>
 ax [(I 0),(I 0),(S ⟨#[]⟩),(.full 0 [])] [(0,1,(I 1)),(1,1,t20)] fun t21=>
 ak 4 t4 t21 h5 fun h6=>
 aw 4 t4 h6 fun r7=>
 Q r7 h6)
theorem DB (a0 a1:AV) (h:ae) (Q:QT) (k:zA a0 a1 h Q):C gK [a0,a1] h Q:=
 okF (pl:=[]) Tryz.func134 Tryz.ntmps134 (by kernel_rfl) (by kernel_rfl) rfl (by kernel_rfl) k
def Bc (s3 s4:AV) (h:ae) (next0:NT):Prop:=
 ai .add s4 (I 1) fun t14=>
 next0 [s3,t14] h
def pM (s3 s4:AV) (h:ae) (next0:NT):Prop:=
 Bc s3 s4 h next0
def BH (s0:AV) (Q:QT) (vs0:List AV) (h:ae) (next0:NT):Prop:=
 aY s0 fun t7=>
 ai .lss (ap vs0 1) t7 fun t8=>
 ifB t8 (ai .lss (ap vs0 1) (I 4) fun t11=>
 ifB t11 (
 am 1 s0 (ap vs0 1) fun t17=>
 ag t17 h fun t18=>
 C ea [t18,(I 5)] h fun t19 h1=>
 ai .gtr t19 (I 0) fun t20=>
 ifB t20 (
 ao 8 1 [(I 0),(I 1),(I (-1)),(I 1099511627776),(I (-1099511627776)),(I 100),(I 3),(I 1048576)] fun t26=>
 am 1 s0 (ap vs0 1) fun t29=>
 ag t29 h1 fun t30=>
 ai .quo t30 (I 5) fun t31=>
 C sQ [] h1 fun t22 h2=>
 (ag t29 h2 fun _t=>
 _t=t30)∧
 am 1 t22 (ap vs0 1) fun t24=>
 ag t24 h2 fun t25=>
 C ea [t31,(I 8)] h2 fun t32 h3=>
 (ag t24 h3 fun _t=>
 _t=t25)∧
 am 1 t26 t32 fun t33=>
 ag t33 h3 fun t34=>
 ax [(S ⟨#[]⟩),(I 0)] [(0,1,t25),(1,1,t34)] fun t35=>
 ao 1 2 [t35] fun t36=>
 bc 2 24 (ap vs0 0) t36 h3 fun t37 h4=>
 pM t37 (ap vs0 1) h4 next0) (
 pM (ap vs0 0) (ap vs0 1) h1 next0)) (
 Q (ap vs0 0) h)) (
 Q (ap vs0 0) h)
def Jk (a0:AV) (h:ae) (Q:QT):Prop:=
 cb [(.full 0 []),(I 0)] h fun vs0 h next0=>BH a0 Q vs0 h next0
theorem LG (a0:AV) (h:ae) (Q:QT) (k:Jk a0 h Q):C uL [a0] h Q:=
 okF (pl:=[(4,[3,4,5,6,7,8,9,10,11,12,13,14,15,16,17,18,19,20,21,22,23,24,25,26,27,28,29,30,31,32,33,34,35,36,37],[3,4]),(1000006,[0,2,5,6,7,8,9,10,1,3,4,11,12,13,14,15,16,17],[])]) Tryz.func26 Tryz.ntmps26 (by kernel_rfl) (by kernel_rfl) rfl (by kernel_rfl) k
def A3 (s0 s1:AV) (Q:QT) (vs0:List AV) (h:ae) (next0:NT):Prop:=
 aY s0 fun t11=>
 ai .lss (ap vs0 1) t11 fun t12=>
 ifB t12 (ai .leq (ap vs0 0) (I 16) fun t15=>
 ifB t15 (
 ai .add (ap vs0 0) (I 1) fun t20=>
 am 3 s0 (ap vs0 1) fun t23=>
 ab 2 t23 fun t24=>
 ag t24 h fun t25=>
 ai .add s1 (I 1) fun t27=>
 C pY [t25,t27] h fun t28 h1=>
 ai .add t20 t28 fun t29=>
 ai .add (ap vs0 1) (I 1) fun t18=>
 next0 [t29,t18] h1) (
 Q (ap vs0 0) h)) (
 Q (ap vs0 0) h)
def CP (a0 a1:AV) (h:ae) (Q:QT):Prop:=
 ai .gtr a1 (I 7) fun t8=>
 ifB t8 (
 Q (I 1000) h) (
 cb [(I 0),(I 0)] h fun vs0 h next0=>A3 a0 a1 Q vs0 h next0)
theorem BB (a0 a1:AV) (h:ae) (Q:QT) (k:CP a0 a1 h Q):C pY [a0,a1] h Q:=
 okF (pl:=[(6,[5,6,9,10,11,12,13,14,15,16,17,18,19,20,21,22,23,24,25,26,27,28,29],[5,6])]) Tryz.func50 Tryz.ntmps50 (by kernel_rfl) (by kernel_rfl) rfl (by kernel_rfl) k
def wA (s5:AV) (h:ae) (Q:QT):Prop:=
 Q s5 h
def Ee (a0 a1:AV) (h:ae) (Q:QT):Prop:=
 ai .rem a0 a1 fun t8=>
 ai .lss t8 (I 0) fun t10=>
 ifB t10 (
 ai .add t8 a1 fun t13=>
 wA t13 h Q) (
 wA t8 h Q)
theorem FQ (a0 a1:AV) (h:ae) (Q:QT) (k:Ee a0 a1 h Q):C ea [a0,a1] h Q:=
 okF (pl:=[]) Tryz.func43 Tryz.ntmps43 (by kernel_rfl) (by kernel_rfl) rfl (by kernel_rfl) k
def D9 (s0:AV) (Q:QT) (vs0:List AV) (h:ae) (next0:NT):Prop:=
 aY s0 fun t6=>
 ai .lss (ap vs0 1) t6 fun t7=>
 ifB t7 (
 am 6 s0 (ap vs0 1) fun t12=>
 ab 4 t12 fun t13=>
 ag t13 h fun t14=>
 C wl [t14] h fun t15 h1=>
 qUn .not t15 fun t16=>
 ifB t16 (Q (B false) h1) (
 am 6 s0 (ap vs0 1) fun t20=>
 ab 3 t20 fun t21=>
 ag t21 h1 fun t22=>
 aY t22 fun t23=>
 ai .gtr t23 (I 60) fun t24=>
 ifB t24 (
 Q (B false) h1) (
 ai .add (ap vs0 1) (I 1) fun t9=>
 next0 [(ap vs0 0),t9] h1))) (
 Q (B true) h)
def NQ (a0:AV) (h:ae) (Q:QT):Prop:=
 cb [(B false),(I 0)] h fun vs0 h next0=>D9 a0 Q vs0 h next0
theorem Oa (a0:AV) (h:ae) (Q:QT) (k:NQ a0 h Q):C oI [a0] h Q:=
 okF (pl:=[(3,[2,3,4,5,6,7,8,9,10,11,12,13,14,15,16,17,18,19,20,21,22,23,24,25],[2,3])]) Tryz.func15 Tryz.ntmps15 (by kernel_rfl) (by kernel_rfl) rfl (by kernel_rfl) k
def Er (h:ae) (Q:QT):Prop:=
 ao 4 1 [(S ⟨#[97]⟩),(S ⟨#[98,49]⟩),(S ⟨#[108,111,111,112]⟩),(S ⟨#[120]⟩)] fun t1=>
 Q t1 h
theorem GQ (h:ae) (Q:QT) (k:Er  h Q):C gP [] h Q:=
 okF (pl:=[]) Tryz.func75 Tryz.ntmps75 (by kernel_rfl) (by kernel_rfl) rfl (by kernel_rfl) k
def ja (s3 s2:AV) (h:ae) (Q:QT):Prop:=
 aw 6 s3 h fun t155=>
 ak 6 s2 t155 h fun h18=>
 aw 6 s2 h18 fun r19=>
 Q r19 h18
def jJ (s1:AV) (h:ae) (s3 s2:AV) (Q:QT):Prop:=
 ab 2 s1 fun t149=>
 ag t149 h fun t150=>
 C gP [] h fun t148 h15=>
 (ag t149 h15 fun _t=>
 _t=t150)∧
 C aW [t150,(I 4)] h15 fun t151 h16=>
 am 1 t148 t151 fun t152=>
 ag t152 h16 fun t153=>
 ab 1 s3 fun t154=>
 ak 1 t154 t153 h16 fun h17=>
 ja s3 s2 h17 Q
def sb (s3 s2 s1:AV) (h:ae) (Q:QT):Prop:=
 ab 5 s1 fun t141=>
 ag t141 h fun t142=>
 ifB t142 (jJ s1 h s3 s2 Q) (
 ab 2 s3 fun t144=>
 ag t144 h fun t145=>
 ai .eql t145 (I 0) fun t146=>
 ifB t146 (
 jJ s1 h s3 s2 Q) (
 ja s3 s2 h Q))
def cQ (s3 s2 s1:AV) (h:ae) (Q:QT):Prop:=
 sb s3 s2 s1 h Q
def mA (s5 s3 s2 s1:AV) (Q:QT) (vs10:List AV) (h:ae) (next10:NT):Prop:=
 aY s5 fun t39=>
 ai .lss (ap vs10 0) t39 fun t40=>
 ifB t40 (
 ab 5 s3 fun t43=>
 ag t43 h fun t44=>
 aw 6 s1 h fun t45=>
 am 1 s5 (ap vs10 0) fun t48=>
 ag t48 h fun t49=>
 aw 6 s1 h fun t50=>
 C ie [t50,(ap vs10 0)] h fun t52 h11=>
 (ag t48 h11 fun _t=>
 _t=t49)∧
 (aw 6 s1 h11 fun _t=>
 _t=t45)∧
 (ag t43 h11 fun _t=>
 _t=t44)∧
 C mw [t45,t49,t52] h11 fun t53 h12=>
 (ag t43 h12 fun _t=>
 _t=t44)∧
 ao 1 5 [t53] fun t54=>
 bc 5 64 t44 t54 h12 fun t55 h13=>
 ab 5 s3 fun t56=>
 ak 1 t56 t55 h13 fun h14=>
 ai .add (ap vs10 0) (I 1) fun t42=>
 next10 [t42] h14) (
 cQ s3 s2 s1 h Q)
def i7 (s3 s2 s1:AV) (h:ae) (Q:QT):Prop:=
 ab 5 s3 fun t81=>
 ag t81 h fun t82=>
 ab 2 s1 fun t84=>
 ag t84 h fun t85=>
 C gP [] h fun t83 h33=>
 (ag t84 h33 fun _t=>
 _t=t85)∧
 (ag t81 h33 fun _t=>
 _t=t82)∧
 C aW [t85,(I 4)] h33 fun t86 h34=>
 (ag t81 h34 fun _t=>
 _t=t82)∧
 am 1 t83 t86 fun t87=>
 ag t87 h34 fun t88=>
 ax [(I 0),(I 0),(S ⟨#[]⟩),(.full 0 [])] [(0,1,(I 2)),(2,1,t88)] fun t89=>
 ax [(I 0),(I 0),(I 0),(S ⟨#[]⟩),(.full 0 [])] [(0,1,(I (-1))),(1,4,t89)] fun t90=>
 ao 1 5 [t90] fun t91=>
 bc 5 64 t82 t91 h34 fun t92 h35=>
 ab 5 s3 fun t93=>
 ak 1 t93 t92 h35 fun h36=>
 cQ s3 s2 s1 h36 Q
def jF (t120:AV) (h44:ae) (t121 t3 t124 t2 t1:AV) (Q:QT):Prop:=
 (ag t120 h44 fun _t=>
 _t=t121)∧
 ab 5 t3 fun t126=>
 ak 1 t126 t124 h44 fun h45=>
 cQ t3 t2 t1 h45 Q
def zI (a0:AV) (h:ae) (Q:QT):Prop:=
 gk a0 h fun t1 h0=>
 df [(I 0),(S ⟨#[]⟩),(I 0),(I 0),(S ⟨#[]⟩),(.full 0 [])] h0 fun t2 h1=>
 ax [(I 0),(S ⟨#[]⟩),(I 0),(I 0),(S ⟨#[]⟩),(.full 0 [])] [(0,1,(I 1))] fun t7=>
 df [(I 0),(S ⟨#[]⟩),(I 0),(I 0),(S ⟨#[]⟩),(.full 0 [])] h1 fun t3 h2=>
 ak 6 t3 t7 h2 fun h3=>
 ab 0 t1 fun t8=>
 ag t8 h3 fun t9=>
 C aW [t9,(I 16)] h3 fun t10 h4=>
 ai .lss t10 (I 6) fun t27=>
 ifB t27 (
 ab 1 t1 fun t28=>
 ag t28 h4 fun t29=>
 C aW [t29,(I 66)] h4 fun t30 h5=>
 ab 2 t3 fun t31=>
 ak 1 t31 (I 1) h5 fun h6=>
 ab 3 t3 fun t32=>
 ak 1 t32 t30 h6 fun h7=>
 ab 3 t3 fun t33=>
 ag t33 h7 fun t34=>
 C nV [t34] h7 fun t35 h8=>
 C n5 [t35] h8 fun t36 h9=>
 cb [(I 0)] h9 fun vs10 h next10=>mA t36 t3 t2 t1 Q vs10 h next10) (
 ai .lss t10 (I 9) fun t59=>
 ifB t59 (
 ab 1 t1 fun t60=>
 ag t60 h4 fun t61=>
 C aW [t61,(I 3)] h4 fun t62 h27=>
 ab 2 t3 fun t63=>
 ak 1 t63 (I 2) h27 fun h28=>
 ab 3 t3 fun t64=>
 ak 1 t64 t62 h28 fun h29=>
 ab 3 t3 fun t65=>
 ag t65 h29 fun t66=>
 ai .eql t66 (I 2) fun t67=>
 ifB t67 (
 ab 2 t1 fun t68=>
 ag t68 h29 fun t69=>
 ab 2 t1 fun t73=>
 ag t73 h29 fun t74=>
 ai .quo t74 (I 2) fun t75=>
 C aW [t69,(I 2)] h29 fun t70 h30=>
 (ag t73 h30 fun _t=>
 _t=t74)∧
 ax [(I 0),(I 0),(S ⟨#[]⟩),(.full 0 [])] [(0,1,(I 1)),(1,1,t70)] fun t71=>
 ax [(I 0),(I 0),(I 0),(S ⟨#[]⟩),(.full 0 [])] [(0,1,(I (-1))),(1,4,t71)] fun t72=>
 C aW [t75,(I 4)] h30 fun t76 h31=>
 ax [(I 0),(I 0),(S ⟨#[]⟩),(.full 0 [])] [(0,1,(I 1)),(1,1,t76)] fun t77=>
 ax [(I 0),(I 0),(I 0),(S ⟨#[]⟩),(.full 0 [])] [(0,1,(I (-1))),(1,4,t77)] fun t78=>
 ao 2 5 [t72,t78] fun t79=>
 ab 5 t3 fun t80=>
 ak 1 t80 t79 h31 fun h32=>
 i7 t3 t2 t1 h32 Q) (
 i7 t3 t2 t1 h29 Q)) (
 ai .lss t10 (I 12) fun t96=>
 ifB t96 (
 aw 6 t1 h4 fun t97=>
 ai .add (I 3) t10 fun t99=>
 ai .sub t99 (I 9) fun t100=>
 C mJ [t97,t100] h4 fun t101 h38=>
 ak 6 t3 t101 h38 fun h39=>
 cQ t3 t2 t1 h39 Q) (
 ai .eql t10 (I 12) fun t104=>
 ifB t104 (
 ao 5 1 [(S ⟨#[]⟩),(S ⟨#[104,105]⟩),(S ⟨#[97,32,35,32,98,44,32,99]⟩),(S ⟨#[48,49,50,51,52,53,54,55,56,57]⟩),(S ⟨#[116,97,98]⟩)] fun t105=>
 ab 1 t1 fun t106=>
 ag t106 h4 fun t107=>
 ab 2 t3 fun t111=>
 C aW [t107,(I 5)] h4 fun t108 h40=>
 am 1 t105 t108 fun t109=>
 ag t109 h40 fun t110=>
 ak 1 t111 (I 6) h40 fun h41=>
 (ag t109 h41 fun _t=>
 _t=t110)∧
 ab 4 t3 fun t112=>
 ak 1 t112 t110 h41 fun h42=>
 cQ t3 t2 t1 h42 Q) (
 ai .eql t10 (I 13) fun t115=>
 ifB t115 (
 ao 6 1 [(I 1),(I 2),(I 4),(I 8),(I 16),(I 3)] fun t116=>
 ab 1 t1 fun t117=>
 ag t117 h4 fun t118=>
 ab 2 t3 fun t125=>
 C aW [t118,(I 6)] h4 fun t119 h43=>
 am 1 t116 t119 fun t120=>
 ag t120 h43 fun t121=>
 ax [(I 0),(I 0),(S ⟨#[]⟩),(.full 0 [])] [(0,1,(I 1)),(1,1,t121)] fun t122=>
 ax [(I 0),(I 0),(I 0),(S ⟨#[]⟩),(.full 0 [])] [(0,1,(I (-1))),(1,4,t122)] fun t123=>
 ao 1 5 [t123] fun t124=>
 ak 1 t125 (I 7) h43 fun h44=>
 jF t120 h44 t121 t3 t124 t2 t1 Q) (
 ai .eql t10 (I 14) fun t129=>
 ifB t129 (
 ao 8 1 [(I 0),(I 2),(I 100),(I 250),(I 252),(I 254),(I 256),(I 7)] fun t130=>
 ab 1 t1 fun t131=>
 ag t131 h4 fun t132=>
 ab 2 t3 fun t139=>
 C aW [t132,(I 8)] h4 fun t133 h46=>
 am 1 t130 t133 fun t134=>
 ag t134 h46 fun t135=>
 ax [(I 0),(I 0),(S ⟨#[]⟩),(.full 0 [])] [(0,1,(I 1)),(1,1,t135)] fun t136=>
 ax [(I 0),(I 0),(I 0),(S ⟨#[]⟩),(.full 0 [])] [(0,1,(I (-1))),(1,4,t136)] fun t137=>
 ao 1 5 [t137] fun t138=>
 ak 1 t139 (I 8) h46 fun h47=>
 jF t134 h47 t135 t3 t138 t2 t1 Q) (
 ao 3 1 [(S ⟨#[107]⟩),(S ⟨#[115,105,122,101]⟩),(S ⟨#[120]⟩)] fun t11=>
 ab 1 t1 fun t12=>
 ag t12 h4 fun t13=>
 ab 4 t1 fun t17=>
 ag t17 h4 fun t18=>
 ab 2 t3 fun t22=>
 C aW [t13,(I 3)] h4 fun t14 h49=>
 (ag t17 h49 fun _t=>
 _t=t18)∧
 am 1 t11 t14 fun t15=>
 ag t15 h49 fun t16=>
 C oG [t18] h49 fun t19 h50=>
 (ag t15 h50 fun _t=>
 _t=t16)∧
 ax [(I 0),(I 0),(I 0),(S ⟨#[]⟩),(.full 0 [])] [(0,1,(I (-1))),(1,4,t19)] fun t20=>
 ao 1 5 [t20] fun t21=>
 ak 1 t22 (I 9) h50 fun h51=>
 (ag t15 h51 fun _t=>
 _t=t16)∧
 ab 4 t3 fun t23=>
 ak 1 t23 t16 h51 fun h52=>
 ab 5 t3 fun t24=>
 ak 1 t24 t21 h52 fun h53=>
 cQ t3 t2 t1 h53 Q))))))
theorem CH (a0:AV) (h:ae) (Q:QT) (k:zI a0 h Q):C nB [a0] h Q:=
 okF (pl:=[(9,[6,37,38,39,40,41,42,43,44,45,46,47,48,49,50,51,52,53,54,55,56],[6]),(1000010,[0,1,2,3,4,5,6,7,8,9,10,11,12,13,14],[]),(1000025,[1,2,0,3,4,5,6,7],[]),(1000014,[0,1,5,6,7,2,3,4,8,9,10,11,12,13],[]),(1000015,[0,1,3,4,2,5,6,7,8,9,10,11,12,13],[]),(1000019,[0,1,2,6,3,4,5,7,8,9],[]),(1000021,[0,1,2,9,3,4,5,6,7,8,10,11,12],[]),(1000023,[0,1,2,9,3,4,5,6,7,8,10,11,12],[]),(1000003,[0,1,2,6,7,11,3,4,5,8,9,10,12,13,14,15,16],[])]) Tryz.func42 Tryz.ntmps42 (by kernel_rfl) (by kernel_rfl) rfl (by kernel_rfl) k
def qv (s7 s6 s5:AV) (h:ae) (next4:NT):Prop:=
 ab 5 s5 fun t52=>
 ag t52 h fun t53=>
 aw 5 s7 h fun t54=>
 ao 1 5 [t54] fun t55=>
 bc 5 64 t53 t55 h fun t56 h12=>
 ab 5 s5 fun t57=>
 ak 1 t57 t56 h12 fun h13=>
 ai .add s6 (I 1) fun t17=>
 next4 [t17] h13
def fh (s7 s6 s5:AV) (h:ae) (next4:NT):Prop:=
 qv s7 s6 s5 h next4
def iV (t21:AV) (h9:ae) (t7:AV) (vs4:List AV) (s5:AV) (next4:NT):Prop:=
 C aW [t21,(I 6)] h9 fun t42 h16=>
 ai .eql t42 (I 1) fun t43=>
 ifB t43 (
 C gP [] h16 fun t44 h17=>
 ai .quo t21 (I 6) fun t46=>
 C aW [t46,(I 4)] h17 fun t47 h18=>
 am 1 t44 t47 fun t48=>
 ag t48 h18 fun t49=>
 ax [(I 0),(I 0),(S ⟨#[]⟩),(.full 0 [])] [(0,1,(I 2)),(2,1,t49)] fun t50=>
 ab 1 t7 fun t51=>
 ak 4 t51 t50 h18 fun h19=>
 fh t7 (ap vs4 0) s5 h19 next4) (
 C aW [t21,(I 256)] h16 fun t23 h20=>
 ax [(I 0),(I 0),(S ⟨#[]⟩),(.full 0 [])] [(0,1,(I 1)),(1,1,t23)] fun t24=>
 ab 1 t7 fun t25=>
 ak 4 t25 t24 h20 fun h21=>
 fh t7 (ap vs4 0) s5 h21 next4)
def qp (s5 s4 s2:AV) (Q:QT) (vs4:List AV) (h:ae) (next4:NT):Prop:=
 ab 2 s2 fun t12=>
 ag t12 h fun t13=>
 C aW [t13,(I 4)] h fun t14 h5=>
 ai .leq (ap vs4 0) t14 fun t15=>
 ifB t15 (
 ax [(I 0),(I 0),(I 0),(S ⟨#[]⟩),(.full 0 [])] [(0,1,(I (-1)))] fun t18=>
 df [(I 0),(I 0),(I 0),(S ⟨#[]⟩),(.full 0 [])] h5 fun t7 h6=>
 ak 5 t7 t18 h6 fun h7=>
 aw 6 s2 h7 fun t19=>
 C ie [t19,(ap vs4 0)] h7 fun t21 h8=>
 C aW [t21,(I 6)] h8 fun t28 h9=>
 ai .eql t28 (I 0) fun t29=>
 ifB t29 (ab 4 s2 fun t31=>
 ag t31 h9 fun t32=>
 aY t32 fun t33=>
 ai .gtr t33 (I 0) fun t34=>
 ifB t34 (
 ab 4 s2 fun t36=>
 ag t36 h9 fun t37=>
 C oG [t37] h9 fun t38 h10=>
 ab 1 t7 fun t39=>
 ak 4 t39 t38 h10 fun h11=>
 fh t7 (ap vs4 0) s5 h11 next4) (
 iV t21 h9 t7 vs4 s5 next4)) (
 iV t21 h9 t7 vs4 s5 next4)) (
 aw 6 s5 h5 fun t58=>
 ak 6 s4 t58 h5 fun h28=>
 aw 6 s4 h28 fun r29=>
 Q r29 h28)
def xF (a0 a1:AV) (h:ae) (Q:QT):Prop:=
 gk a0 h fun t2 h0=>
 df [(I 0),(S ⟨#[]⟩),(I 0),(I 0),(S ⟨#[]⟩),(.full 0 [])] h0 fun t4 h1=>
 ax [(I 0),(S ⟨#[]⟩),(I 0),(I 0),(S ⟨#[]⟩),(.full 0 [])] [(0,1,(I 1)),(2,1,a1)] fun t10=>
 df [(I 0),(S ⟨#[]⟩),(I 0),(I 0),(S ⟨#[]⟩),(.full 0 [])] h1 fun t5 h2=>
 ak 6 t5 t10 h2 fun h3=>
 cb [(I 0)] h3 fun vs4 h next4=>qp t5 t4 t2 Q vs4 h next4
theorem BT (a0 a1:AV) (h:ae) (Q:QT) (k:xF a0 a1 h Q):C mJ [a0,a1] h Q:=
 okF (pl:=[(4,[6,7,8,11,12,13,14,15,16,17,18,19,20,21,22,23,24,25,26,27,28,29,30,31,32,33,34,35,36,37,38,39,40,41,42,43,44,45,46,47,48,49,50,51,52,53,54,55,56,57],[6])]) Tryz.func76 Tryz.ntmps76 (by kernel_rfl) (by kernel_rfl) rfl (by kernel_rfl) k
def vO (a0 a1:AV) (h:ae) (Q:QT):Prop:=
 gk a0 h fun t2 h0=>
 ab 3 t2 fun t6=>
 ag t6 h0 fun t7=>
 aY t7 fun t8=>
 ai .lss a1 t8 fun t9=>
 ifB t9 (
 ab 3 t2 fun t10=>
 ag t10 h0 fun t11=>
 am 1 t11 a1 fun t13=>
 ag t13 h0 fun t14=>
 Q t14 h0) (
 ab 1 t2 fun t15=>
 ag t15 h0 fun t16=>
 ai .add t16 a1 fun t18=>
 Q t18 h0)
theorem z7 (a0 a1:AV) (h:ae) (Q:QT) (k:vO a0 a1 h Q):C ie [a0,a1] h Q:=
 okF (pl:=[]) Tryz.func74 Tryz.ntmps74 (by kernel_rfl) (by kernel_rfl) rfl (by kernel_rfl) k
def qF (s7 s6:AV) (h:ae) (Q:QT):Prop:=
 aw 5 s7 h fun t49=>
 ak 5 s6 t49 h fun h11=>
 aw 5 s6 h11 fun r12=>
 Q r12 h11
def fc (s7 s6:AV) (h:ae) (Q:QT):Prop:=
 qF s7 s6 h Q
def iR (a1:AV) (h8:ae) (a2 t7 t6:AV) (Q:QT):Prop:=
 bj a1 (I 0) fun t40=>
 ai .eql t40 (.lit (.int .u8 84)) fun t41=>
 ifB t41 (
 C gP [] h8 fun t42 h15=>
 C aW [a2,(I 4)] h15 fun t44 h16=>
 am 1 t42 t44 fun t45=>
 ag t45 h16 fun t46=>
 ax [(I 0),(I 0),(S ⟨#[]⟩),(.full 0 [])] [(0,1,(I 2)),(2,1,t46)] fun t47=>
 ab 1 t7 fun t48=>
 ak 4 t48 t47 h16 fun h17=>
 fc t7 t6 h17 Q) (
 C k5 [a1,a2] h8 fun t18 h18=>
 C dy [t18] h18 fun t19 h19=>
 C sM [t19] h19 fun t20 h20=>
 an 0 t20 fun t21=>
 an 1 t20 fun t22=>
 ab 1 t7 fun t23=>
 ak 4 t23 t21 h20 fun h21=>
 fc t7 t6 h21 Q)
def x7 (a0 a1 a2:AV) (h:ae) (Q:QT):Prop:=
 gk a0 h fun t3 h0=>
 df [(I 0),(I 0),(I 0),(S ⟨#[]⟩),(.full 0 [])] h0 fun t6 h1=>
 C tv [a1] h1 fun t9 h2=>
 ifB t9 (
 C k5 [a1,a2] h2 fun t12 h3=>
 ax [(I 0),(I 0),(I 0),(S ⟨#[]⟩),(.full 0 [])] [(0,1,t12)] fun t13=>
 ak 5 t6 t13 h3 fun h4=>
 aw 5 t6 h4 fun r5=>
 Q r5 h4) (
 ax [(I 0),(I 0),(I 0),(S ⟨#[]⟩),(.full 0 [])] [(0,1,(I (-1)))] fun t14=>
 df [(I 0),(I 0),(I 0),(S ⟨#[]⟩),(.full 0 [])] h2 fun t7 h6=>
 ak 5 t7 t14 h6 fun h7=>
 C aW [a2,(I 5)] h7 fun t26 h8=>
 ai .eql t26 (I 0) fun t27=>
 ifB t27 (ab 4 t3 fun t29=>
 ag t29 h8 fun t30=>
 aY t30 fun t31=>
 ai .gtr t31 (I 0) fun t32=>
 ifB t32 (
 ab 4 t3 fun t34=>
 ag t34 h8 fun t35=>
 C oG [t35] h8 fun t36 h9=>
 ab 1 t7 fun t37=>
 ak 4 t37 t36 h9 fun h10=>
 fc t7 t6 h10 Q) (
 iR a1 h8 a2 t7 t6 Q)) (
 iR a1 h8 a2 t7 t6 Q))
theorem BJ (a0 a1 a2:AV) (h:ae) (Q:QT) (k:x7 a0 a1 a2 h Q):C mw [a0,a1,a2] h Q:=
 okF (pl:=[]) Tryz.func73 Tryz.ntmps73 (by kernel_rfl) (by kernel_rfl) rfl (by kernel_rfl) k
def vo (s7:AV) (h:ae) (Q:QT):Prop:=
 Q s7 h
def pG (s7:AV) (h:ae) (Q:QT):Prop:=
 vo s7 h Q
def AZ (s10 s7 s8 s2:AV) (h:ae) (next0:NT) (Q:QT):Prop:=
 bH s7 fun t45=>
 bH s10 fun t47=>
 ai .add t45 t47 fun t48=>
 ai .add t48 (I 1) fun t49=>
 ai .gtr t49 s2 fun t51=>
 ifB t51 (
 pG s7 h Q) (
 ai .add s7 s10 fun t54=>
 ai .add t54 (S ⟨#[10]⟩) fun t55=>
 ai .add s8 (I 1) fun t16=>
 next0 [t55,t16] h)
def jS (s10 s7 s8 s2:AV) (h:ae) (next0:NT) (Q:QT):Prop:=
 AZ s10 s7 s8 s2 h next0 Q
def pX (s9 s7 s8 s0 s2:AV) (h:ae) (next0:NT) (Q:QT):Prop:=
 am 6 s0 s8 fun t28=>
 aw 6 t28 h fun t29=>
 C nB [t29] h fun t30 h2=>
 C vw [t30] h2 fun t31 h3=>
 ai .eql s9 (I 0) fun t34=>
 ifB t34 (
 jS (S ⟨#[]⟩) s7 s8 s2 h3 next0 Q) (
 ai .eql s9 (I 1) fun t36=>
 ifB t36 (
 ai .add (S ⟨#[35,32]⟩) t31 fun t38=>
 jS t38 s7 s8 s2 h3 next0 Q) (
 ai .eql s9 (I 2) fun t40=>
 ifB t40 (
 ai .add (S ⟨#[32,32]⟩) t31 fun t42=>
 ai .add t42 (S ⟨#[32,32,35,32,101,110,100]⟩) fun t43=>
 jS t43 s7 s8 s2 h3 next0 Q) (
 jS t31 s7 s8 s2 h3 next0 Q)))
def B2 (s0 s1 s2:AV) (Q:QT) (vs0:List AV) (h:ae) (next0:NT):Prop:=
 aY s0 fun t13=>
 ai .lss (ap vs0 1) t13 fun t14=>
 ifB t14 (
 aY s1 fun t19=>
 ai .lss (ap vs0 1) t19 fun t20=>
 ifB t20 (
 am 1 s1 (ap vs0 1) fun t23=>
 ag t23 h fun t24=>
 C aW [t24,(I 24)] h fun t25 h1=>
 pX t25 (ap vs0 0) (ap vs0 1) s0 s2 h1 next0 Q) (
 pX (I 9) (ap vs0 0) (ap vs0 1) s0 s2 h next0 Q)) (
 pG (ap vs0 0) h Q)
def JN (a0 a1 a2:AV) (h:ae) (Q:QT):Prop:=
 cb [(S ⟨#[]⟩),(I 0)] h fun vs0 h next0=>B2 a0 a1 a2 Q vs0 h next0
theorem MP (a0 a1 a2:AV) (h:ae) (Q:QT) (k:JN a0 a1 a2 h Q):C mT [a0,a1,a2] h Q:=
 okF (pl:=[(4,[7,8,9,10,11,12,13,14,15,16,17,18,19,20,21,22,23,24,25,26,27,28,29,30,31,32,33,34,35,36,37,38,39,40,41,42,43,44,45,46,47,48,49,50,51,52,53,54,55],[7,8])]) Tryz.func25 Tryz.ntmps25 (by kernel_rfl) (by kernel_rfl) rfl (by kernel_rfl) k
def yX (a0:AV) (h:ae) (Q:QT):Prop:=
 C jM [a0] h fun t4 h0=>
 Q t4 h0
theorem Dx (a0:AV) (h:ae) (Q:QT) (k:yX a0 h Q):C tv [a0] h Q:=
 okF (pl:=[]) Tryz.func103 Tryz.ntmps103 (by kernel_rfl) (by kernel_rfl) rfl (by kernel_rfl) k
def xp (s5:AV) (h:ae) (Q:QT):Prop:=
 Q s5 h
def DU (a0 a1:AV) (h:ae) (Q:QT):Prop:=
 ai .rem a0 a1 fun t8=>
 ai .lss t8 (I 0) fun t10=>
 ifB t10 (
 ai .add t8 a1 fun t13=>
 xp t13 h Q) (
 xp t8 h Q)
theorem FG (a0 a1:AV) (h:ae) (Q:QT) (k:DU a0 a1 h Q):C aW [a0,a1] h Q:=
 okF (pl:=[]) Tryz.func40 Tryz.ntmps40 (by kernel_rfl) (by kernel_rfl) rfl (by kernel_rfl) k
def xO (a0:AV) (h:ae) (Q:QT):Prop:=
 gk a0 h fun t1 h0=>
 ab 0 t1 fun t3=>
 ag t3 h0 fun t4=>
 aY t4 fun t5=>
 ab 1 t1 fun t6=>
 ag t6 h0 fun t7=>
 aY t7 fun t8=>
 ai .add t5 t8 fun t9=>
 ab 2 t1 fun t10=>
 ag t10 h0 fun t11=>
 aY t11 fun t12=>
 ai .add t9 t12 fun t13=>
 ai .leq t13 (I 40) fun t14=>
 ifB t14 (ab 0 t1 fun t16=>
 ag t16 h0 fun t17=>
 C oI [t17] h0 fun t18 h1=>
 ifB t18 (ab 1 t1 fun t21=>
 ag t21 h1 fun t22=>
 C oI [t22] h1 fun t23 h2=>
 ifB t23 (ab 2 t1 fun t26=>
 ag t26 h2 fun t27=>
 C oI [t27] h2 fun t28 h3=>
 ifB t28 (ab 3 t1 fun t31=>
 ag t31 h3 fun t32=>
 aY t32 fun t33=>
 ai .leq t33 (I 60) fun t34=>
 Q t34 h3) (
 Q (B false) h3)) (
 Q (B false) h2)) (
 Q (B false) h1)) (
 Q (B false) h0)
theorem Bx (a0:AV) (h:ae) (Q:QT) (k:xO a0 h Q):C lS [a0] h Q:=
 okF (pl:=[]) Tryz.func7 Tryz.ntmps7 (by kernel_rfl) (by kernel_rfl) rfl (by kernel_rfl) k
def vP (a0:AV) (h:ae) (Q:QT):Prop:=
 gk a0 h fun t1 h0=>
 ab 0 t1 fun t5=>
 ag t5 h0 fun t6=>
 ab 3 t1 fun t7=>
 ag t7 h0 fun t8=>
 ab 1 t1 fun t11=>
 ag t11 h0 fun t12=>
 ab 3 t1 fun t13=>
 ag t13 h0 fun t14=>
 ab 2 t1 fun t17=>
 ag t17 h0 fun t18=>
 C mT [t6,t8,(I 600)] h0 fun t9 h1=>
 (ag t17 h1 fun _t=>
 _t=t18)∧
 (ag t13 h1 fun _t=>
 _t=t14)∧
 (ag t11 h1 fun _t=>
 _t=t12)∧
 ax [(S ⟨#[]⟩),(S ⟨#[]⟩)] [(0,1,(S ⟨#[109,97,105,110]⟩)),(1,1,t9)] fun t10=>
 C mT [t12,t14,(I 600)] h1 fun t15 h2=>
 (ag t17 h2 fun _t=>
 _t=t18)∧
 ax [(S ⟨#[]⟩),(S ⟨#[]⟩)] [(0,1,(S ⟨#[109,111,114,101]⟩)),(1,1,t15)] fun t16=>
 C mT [t18,(.full 0 []),(I 600)] h2 fun t19 h3=>
 ax [(S ⟨#[]⟩),(S ⟨#[]⟩)] [(0,1,(S ⟨#[122]⟩)),(1,1,t19)] fun t20=>
 ao 3 2 [t10,t16,t20] fun t21=>
 ab 4 t1 fun t23=>
 ag t23 h3 fun t24=>
 C uL [t24] h3 fun t25 h4=>
 Q (.tup [t21,t25]) h4
theorem Ax (a0:AV) (h:ae) (Q:QT) (k:vP a0 h Q):C lw [a0] h Q:=
 okF (pl:=[(1000001,[0,1,2,3,6,7,8,9,12,13,4,5,10,11,14,15,16,17],[])]) Tryz.func8 Tryz.ntmps8 (by kernel_rfl) (by kernel_rfl) rfl (by kernel_rfl) k
def qM (s9 s8 s7 s1 s2:AV) (Q:QT) (vs5:List AV) (h:ae) (next5:NT):Prop:=
 C lZ [s1,(I 4)] h fun t28 h6=>
 ai .leq (ap vs5 0) t28 fun t29=>
 ifB t29 (
 C cq [s9,s7,s8] h6 fun t35 h7=>
 ai .add (ap vs5 0) (I 1) fun t31=>
 next5 [t31] h7) (
 C cL [s9] h6 fun t37 h8=>
 ai .neq t37 (I 3) fun t38=>
 ifB t38 (Q (B false) h8) (
 C d5 [s9] h8 fun t41 h9=>
 ai .neq t41 (I 3) fun t42=>
 ifB t42 (
 Q (B false) h9) (
 C lZ [s2,(I 3)] h9 fun t45 h10=>
 ao 0 2 [] fun t46=>
 bc 2 32 t46 s7 h10 fun t48 h11=>
 am 2 t48 t45 fun t53=>
 ab 1 t53 fun t54=>
 ag t54 h11 fun t55=>
 ai .add t55 (S ⟨#[35]⟩) fun t56=>
 am 2 t48 t45 fun t57=>
 ab 1 t57 fun t58=>
 ak 1 t58 t56 h11 fun h12=>
 C cq [s9,t48,(.full 0 [])] h12 fun t61 h13=>
 C cL [s9] h13 fun t63 h14=>
 ai .neq t63 (I 4) fun t64=>
 ifB t64 (
 Q (B false) h14) (
 ao 0 2 [] fun t66=>
 ir 2 t48 none (some t45) fun t69=>
 ai .add t45 (I 1) fun t73=>
 ir 2 t48 (some t73) none fun t74=>
 bc 2 32 t66 t69 h14 fun t70 h15=>
 bc 2 32 t70 t74 h15 fun t75 h16=>
 C cq [s9,t75,s8] h16 fun t77 h17=>
 C cL [s9] h17 fun t79 h18=>
 ai .neq t79 (I 4) fun t80=>
 ifB t80 (Q (B false) h18) (
 C d5 [s9] h18 fun t83 h19=>
 ai .neq t83 (I 2) fun t84=>
 ifB t84 (
 Q (B false) h19) (
 C cq [s9,t48,s8] h19 fun t89 h20=>
 C cL [s9] h20 fun t91 h21=>
 ai .eql t91 (I 5) fun t92=>
 ifB t92 (C d5 [s9] h21 fun t95 h22=>
 ai .eql t95 (I 3) fun t96=>
 Q t96 h22) (
 Q (B false) h21)))))))
def x8 (a0 a1 a2:AV) (h:ae) (Q:QT):Prop:=
 gk a0 h fun t3 h0=>
 C nZ [] h0 fun t13 h1=>
 qUn .not t13 fun t14=>
 ifB t14 (
 Q (B false) h1) (
 aw 5 t3 h1 fun t15=>
 C lS [t15] h1 fun t16 h2=>
 qUn .not t16 fun t17=>
 ifB t17 (
 Q (B true) h2) (
 aw 5 t3 h2 fun t19=>
 C lw [t19] h2 fun t20 h3=>
 an 0 t20 fun t21=>
 an 1 t20 fun t22=>
 C wE [] h3 fun t23 h4=>
 DH .eql t23 (.lit (.pointer none)) fun t25=>
 ifB t25 (
 Q (B false) h4) (
 cb [(I 0)] h4 fun vs5 h next5=>qM t23 t22 t21 a1 a2 Q vs5 h next5)))
theorem Cf (a0 a1 a2:AV) (h:ae) (Q:QT) (k:x8 a0 a1 a2 h Q):C mi [a0,a1,a2] h Q:=
 okF (pl:=[(11,[10,26,27,28,29,30,31,32,33,34,35],[10]),(1000021,[0,1,2,3,4,6,7,8,9,11,5,10,12],[])]) Tryz.func3 Tryz.ntmps3 (by kernel_rfl) (by kernel_rfl) rfl (by kernel_rfl) k
def qu (s5:AV) (h:ae) (Q:QT):Prop:=
 Q s5 h
def DQ (a0 a1:AV) (h:ae) (Q:QT):Prop:=
 ai .rem a0 a1 fun t8=>
 ai .lss t8 (I 0) fun t10=>
 ifB t10 (
 ai .add t8 a1 fun t13=>
 qu t13 h Q) (
 qu t8 h Q)
theorem G6 (a0 a1:AV) (h:ae) (Q:QT) (k:DQ a0 a1 h Q):C lZ [a0,a1] h Q:=
 okF (pl:=[]) Tryz.func10 Tryz.ntmps10 (by kernel_rfl) (by kernel_rfl) rfl (by kernel_rfl) k
def F9 (a0:AV) (h:ae) (Q:QT):Prop:=
 C pJ [a0,(S ⟨#[32]⟩)] h fun t8 h0=>
 an 0 t8 fun t9=>
 an 1 t8 fun t10=>
 an 2 t8 fun t11=>
 df [(S ⟨#[]⟩),(S ⟨#[]⟩),(S ⟨#[]⟩)] h0 fun t3 h1=>
 ak 3 t3 t9 h1 fun h2=>
 ab 2 t3 fun t12=>
 ag t12 h2 fun t13=>
 Q t13 h2
theorem Im (a0:AV) (h:ae) (Q:QT) (k:F9 a0 h Q):C nV [a0] h Q:=
 okF (pl:=[]) Tryz.func72 Tryz.ntmps72 (by kernel_rfl) (by kernel_rfl) rfl (by kernel_rfl) k
def I8 (a0:AV) (h:ae) (Q:QT):Prop:=
 C pJ [a0,(S ⟨#[32]⟩)] h fun t8 h0=>
 an 0 t8 fun t9=>
 an 1 t8 fun t10=>
 an 2 t8 fun t11=>
 df [(S ⟨#[]⟩),(S ⟨#[]⟩),(S ⟨#[]⟩)] h0 fun t3 h1=>
 ak 3 t3 t9 h1 fun h2=>
 ab 0 t3 fun t12=>
 ag t12 h2 fun t13=>
 Q t13 h2
theorem LC (a0:AV) (h:ae) (Q:QT) (k:I8 a0 h Q):C u7 [a0] h Q:=
 okF (pl:=[]) Tryz.func99 Tryz.ntmps99 (by kernel_rfl) (by kernel_rfl) rfl (by kernel_rfl) k
def ref2_find_k1:ByteArray:=⟨#[115,101,95,105,108,108,101,103,97,108,58,48,48,48,48,58,124,115,101,95,105,115,121,110,99,58,48,48,48,49,58,124,115,101,95,115,99,58,48,48,48,50,58,124,115,101,95,98,108,114,58,48,48,48,52,58,124,115,101,95,98,99,116,114,58,48,48,48,54,58,124,115,101,95,110,111,116,58,48,48,50,48,58,88,124,115,101,95,110,101,103,58,48,48,51,48,58,88,124,115,101,95,109,102,108,114,58,48,48,56,48,58,88,124,115,101,95,109,116,108,114,58,48,48,57,48,58,88,124,115,101,95,109,102,99,116,114,58,48,48,97,48,58,88,124,115,101,95,109,116,99,116,114,58,48,48,98,48,58,88,124,115,101,95,101,120,116,122,98,58,48,48,99,48,58,88,124,115,101,95,101,120,116,115,98,58,48,48,100,48,58,88,124,115,101,95,101,120,116,122,104,58,48,48,101,48,58,88,124,115,101,95,101,120,116,115,104,58,48,48,102,48,58,88,124,115,101,95,109,114,58,48,49,48,48,58,88,32,89,124,115,101,95,97,100,100,58,48,52,48,48,58,88,32,89,124,115,101,95,109,117,108,108,119,58,48,53,48,48,58,88,32,89,124,115,101,95,115,117,98,58,48,54,48,48,58,88,32,89,124,115,101,95,99,109,112,58,48,99,48,48,58,88,32,89,124,115,101,95,99,109,112,108,58,48,100,48,48,58,88,32,89,124,115,101,95,97,100,100,105,58,50,48,48,48,58,88,32,79,53,124,115,101,95,99,109,112,108,105,58,50,50,48,48,58,88,32,79,53,124,115,101,95,115,117,98,105,58,50,52,48,48,58,88,32,79,53,124,115,101,95,99,109,112,105,58,50,97,48,48,58,88,32,85,53,124,115,101,95,111,114,58,52,52,48,48,58,88,32,89,124,115,101,95,97,110,100,99,58,52,53,48,48,58,88,32,89,124,115,101,95,97,110,100,58,52,54,48,48,58,88,32,89,124,115,101,95,108,105,58,52,56,48,48,58,88,32,85,55,124,115,101,95,98,99,108,114,105,58,54,48,48,48,58,88,32,85,53,124,115,101,95,98,115,101,116,105,58,54,52,48,48,58,88,32,85,53,124,115,101,95,98,116,115,116,105,58,54,54,48,48,58,88,32,85,53,124,115,101,95,115,114,119,105,58,54,56,48,48,58,88,32,85,53,124,115,101,95,115,108,119,105,58,54,99,48,48,58,88,32,85,53,124,115,101,95,108,98,122,58,56,48,48,48,58,89,32,77,49,32,88,124,115,101,95,115,116,98,58,57,48,48,48,58,89,32,77,49,32,88,124,115,101,95,108,104,122,58,97,48,48,48,58,89,32,77,50,32,88,124,115,101,95,115,116,104,58,98,48,48,48,58,89,32,77,50,32,88,124,115,101,95,108,119,122,58,99,48,48,48,58,89,32,77,52,32,88,124,115,101,95,115,116,119,58,100,48,48,48,58,89,32,77,52,32,88,124,115,101,95,98,99,58,101,48,48,48,58,79,49,32,73,50,32,84,56,124,115,101,95,98,58,101,56,48,48,58,84,56,124,115,101,95,98,108,58,101,57,48,48,58,84,56,124,101,95,97,100,100,49,54,105,58,49,99,48,48,48,48,48,48,58,68,32,65,32,83,49,54,124,101,95,97,100,100,105,58,49,56,48,48,56,48,48,48,58,68,32,65,32,67,56,124,101,95,97,110,100,105,58,49,56,48,48,99,48,48,48,58,65,32,68,32,67,56,124,101,95,111,114,105,58,49,56,48,48,100,48,48,48,58,65,32,68,32,67,56,124,101,95,120,111,114,105,58,49,56,48,48,101,48,48,48,58,65,32,68,32,67,56,124,101,95,108,105,58,55,48,48,48,48,48,48,48,58,68,32,76,50,48,124,101,95,108,98,122,58,51,48,48,48,48,48,48,48,58,68,32,83,49,54,32,65,124,101,95,115,116,98,58,51,52,48,48,48,48,48,48,58,68,32,83,49,54,32,65,124,101,95,108,104,97,58,51,56,48,48,48,48,48,48,58,68,32,83,49,54,32,65,124,101,95,108,119,122,58,53,48,48,48,48,48,48,48,58,68,32,83,49,54,32,65,124,101,95,115,116,119,58,53,52,48,48,48,48,48,48,58,68,32,83,49,54,32,65,124,101,95,108,104,122,58,53,56,48,48,48,48,48,48,58,68,32,83,49,54,32,65,124,101,95,115,116,104,58,53,99,48,48,48,48,48,48,58,68,32,83,49,54,32,65,124,101,95,98,58,55,56,48,48,48,48,48,48,58,84,50,52,124,101,95,98,108,58,55,56,48,48,48,48,48,49,58,84,50,52,124,101,95,98,99,58,55,97,48,48,48,48,48,48,58,79,50,32,73,52,32,84,49,53,124,101,95,98,99,108,58,55,97,48,48,48,48,48,49,58,79,50,32,73,52,32,84,49,53,124,97,100,100,58,55,99,48,48,48,50,49,52,58,68,32,65,32,66,124,115,117,98,102,58,55,99,48,48,48,48,53,48,58,68,32,65,32,66,124,109,117,108,108,119,58,55,99,48,48,48,49,100,54,58,68,32,65,32,66,124,97,110,100,58,55,99,48,48,48,48,51,56,58,65,32,68,32,66,124,111,114,58,55,99,48,48,48,51,55,56,58,65,32,68,32,66,124,120,111,114,58,55,99,48,48,48,50,55,56,58,65,32,68,32,66,124]⟩
def pK (s5 s6 s7 s8 s10 s11:AV) (h:ae) (next2:NT):Prop:=
 ai .add s11 (I 1) fun t15=>
 next2 [s5,s6,s7,s8,s10,t15] h
def jX (s5 s6 s7 s8 s10 s11:AV) (h:ae) (next2:NT):Prop:=
 pK s5 s6 s7 s8 s10 s11 h next2
def pH (s9:AV) (h5:ae) (s4:AV) (Q:QT) (vs2:List AV):Prop:=
 cd 3 1 s9 (I 0) fun t45=>
 ag t45 h5 fun t46=>
 cd 3 1 s9 (I 1) fun t47=>
 ag t47 h5 fun t48=>
 cd 3 1 s9 (I 2) fun t49=>
 ag t49 h5 fun t50=>
 ax [(S ⟨#[]⟩),(S ⟨#[]⟩),(S ⟨#[]⟩)] [(0,1,t46),(1,1,t48),(2,1,t50)] fun t51=>
 ak 3 s4 t51 h5 fun h6=>
 aw 3 s4 h6 fun r7=>
 Q (.tup [r7,(ap vs2 2),(B true)]) h6
def pV (vs2:List AV) (s9:AV) (h:ae) (s0 s4:AV) (Q:QT) (s1:AV) (next2:NT):Prop:=
 bm (S ref2_find_k1) (some (ap vs2 3)) (some (ap vs2 5)) fun t27=>
 cd 3 1 s9 (ap vs2 4) fun t28=>
 ak 1 t28 t27 h fun h5=>
 ai .add (ap vs2 5) (I 1) fun t30=>
 ai .add (ap vs2 4) (I 1) fun t32=>
 bj (S ref2_find_k1) (ap vs2 5) fun t34=>
 ai .eql t34 (.lit (.int .u8 124)) fun t35=>
 ifB t35 (
 ai .eql (ap vs2 2) s0 fun t38=>
 ifB t38 (pH s9 h5 s4 Q vs2) (
 cd 3 1 s9 (I 0) fun t40=>
 ag t40 h5 fun t41=>
 ai .eql t41 s1 fun t43=>
 ifB t43 (
 pH s9 h5 s4 Q vs2) (
 ai .add (ap vs2 2) (I 1) fun t54=>
 jX (ap vs2 0) (ap vs2 1) t54 t30 (I 0) (ap vs2 5) h5 next2))) (
 jX (ap vs2 0) (ap vs2 1) (ap vs2 2) t30 t32 (ap vs2 5) h5 next2)
def kY (s9 s4 s0 s1:AV) (Q:QT) (vs2:List AV) (h:ae) (next2:NT):Prop:=
 ai .lss (ap vs2 5) (I 1212) fun t13=>
 ifB t13 (
 bj (S ref2_find_k1) (ap vs2 5) fun t17=>
 ai .neq t17 (.lit (.int .u8 58)) fun t18=>
 ifB t18 (bj (S ref2_find_k1) (ap vs2 5) fun t21=>
 ai .neq t21 (.lit (.int .u8 124)) fun t22=>
 ifB t22 (
 jX (ap vs2 0) (ap vs2 1) (ap vs2 2) (ap vs2 3) (ap vs2 4) (ap vs2 5) h next2) (
 pV vs2 s9 h s0 s4 Q s1 next2)) (
 pV vs2 s9 h s0 s4 Q s1 next2)) (
 ax [(S ⟨#[]⟩),(S ⟨#[]⟩),(S ⟨#[]⟩)] [] fun t55=>
 ak 3 s4 t55 h fun h15=>
 aw 3 s4 h15 fun r16=>
 Q (.tup [r16,(I 0),(B false)]) h15)
def J2 (a0 a1:AV) (h:ae) (Q:QT):Prop:=
 df [(S ⟨#[]⟩),(S ⟨#[]⟩),(S ⟨#[]⟩)] h fun t4 h0=>
 df [(S ⟨#[]⟩),(S ⟨#[]⟩),(S ⟨#[]⟩)] h0 fun t9 h1=>
 cb [(I 0),(B false),(I 0),(I 0),(I 0),(I 0)] h1 fun vs2 h next2=>kY t9 t4 a0 a1 Q vs2 h next2
theorem MC (a0 a1:AV) (h:ae) (Q:QT) (k:J2 a0 a1 h Q):C pJ [a0,a1] h Q:=
 okF (pl:=[(6,[5,6,7,8,10,11,12,13,14,15,16,17,18,19,20,21,22,23,24,25,26,27,28,29,30,31,32,33,34,35,36,37,38,39,40,41,42,43,44,45,46,47,48,49,50,51,52,53,54],[5,6,7,8,10,11])]) Tryz.func102 Tryz.ntmps102 (by kernel_rfl) (by kernel_rfl) rfl (by kernel_rfl) k
def xx (a0:AV) (h:ae) (Q:QT):Prop:=
 ai .lss a0 (I 0) fun t4=>
 ifB t4 (
 ai .sub (I 0) a0 fun t6=>
 C dy [t6] h fun t7 h0=>
 ai .add (S ⟨#[45]⟩) t7 fun t8=>
 Q t8 h0) (
 ai .geq a0 (I 10) fun t10=>
 ifB t10 (
 ai .quo a0 (I 10) fun t12=>
 C dy [t12] h fun t13 h1=>
 ai .rem a0 (I 10) fun t15=>
 C dy [t15] h1 fun t16 h2=>
 ai .add t13 t16 fun t17=>
 Q t17 h2) (
 ai .add (I 48) a0 fun t19=>
 ci .u8 t19 fun t20=>
 ao 1 1 [t20] fun t21=>
 qi t21 h fun t22=>
 Q t22 h))
theorem xj (a0:AV) (h:ae) (Q:QT) (k:xx a0 h Q):C dy [a0] h Q:=
 okF (pl:=[]) Tryz.func69 Tryz.ntmps69 (by kernel_rfl) (by kernel_rfl) rfl (by kernel_rfl) k
def zv (t2:AV) (h5:ae) (Q:QT):Prop:=
 ax [(I 0),(I 0),(S ⟨#[]⟩),(.full 0 [])] [] fun t26=>
 ak 4 t2 t26 h5 fun h6=>
 aw 4 t2 h6 fun r7=>
 Q (.tup [r7,(B false)]) h6
def Hs (a0:AV) (h:ae) (Q:QT):Prop:=
 df [(I 0),(I 0),(S ⟨#[]⟩),(.full 0 [])] h fun t2 h0=>
 ax [(S ⟨#[]⟩),(I 0),(I 0),(B false)] [(0,1,a0)] fun t7=>
 gk t7 h0 fun t8 h1=>
 C cB [t8,(I 0)] h1 fun t10 h2=>
 df [(I 0),(I 0),(S ⟨#[]⟩),(.full 0 [])] h2 fun t5 h3=>
 ak 4 t5 t10 h3 fun h4=>
 C gp [t8] h4 fun t12 h5=>
 aE t8 fun t14=>
 ab 3 t14 fun t15=>
 ag t15 h5 fun t16=>
 ifB t16 (zv t2 h5 Q) (
 aE t8 fun t19=>
 ab 1 t19 fun t20=>
 ag t20 h5 fun t21=>
 bH a0 fun t23=>
 ai .lss t21 t23 fun t24=>
 ifB t24 (
 zv t2 h5 Q) (
 aw 4 t5 h5 fun t27=>
 ak 4 t2 t27 h5 fun h10=>
 aw 4 t2 h10 fun r11=>
 Q (.tup [r11,(B true)]) h10))
theorem It (a0:AV) (h:ae) (Q:QT) (k:Hs a0 h Q):C sM [a0] h Q:=
 okF (pl:=[]) Tryz.func105 Tryz.ntmps105 (by kernel_rfl) (by kernel_rfl) rfl (by kernel_rfl) k
def I5 (a0:AV) (h:ae) (Q:QT):Prop:=
 gk a0 h fun t1 h0=>
 ab 0 t1 fun t5=>
 ag t5 h0 fun t6=>
 ai .eql t6 (I 1) fun t8=>
 ifB t8 (
 ab 1 t1 fun t9=>
 ag t9 h0 fun t10=>
 C dy [t10] h0 fun t11 h1=>
 Q t11 h1) (
 ai .eql t6 (I 2) fun t13=>
 ifB t13 (
 ab 2 t1 fun t14=>
 ag t14 h0 fun t15=>
 Q t15 h0) (
 ai .eql t6 (I 3) fun t17=>
 ifB t17 (
 Q (S ⟨#[46]⟩) h0) (
 ai .eql t6 (I 4) fun t19=>
 ifB t19 (
 ab 3 t1 fun t20=>
 ag t20 h0 fun t21=>
 am 4 t21 (I 0) fun t22=>
 aw 4 t22 h0 fun t23=>
 C dx [t23] h0 fun t24 h2=>
 ai .add (S ⟨#[45]⟩) t24 fun t25=>
 Q t25 h2) (
 ab 0 t1 fun t27=>
 ag t27 h0 fun t28=>
 C pZ [t28] h0 fun t29 h3=>
 an 0 t29 fun t30=>
 an 1 t29 fun t31=>
 ab 3 t1 fun t32=>
 ag t32 h3 fun t33=>
 am 4 t33 (I 0) fun t34=>
 aw 4 t34 h3 fun t35=>
 ab 3 t1 fun t41=>
 ag t41 h3 fun t42=>
 am 4 t42 (I 1) fun t43=>
 aw 4 t43 h3 fun t44=>
 C dx [t35] h3 fun t36 h4=>
 (aw 4 t43 h4 fun _t=>
 _t=t44)∧
 (ag t41 h4 fun _t=>
 _t=t42)∧
 ai .add t36 (S ⟨#[32]⟩) fun t37=>
 ai .add t37 t30 fun t39=>
 ai .add t39 (S ⟨#[32]⟩) fun t40=>
 C dx [t44] h4 fun t45 h5=>
 ai .add t40 t45 fun t46=>
 Q t46 h5))))
theorem LS (a0:AV) (h:ae) (Q:QT) (k:I5 a0 h Q):C mK [a0] h Q:=
 okF (pl:=[(1000011,[0,1,2,3,6,9,10,11,12,4,5,7,8,13,14,15],[])]) Tryz.func70 Tryz.ntmps70 (by kernel_rfl) (by kernel_rfl) rfl (by kernel_rfl) k
def pS (s3 s2 s4:AV) (h:ae) (next0:NT):Prop:=
 ai .add s4 (I 1) fun t28=>
 next0 [s2,s3,t28] h
def im (s3 s2 s4:AV) (h:ae) (next0:NT):Prop:=
 pS s3 s2 s4 h next0
def uN (t61:AV) (vs0:List AV) (h:ae) (next0:NT):Prop:=
 ifB t61 (
 im (B false) (ap vs0 0) (ap vs0 2) h next0) (
 im (ap vs0 1) (ap vs0 0) (ap vs0 2) h next0)
def qa (vs0:List AV) (h:ae) (next0:NT):Prop:=
 ai .gtr (ap vs0 2) (I 0) fun t58=>
 ifB t58 (qUn .not (B false) fun t61=>
 uN t61 vs0 h next0) (
 im (ap vs0 1) (ap vs0 0) (ap vs0 2) h next0)
def jR (vs0:List AV) (t36:AV) (h:ae) (next0:NT):Prop:=
 ai .gtr (ap vs0 2) (I 0) fun t58=>
 ifB t58 (qUn .not t36 fun t61=>
 uN t61 vs0 h next0) (
 im (ap vs0 1) (ap vs0 0) (ap vs0 2) h next0)
def mr (t44 t31:AV) (vs0:List AV) (Q:QT) (h:ae) (t36:AV) (next0:NT):Prop:=
 ifB t44 (ai .neq t31 (.lit (.int .u8 95)) fun t47=>
 ifB t47 (ai .eql (ap vs0 2) (I 0) fun t51=>
 ifT t51 (Q (B false) h) (
 qUn .not t36 fun t54=>
 ifB t54 (
 Q (B false) h) (
 jR vs0 t36 h next0)) (
 ifB (.tup []) (Q (B false) h) (ifB (.tup []) (
 Q (B false) h) (
 jR vs0 t36 h next0)))) (
 jR vs0 t36 h next0)) (
 jR vs0 t36 h next0)
def B7 (t44 t31:AV) (vs0:List AV) (Q:QT) (h:ae) (next0:NT):Prop:=
 ifB t44 (ai .neq t31 (.lit (.int .u8 95)) fun t47=>
 ifB t47 (ai .eql (ap vs0 2) (I 0) fun t51=>
 ifT t51 (Q (B false) h) (
 qUn .not (B false) fun t54=>
 ifB t54 (
 Q (B false) h) (
 qa vs0 h next0)) (
 ifB (.tup []) (Q (B false) h) (ifB (.tup []) (
 Q (B false) h) (
 qa vs0 h next0)))) (
 qa vs0 h next0)) (
 qa vs0 h next0)
def ix (s0:AV) (Q:QT) (vs0:List AV) (h:ae) (next0:NT):Prop:=
 bH s0 fun t25=>
 ai .lss (ap vs0 2) t25 fun t26=>
 ifB t26 (
 bj s0 (ap vs0 2) fun t31=>
 ai .geq t31 (.lit (.int .u8 48)) fun t33=>
 ifB t33 (ai .leq t31 (.lit (.int .u8 57)) fun t36=>
 ai .geq t31 (.lit (.int .u8 97)) fun t39=>
 ifB t39 (ai .leq t31 (.lit (.int .u8 122)) fun t42=>
 qUn .not t42 fun t44=>
 mr t44 t31 vs0 Q h t36 next0) (
 qUn .not (B false) fun t44=>
 mr t44 t31 vs0 Q h t36 next0)) (
 ai .geq t31 (.lit (.int .u8 97)) fun t39=>
 ifB t39 (ai .leq t31 (.lit (.int .u8 122)) fun t42=>
 qUn .not t42 fun t44=>
 B7 t44 t31 vs0 Q h next0) (
 qUn .not (B false) fun t44=>
 B7 t44 t31 vs0 Q h next0))) (
 qUn .not (ap vs0 1) fun t64=>
 Q t64 h)
def I6 (a0:AV) (h:ae) (Q:QT):Prop:=
 bH a0 fun t8=>
 ai .lss t8 (I 1) fun t9=>
 ifB t9 (Q (B false) h) (
 bH a0 fun t12=>
 ai .gtr t12 (I 12) fun t13=>
 ifB t13 (
 Q (B false) h) (
 bj a0 (I 0) fun t16=>
 ai .eql t16 (.lit (.int .u8 114)) fun t17=>
 ifB t17 (bH a0 fun t20=>
 ai .gtr t20 (I 1) fun t21=>
 cb [(B false),t21,(I 0)] h fun vs0 h next0=>ix a0 Q vs0 h next0) (
 cb [(B false),(B false),(I 0)] h fun vs4 h next4=>ix a0 Q vs4 h next4)))
theorem Mg (a0:AV) (h:ae) (Q:QT) (k:I6 a0 h Q):C lU [a0] h Q:=
 okF (pl:=[(6,[2,3,4,5,6,23,24,25,26,27,28,29,30,31,32,33,34,35,36,37,38,39,40,41,42,43,44,45,46,47,48,49,50,51,52,53,54,55,56,57,58,59,60,61,62],[2,3,4])]) Tryz.func249 Tryz.ntmps249 (by kernel_rfl) (by kernel_rfl) rfl (by kernel_rfl) k
def xK (a0:AV) (h:ae) (Q:QT):Prop:=
 gk a0 h fun t1 h0=>
 ab 3 t1 fun t3=>
 ag t3 h0 fun t4=>
 aY t4 fun t5=>
 ai .eql t5 (I 2) fun t6=>
 ifB t6 (
 aw 4 t1 h0 fun t7=>
 C mK [t7] h0 fun t8 h1=>
 ai .add (S ⟨#[40]⟩) t8 fun t9=>
 ai .add t9 (S ⟨#[41]⟩) fun t10=>
 Q t10 h1) (
 aw 4 t1 h0 fun t11=>
 C mK [t11] h0 fun t12 h2=>
 Q t12 h2)
theorem Cg (a0:AV) (h:ae) (Q:QT) (k:xK a0 h Q):C dx [a0] h Q:=
 okF (pl:=[]) Tryz.func100 Tryz.ntmps100 (by kernel_rfl) (by kernel_rfl) rfl (by kernel_rfl) k
def yZ (a1 a0:AV) (Q:QT) (h:ae):Prop:=
 ai .eql a1 (I 16) fun t17=>
 ifB t17 (ai .geq a0 (.lit (.int .u8 97)) fun t20=>
 ifB t20 (ai .leq a0 (.lit (.int .u8 102)) fun t24=>
 ifB t24 (
 ai .sub a0 (.lit (.int .u8 97)) fun t27=>
 ci .i64 t27 fun t28=>
 ai .add t28 (I 10) fun t29=>
 Q t29 h) (
 Q (I (-1)) h)) (
 Q (I (-1)) h)) (
 Q (I (-1)) h)
def Hk (a0 a1:AV) (h:ae) (Q:QT):Prop:=
 ai .geq a0 (.lit (.int .u8 48)) fun t7=>
 ifB t7 (ai .leq a0 (.lit (.int .u8 57)) fun t10=>
 ifB t10 (
 ai .sub a0 (.lit (.int .u8 48)) fun t13=>
 ci .i64 t13 fun t14=>
 Q t14 h) (
 yZ a1 a0 Q h)) (
 yZ a1 a0 Q h)
theorem IE (a0 a1:AV) (h:ae) (Q:QT) (k:Hk a0 a1 h Q):C kK [a0,a1] h Q:=
 okF (pl:=[]) Tryz.func229 Tryz.ntmps229 (by kernel_rfl) (by kernel_rfl) rfl (by kernel_rfl) k
def dS (s5 s4 s0:AV) (h:ae) (Q:QT):Prop:=
 aE s0 fun t36=>
 ab 2 t36 fun t37=>
 ag t37 h fun t38=>
 ai .sub t38 (I 1) fun t39=>
 aE s0 fun t40=>
 ab 2 t40 fun t41=>
 ak 1 t41 t39 h fun h10=>
 aw 4 s5 h10 fun t42=>
 ak 4 s4 t42 h10 fun h11=>
 aw 4 s4 h11 fun r12=>
 Q r12 h11
def iL (a0 a1:AV) (h:ae) (Q:QT):Prop:=
 df [(I 0),(I 0),(S ⟨#[]⟩),(.full 0 [])] h fun t4 h0=>
 aE a0 fun t7=>
 ab 2 t7 fun t8=>
 ag t8 h0 fun t9=>
 ai .geq t9 (I 12) fun t10=>
 ifB t10 (
 aE a0 fun t12=>
 ab 3 t12 fun t13=>
 ak 1 t13 (B true) h0 fun h1=>
 ax [(I 0),(I 0),(S ⟨#[]⟩),(.full 0 [])] [] fun t14=>
 ak 4 t4 t14 h1 fun h2=>
 aw 4 t4 h2 fun r3=>
 Q r3 h2) (
 aE a0 fun t16=>
 ab 2 t16 fun t17=>
 ag t17 h0 fun t18=>
 ai .add t18 (I 1) fun t19=>
 aE a0 fun t20=>
 ab 2 t20 fun t21=>
 ak 1 t21 t19 h0 fun h4=>
 df [(I 0),(I 0),(S ⟨#[]⟩),(.full 0 [])] h4 fun t5 h5=>
 ifB a1 (
 C cB [a0,(I 0)] h5 fun t24 h6=>
 ak 4 t5 t24 h6 fun h7=>
 C cS [a0,(S ⟨#[41]⟩)] h7 fun t26 h8=>
 qUn .not t26 fun t27=>
 ifB t27 (
 aE a0 fun t29=>
 ab 3 t29 fun t30=>
 ak 1 t30 (B true) h8 fun h9=>
 dS t5 t4 a0 h9 Q) (
 dS t5 t4 a0 h8 Q)) (
 C c6 [a0] h5 fun t32 h14=>
 ao 1 4 [t32] fun t33=>
 ax [(I 0),(I 0),(S ⟨#[]⟩),(.full 0 [])] [(0,1,(I 4)),(3,1,t33)] fun t34=>
 ak 4 t5 t34 h14 fun h15=>
 dS t5 t4 a0 h15 Q))
theorem jC (a0 a1:AV) (h:ae) (Q:QT) (k:iL a0 a1 h Q):C cf [a0,a1] h Q:=
 okF (pl:=[]) Tryz.func227 Tryz.ntmps227 (by kernel_rfl) (by kernel_rfl) rfl (by kernel_rfl) k
def xN (a0 a1:AV) (h:ae) (Q:QT):Prop:=
 C gp [a0] h fun t6 h0=>
 aE a0 fun t8=>
 ab 1 t8 fun t9=>
 ag t9 h0 fun t10=>
 bH a1 fun t12=>
 ai .add t10 t12 fun t13=>
 aE a0 fun t15=>
 ab 0 t15 fun t16=>
 ag t16 h0 fun t17=>
 bH t17 fun t18=>
 ai .gtr t13 t18 fun t19=>
 ifB t19 (Q (B false) h0) (
 aE a0 fun t22=>
 ab 0 t22 fun t23=>
 ag t23 h0 fun t24=>
 aE a0 fun t26=>
 ab 1 t26 fun t27=>
 ag t27 h0 fun t28=>
 aE a0 fun t30=>
 ab 1 t30 fun t31=>
 ag t31 h0 fun t32=>
 bH a1 fun t34=>
 ai .add t32 t34 fun t35=>
 bm t24 (some t28) (some t35) fun t36=>
 ai .neq t36 a1 fun t38=>
 ifB t38 (
 Q (B false) h0) (
 aE a0 fun t42=>
 ab 1 t42 fun t43=>
 ag t43 h0 fun t44=>
 bH a1 fun t46=>
 ai .add t44 t46 fun t47=>
 aE a0 fun t48=>
 ab 1 t48 fun t49=>
 ak 1 t49 t47 h0 fun h1=>
 Q (B true) h1))
theorem Bg (a0 a1:AV) (h:ae) (Q:QT) (k:xN a0 a1 h Q):C cS [a0,a1] h Q:=
 okF (pl:=[(1000002,[0,1,2,3,4,5,6,7,8,9,10,11,12,13,14,15,16,17,18,19,20,21,22,23,24,25,26,27,28,29,30,31,32],[])]) Tryz.func226 Tryz.ntmps226 (by kernel_rfl) (by kernel_rfl) rfl (by kernel_rfl) k
def kD (s0 s1:AV) (Q:QT) (vs0:List AV) (h:ae) (next0:NT):Prop:=
 ai .leq (ap vs0 1) (I 11) fun t9=>
 ifB t9 (
 C pZ [(ap vs0 1)] h fun t14 h1=>
 an 0 t14 fun t15=>
 an 1 t14 fun t16=>
 ai .eql t16 s1 fun t19=>
 ifB t19 (aE s0 fun t22=>
 ab 3 t22 fun t23=>
 ag t23 h1 fun t24=>
 qUn .not t24 fun t25=>
 ifB t25 (C cS [s0,t15] h1 fun t30 h2=>
 ifB t30 (
 Q (ap vs0 1) h2) (
 ai .add (ap vs0 1) (I 1) fun t11=>
 next0 [(ap vs0 0),t11] h2)) (
 ai .add (ap vs0 1) (I 1) fun t11=>
 next0 [(ap vs0 0),t11] h1)) (
 ai .add (ap vs0 1) (I 1) fun t11=>
 next0 [(ap vs0 0),t11] h1)) (
 Q (I 0) h)
def nQ (a0 a1:AV) (h:ae) (Q:QT):Prop:=
 cb [(I 0),(I 5)] h fun vs0 h next0=>kD a0 a1 Q vs0 h next0
theorem pr (a0 a1:AV) (h:ae) (Q:QT) (k:nQ a0 a1 h Q):C gz [a0,a1] h Q:=
 okF (pl:=[(3,[4,5,6,7,8,9,10,11,12,13,14,15,16,17,18,19,20,21,22,23,24,25,26,27,28,29,30,31,32],[4,5])]) Tryz.func187 Tryz.ntmps187 (by kernel_rfl) (by kernel_rfl) rfl (by kernel_rfl) k
def eI (s5 s4:AV) (h:ae) (Q:QT):Prop:=
 ax [(I 0),(I 0),(S ⟨#[]⟩),(.full 0 [])] [(0,1,(I 1)),(1,1,s5)] fun t73=>
 ak 4 s4 t73 h fun h9=>
 aw 4 s4 h9 fun r10=>
 Q r10 h9
def fj (s0:AV) (h2:ae) (s6:AV) (vs1:List AV) (s4:AV) (Q:QT):Prop:=
 aE s0 fun t65=>
 ab 1 t65 fun t66=>
 ag t66 h2 fun t67=>
 ai .eql s6 t67 fun t68=>
 ifB t68 (
 aE s0 fun t70=>
 ab 3 t70 fun t71=>
 ak 1 t71 (B true) h2 fun h8=>
 eI (ap vs1 0) s4 h8 Q) (
 eI (ap vs1 0) s4 h2 Q)
def mB (s6 s4 s0 s1:AV) (Q:QT) (vs1:List AV) (h:ae) (next1:NT):Prop:=
 aE s0 fun t12=>
 ab 1 t12 fun t13=>
 ag t13 h fun t14=>
 aE s0 fun t16=>
 ab 0 t16 fun t17=>
 ag t17 h fun t18=>
 bH t18 fun t19=>
 ai .lss t14 t19 fun t20=>
 ifB t20 (aE s0 fun t23=>
 ab 0 t23 fun t24=>
 ag t24 h fun t25=>
 aE s0 fun t27=>
 ab 1 t27 fun t28=>
 ag t28 h fun t29=>
 bj t25 t29 fun t30=>
 C kK [t30,s1] h fun t32 h2=>
 ai .geq t32 (I 0) fun t33=>
 ifB t33 (
 ai .mul s1 (ap vs1 0) fun t37=>
 aE s0 fun t39=>
 ab 0 t39 fun t40=>
 ag t40 h2 fun t41=>
 aE s0 fun t43=>
 ab 1 t43 fun t44=>
 ag t44 h2 fun t45=>
 bj t41 t45 fun t46=>
 C kK [t46,s1] h2 fun t48 h3=>
 ai .add t37 t48 fun t49=>
 aE s0 fun t51=>
 ab 1 t51 fun t52=>
 ag t52 h3 fun t53=>
 ai .add t53 (I 1) fun t54=>
 aE s0 fun t55=>
 ab 1 t55 fun t56=>
 ak 1 t56 t54 h3 fun h4=>
 ai .geq t49 (I 4294967296) fun t58=>
 ifB t58 (
 aE s0 fun t60=>
 ab 3 t60 fun t61=>
 ak 1 t61 (B true) h4 fun h5=>
 ax [(I 0),(I 0),(S ⟨#[]⟩),(.full 0 [])] [] fun t62=>
 ak 4 s4 t62 h5 fun h6=>
 aw 4 s4 h6 fun r7=>
 Q r7 h6) (
 next1 [t49] h4)) (
 fj s0 h2 s6 vs1 s4 Q)) (
 fj s0 h s6 vs1 s4 Q)
def qK (a0 a1:AV) (h:ae) (Q:QT):Prop:=
 df [(I 0),(I 0),(S ⟨#[]⟩),(.full 0 [])] h fun t4 h0=>
 aE a0 fun t8=>
 ab 1 t8 fun t9=>
 ag t9 h0 fun t10=>
 cb [(I 0)] h0 fun vs1 h next1=>mB t10 t4 a0 a1 Q vs1 h next1
theorem vW (a0 a1:AV) (h:ae) (Q:QT) (k:qK a0 a1 h Q):C fl [a0,a1] h Q:=
 okF (pl:=[(1000001,[0,1,2,3,4,5],[]),(3,[5,11,12,13,14,15,16,17,18,19,20,21,22,23,24,25,26,27,28,29,30,31,32,33,34,35,36,37,38,39,40,41,42,43,44,45,46,47,48,49,50,51,52,53,54,55,56,57,58,59,60,61,62],[5]),(1000002,[0,1,2,3,4,5,6,7,8,9,10,11,12,13,14,15,16,17,18,19,20,21,22,23],[]),(1000003,[0,1,2,3,4,5,6,7,8,9,10,11,12,13,14,15],[])]) Tryz.func228 Tryz.ntmps228 (by kernel_rfl) (by kernel_rfl) rfl (by kernel_rfl) k
def vK (a0:AV) (h:ae) (Q:QT):Prop:=
 df [(I 0),(I 0),(S ⟨#[]⟩),(.full 0 [])] h fun t2 h0=>
 aE a0 fun t4=>
 ab 3 t4 fun t5=>
 ag t5 h0 fun t6=>
 ifB t6 (
 ax [(I 0),(I 0),(S ⟨#[]⟩),(.full 0 [])] [] fun t7=>
 ak 4 t2 t7 h0 fun h1=>
 aw 4 t2 h1 fun r2=>
 Q r2 h1) (
 C cS [a0,(S ⟨#[40]⟩)] h0 fun t10 h3=>
 ifB t10 (
 C cf [a0,(B true)] h3 fun t12 h4=>
 ak 4 t2 t12 h4 fun h5=>
 aw 4 t2 h5 fun r6=>
 Q r6 h5) (
 C cS [a0,(S ⟨#[45]⟩)] h3 fun t15 h7=>
 ifB t15 (
 C cf [a0,(B false)] h7 fun t17 h8=>
 ak 4 t2 t17 h8 fun h9=>
 aw 4 t2 h9 fun r10=>
 Q r10 h9) (
 C cS [a0,(S ⟨#[46]⟩)] h7 fun t20 h11=>
 ifB t20 (
 ax [(I 0),(I 0),(S ⟨#[]⟩),(.full 0 [])] [(0,1,(I 3))] fun t21=>
 ak 4 t2 t21 h11 fun h12=>
 aw 4 t2 h12 fun r13=>
 Q r13 h12) (
 C cS [a0,(S ⟨#[48,120]⟩)] h11 fun t24 h14=>
 ifB t24 (
 C fl [a0,(I 16)] h14 fun t26 h15=>
 ak 4 t2 t26 h15 fun h16=>
 aw 4 t2 h16 fun r17=>
 Q r17 h16) (
 aE a0 fun t29=>
 ab 1 t29 fun t30=>
 ag t30 h14 fun t31=>
 aE a0 fun t33=>
 ab 0 t33 fun t34=>
 ag t34 h14 fun t35=>
 bH t35 fun t36=>
 ai .lss t31 t36 fun t37=>
 ifB t37 (aE a0 fun t40=>
 ab 0 t40 fun t41=>
 ag t41 h14 fun t42=>
 aE a0 fun t44=>
 ab 1 t44 fun t45=>
 ag t45 h14 fun t46=>
 bj t42 t46 fun t47=>
 C kK [t47,(I 10)] h14 fun t48 h18=>
 ai .geq t48 (I 0) fun t49=>
 ifB t49 (
 C fl [a0,(I 10)] h18 fun t52 h19=>
 ak 4 t2 t52 h19 fun h20=>
 aw 4 t2 h20 fun r21=>
 Q r21 h20) (
 C gA [a0] h18 fun t54 h22=>
 ak 4 t2 t54 h22 fun h23=>
 aw 4 t2 h23 fun r24=>
 Q r24 h23)) (
 C gA [a0] h14 fun t54 h25=>
 ak 4 t2 t54 h25 fun h26=>
 aw 4 t2 h26 fun r27=>
 Q r27 h26))))))
theorem An (a0:AV) (h:ae) (Q:QT) (k:vK a0 h Q):C c6 [a0] h Q:=
 okF (pl:=[(1000011,[0,1,2,3,4,5,6,7,8,9,10,11,12,13,14,15,16,17,18,19,20,21,22,23],[])]) Tryz.func186 Tryz.ntmps186 (by kernel_rfl) (by kernel_rfl) rfl (by kernel_rfl) k
def pg (s0:AV) (Q:QT) (h:ae) (next0:NT):Prop:=
 aE s0 fun t3=>
 ab 1 t3 fun t4=>
 ag t4 h fun t5=>
 aE s0 fun t7=>
 ab 0 t7 fun t8=>
 ag t8 h fun t9=>
 bH t9 fun t10=>
 ai .lss t5 t10 fun t11=>
 ifB t11 (aE s0 fun t14=>
 ab 0 t14 fun t15=>
 ag t15 h fun t16=>
 aE s0 fun t18=>
 ab 1 t18 fun t19=>
 ag t19 h fun t20=>
 bj t16 t20 fun t21=>
 ai .eql t21 (.lit (.int .u8 32)) fun t22=>
 ifB t22 (
 aE s0 fun t25=>
 ab 1 t25 fun t26=>
 ag t26 h fun t27=>
 ai .add t27 (I 1) fun t28=>
 aE s0 fun t29=>
 ab 1 t29 fun t30=>
 ak 1 t30 t28 h fun h1=>
 next0 [] h1) (
 Q (.tup []) h)) (
 Q (.tup []) h)
def uj (a0:AV) (h:ae) (Q:QT):Prop:=
 cb [] h fun _ h next0=>pg a0 Q h next0
theorem yN (a0:AV) (h:ae) (Q:QT) (k:uj a0 h Q):C gp [a0] h Q:=
 okF (pl:=[(1,[2,3,4,5,6,7,8,9,10,11,12,13,14,15,16,17,18,19,20,21,22,23,24,25,26,27,28,29,30],[]),(1000000,[0,1,2,3,4,5,6,7,8,9,10,11,12,13,14,15,16,17,18,19,20,21],[])]) Tryz.func133 Tryz.ntmps133 (by kernel_rfl) (by kernel_rfl) rfl (by kernel_rfl) k
def ko (s5 s4 s0 s1:AV) (Q:QT) (h:ae) (next7:NT):Prop:=
 C gz [s0,s1] h fun t17 h8=>
 ai .eql t17 (I 0) fun t19=>
 ifB t19 (
 aw 4 s5 h8 fun t20=>
 ak 4 s4 t20 h8 fun h9=>
 aw 4 s4 h9 fun r10=>
 Q r10 h9) (
 aw 4 s5 h8 fun t22=>
 ai .add s1 (I 1) fun t25=>
 C cB [s0,t25] h8 fun t26 h11=>
 (aw 4 s5 h11 fun _t=>
 _t=t22)∧
 ao 2 4 [t22,t26] fun t27=>
 ax [(I 0),(I 0),(S ⟨#[]⟩),(.full 0 [])] [(0,1,t17),(3,1,t27)] fun t28=>
 ak 4 s5 t28 h11 fun h12=>
 next7 [] h12)
def oW (a0 a1:AV) (h:ae) (Q:QT):Prop:=
 df [(I 0),(I 0),(S ⟨#[]⟩),(.full 0 [])] h fun t4 h0=>
 ai .gtr a1 (I 4) fun t8=>
 ifB t8 (
 C c6 [a0] h0 fun t10 h1=>
 ak 4 t4 t10 h1 fun h2=>
 aw 4 t4 h2 fun r3=>
 Q r3 h2) (
 ai .add a1 (I 1) fun t13=>
 C cB [a0,t13] h0 fun t14 h4=>
 df [(I 0),(I 0),(S ⟨#[]⟩),(.full 0 [])] h4 fun t5 h5=>
 ak 4 t5 t14 h5 fun h6=>
 cb [] h6 fun _ h next7=>ko t5 t4 a0 a1 Q h next7)
theorem qJ (a0 a1:AV) (h:ae) (Q:QT) (k:oW a0 a1 h Q):C cB [a0,a1] h Q:=
 okF (pl:=[(5,[6,15,16,17,18,19,20,21,22,23,24,25,26,27,28],[]),(1000007,[0,1,2,3,4,5,6,7,8],[])]) Tryz.func132 Tryz.ntmps132 (by kernel_rfl) (by kernel_rfl) rfl (by kernel_rfl) k
def cn (s3 s2 s0:AV) (h:ae) (Q:QT):Prop:=
 aE s0 fun t101=>
 ab 0 t101 fun t102=>
 ag t102 h fun t103=>
 aE s0 fun t106=>
 ab 1 t106 fun t107=>
 ag t107 h fun t108=>
 bm t103 (some s3) (some t108) fun t109=>
 ax [(I 0),(I 0),(S ⟨#[]⟩),(.full 0 [])] [(0,1,(I 2)),(2,1,t109)] fun t110=>
 ak 4 s2 t110 h fun h7=>
 aw 4 s2 h7 fun r8=>
 Q r8 h7
def eB (s0:AV) (h:ae) (next1:NT) (s3 s2:AV) (Q:QT):Prop:=
 aE s0 fun t67=>
 ab 0 t67 fun t68=>
 ag t68 h fun t69=>
 aE s0 fun t71=>
 ab 1 t71 fun t72=>
 ag t72 h fun t73=>
 bj t69 t73 fun t74=>
 ai .eql t74 (.lit (.int .u8 95)) fun t75=>
 ifB t75 (
 aE s0 fun t79=>
 ab 1 t79 fun t80=>
 ag t80 h fun t81=>
 ai .add t81 (I 1) fun t82=>
 aE s0 fun t83=>
 ab 1 t83 fun t84=>
 ak 1 t84 t82 h fun h4=>
 next1 [] h4) (
 aE s0 fun t86=>
 ab 0 t86 fun t87=>
 ag t87 h fun t88=>
 aE s0 fun t91=>
 ab 1 t91 fun t92=>
 ag t92 h fun t93=>
 bm t88 (some s3) (some t93) fun t94=>
 C lU [t94] h fun t95 h5=>
 qUn .not t95 fun t96=>
 ifB t96 (
 aE s0 fun t98=>
 ab 3 t98 fun t99=>
 ak 1 t99 (B true) h5 fun h6=>
 cn s3 s2 s0 h6 Q) (
 cn s3 s2 s0 h5 Q))
def pw (s0:AV) (h:ae) (next1:NT):Prop:=
 aE s0 fun t79=>
 ab 1 t79 fun t80=>
 ag t80 h fun t81=>
 ai .add t81 (I 1) fun t82=>
 aE s0 fun t83=>
 ab 1 t83 fun t84=>
 ak 1 t84 t82 h fun h10=>
 next1 [] h10
def px (s0:AV) (h:ae) (next1:NT) (s3 s2:AV) (Q:QT):Prop:=
 ifB (.tup []) (pw s0 h next1) (ifB (.tup []) (
 pw s0 h next1) (
 aE s0 fun t86=>
 ab 0 t86 fun t87=>
 ag t87 h fun t88=>
 aE s0 fun t91=>
 ab 1 t91 fun t92=>
 ag t92 h fun t93=>
 bm t88 (some s3) (some t93) fun t94=>
 C lU [t94] h fun t95 h12=>
 qUn .not t95 fun t96=>
 ifB t96 (
 aE s0 fun t98=>
 ab 3 t98 fun t99=>
 ak 1 t99 (B true) h12 fun h13=>
 cn s3 s2 s0 h13 Q) (
 cn s3 s2 s0 h12 Q)))
def eA (s0:AV) (h:ae) (next1:NT) (s3 s2:AV) (Q:QT):Prop:=
 aE s0 fun t43=>
 ab 0 t43 fun t44=>
 ag t44 h fun t45=>
 aE s0 fun t47=>
 ab 1 t47 fun t48=>
 ag t48 h fun t49=>
 bj t45 t49 fun t50=>
 ai .geq t50 (.lit (.int .u8 48)) fun t51=>
 ifT t51 (aE s0 fun t54=>
 ab 0 t54 fun t55=>
 ag t55 h fun t56=>
 aE s0 fun t58=>
 ab 1 t58 fun t59=>
 ag t59 h fun t60=>
 bj t56 t60 fun t61=>
 ai .leq t61 (.lit (.int .u8 57)) fun t62=>
 ifT t62 (aE s0 fun t79=>
 ab 1 t79 fun t80=>
 ag t80 h fun t81=>
 ai .add t81 (I 1) fun t82=>
 aE s0 fun t83=>
 ab 1 t83 fun t84=>
 ak 1 t84 t82 h fun h3=>
 next1 [] h3) (
 eB s0 h next1 s3 s2 Q) (
 px s0 h next1 s3 s2 Q)) (
 eB s0 h next1 s3 s2 Q) (
 ifB (.tup []) (px s0 h next1 s3 s2 Q) (eB s0 h next1 s3 s2 Q))
def dG (s0:AV) (h:ae) (next1:NT):Prop:=
 aE s0 fun t79=>
 ab 1 t79 fun t80=>
 ag t80 h fun t81=>
 ai .add t81 (I 1) fun t82=>
 aE s0 fun t83=>
 ab 1 t83 fun t84=>
 ak 1 t84 t82 h fun h2=>
 next1 [] h2
def gu (s0:AV) (h:ae) (s3 s2:AV) (Q:QT):Prop:=
 aE s0 fun t86=>
 ab 0 t86 fun t87=>
 ag t87 h fun t88=>
 aE s0 fun t91=>
 ab 1 t91 fun t92=>
 ag t92 h fun t93=>
 bm t88 (some s3) (some t93) fun t94=>
 C lU [t94] h fun t95 h39=>
 qUn .not t95 fun t96=>
 ifB t96 (
 aE s0 fun t98=>
 ab 3 t98 fun t99=>
 ak 1 t99 (B true) h39 fun h40=>
 cn s3 s2 s0 h40 Q) (
 cn s3 s2 s0 h39 Q)
def pp (s0:AV) (h:ae) (next1:NT) (s3 s2:AV) (Q:QT):Prop:=
 ifB (.tup []) (dG s0 h next1) (ifB (.tup []) (dG s0 h next1) (ifB (.tup []) (
 dG s0 h next1) (
 gu s0 h s3 s2 Q)))
def m8 (s3 s2 s0:AV) (Q:QT) (h:ae) (next1:NT):Prop:=
 aE s0 fun t9=>
 ab 1 t9 fun t10=>
 ag t10 h fun t11=>
 aE s0 fun t13=>
 ab 0 t13 fun t14=>
 ag t14 h fun t15=>
 bH t15 fun t16=>
 ai .lss t11 t16 fun t17=>
 ifB t17 (aE s0 fun t20=>
 ab 0 t20 fun t21=>
 ag t21 h fun t22=>
 aE s0 fun t24=>
 ab 1 t24 fun t25=>
 ag t25 h fun t26=>
 bj t22 t26 fun t27=>
 ai .geq t27 (.lit (.int .u8 97)) fun t28=>
 ifT t28 (aE s0 fun t31=>
 ab 0 t31 fun t32=>
 ag t32 h fun t33=>
 aE s0 fun t35=>
 ab 1 t35 fun t36=>
 ag t36 h fun t37=>
 bj t33 t37 fun t38=>
 ai .leq t38 (.lit (.int .u8 122)) fun t39=>
 ifT t39 (dG s0 h next1) (
 eA s0 h next1 s3 s2 Q) (
 pp s0 h next1 s3 s2 Q)) (
 eA s0 h next1 s3 s2 Q) (
 ifB (.tup []) (pp s0 h next1 s3 s2 Q) (eA s0 h next1 s3 s2 Q))) (
 gu s0 h s3 s2 Q)
def tF (a0:AV) (h:ae) (Q:QT):Prop:=
 df [(I 0),(I 0),(S ⟨#[]⟩),(.full 0 [])] h fun t2 h0=>
 aE a0 fun t5=>
 ab 1 t5 fun t6=>
 ag t6 h0 fun t7=>
 cb [] h0 fun _ h next1=>m8 t7 t2 a0 Q h next1
theorem yL (a0:AV) (h:ae) (Q:QT) (k:tF a0 h Q):C gA [a0] h Q:=
 okF (pl:=[(3,[8,9,10,11,12,13,14,15,16,17,18,19,20,21,22,23,24,25,26,27,28,29,30,31,32,33,34,35,36,37,38,39,40,41,42,43,44,45,46,47,48,49,50,51,52,53,54,55,56,57,58,59,60,61,62,63,64,65,66,67,68,69,70,71,72,73,74,75,76,77,78,79,80,81,82,83,84],[]),(1000002,[0,1,2,3,4,5,6,7,8,9,10,11,12,13,14,15,16,17,18,19,20,21,22,23,24,25,26,27,28,29,30,31,32,33,34,35,36,37,38,39,40,41,42,43,44,45,46,47,48,49,50,51,52,53,54,55,56,57,58,59,60,61,62,63,64,65,66,67,68,69],[]),(1000004,[0,1,2,3,4,5,6,7,8,9,10,11],[]),(1000006,[0,1,2,3,4,5,6,7,8,9,10,11],[])]) Tryz.func230 Tryz.ntmps230 (by kernel_rfl) (by kernel_rfl) rfl (by kernel_rfl) k
def Du (a0:AV) (h:ae) (Q:QT):Prop:=
 ai .eql a0 (I 5) fun t6=>
 ifB t6 (
 Q (.tup [(S ⟨#[43]⟩),(I 3)]) h) (
 ai .eql a0 (I 6) fun t8=>
 ifB t8 (
 Q (.tup [(S ⟨#[45]⟩),(I 3)]) h) (
 ai .eql a0 (I 7) fun t10=>
 ifB t10 (
 Q (.tup [(S ⟨#[42]⟩),(I 4)]) h) (
 ai .eql a0 (I 8) fun t12=>
 ifB t12 (
 Q (.tup [(S ⟨#[38]⟩),(I 1)]) h) (
 ai .eql a0 (I 9) fun t14=>
 ifB t14 (
 Q (.tup [(S ⟨#[124]⟩),(I 0)]) h) (
 ai .eql a0 (I 10) fun t16=>
 ifB t16 (
 Q (.tup [(S ⟨#[60,60]⟩),(I 2)]) h) (
 Q (.tup [(S ⟨#[62,62]⟩),(I 2)]) h))))))
theorem Bb (a0:AV) (h:ae) (Q:QT) (k:Du a0 h Q):C pZ [a0] h Q:=
 okF (pl:=[]) Tryz.func101 Tryz.ntmps101 (by kernel_rfl) (by kernel_rfl) rfl (by kernel_rfl) k
def pR (s4 s5:AV) (h:ae) (next4:NT):Prop:=
 ai .add s5 (I 1) fun t49=>
 next4 [s4,t49] h
def hQ (s4 s5:AV) (h:ae) (next4:NT):Prop:=
 pR s4 s5 h next4
def pU (s4:AV) (vs11:List AV) (h:ae) (t87:AV) (next11:NT):Prop:=
 am 1 s4 (ap vs11 1) fun t90=>
 ag t90 h fun t91=>
 ai .add t87 t91 fun t92=>
 hQ t92 (ap vs11 1) h next11
def y9 (s4:AV) (Q:QT) (vs11:List AV) (h:ae) (next11:NT):Prop:=
 aY s4 fun t80=>
 ai .lss (ap vs11 1) t80 fun t81=>
 ifB t81 (
 ai .eql (ap vs11 1) (I 0) fun t85=>
 ifB t85 (
 ai .add (ap vs11 0) (S ⟨#[32]⟩) fun t87=>
 pU s4 vs11 h t87 next11) (
 ai .add (ap vs11 0) (S ⟨#[44,32]⟩) fun t94=>
 pU s4 vs11 h t94 next11)) (
 Q (ap vs11 0) h)
def zx (s3 s1:AV) (Q:QT) (vs4:List AV) (h:ae) (next4:NT):Prop:=
 ab 5 s1 fun t44=>
 ag t44 h fun t45=>
 aY t45 fun t46=>
 ai .lss (ap vs4 1) t46 fun t47=>
 ifB t47 (
 ab 5 s1 fun t50=>
 ag t50 h fun t51=>
 am 5 t51 (ap vs4 1) fun t53=>
 ab 0 t53 fun t54=>
 ag t54 h fun t55=>
 ai .geq t55 (I 0) fun t56=>
 ifB t56 (
 ab 5 s1 fun t58=>
 ag t58 h fun t59=>
 am 5 t59 (ap vs4 1) fun t61=>
 ab 0 t61 fun t62=>
 ag t62 h fun t63=>
 C dy [t63] h fun t64 h5=>
 ai .add (S ⟨#[114]⟩) t64 fun t65=>
 ao 1 1 [t65] fun t66=>
 bc 1 16 (ap vs4 0) t66 h5 fun t67 h6=>
 hQ t67 (ap vs4 1) h6 next4) (
 ab 5 s1 fun t69=>
 ag t69 h fun t70=>
 am 5 t70 (ap vs4 1) fun t72=>
 ab 1 t72 fun t73=>
 aw 4 t73 h fun t74=>
 C mK [t74] h fun t75 h9=>
 ao 1 1 [t75] fun t76=>
 bc 1 16 (ap vs4 0) t76 h9 fun t77 h10=>
 hQ t77 (ap vs4 1) h10 next4)) (
 cb [s3,(I 0)] h fun vs11 h next11=>y9 (ap vs4 0) Q vs11 h next11)
def nT (s4 s3 s1:AV) (h:ae) (Q:QT):Prop:=
 cb [s4,(I 0)] h fun vs4 h next4=>zx s3 s1 Q vs4 h next4
def nW (s4 s3 s1:AV) (h:ae) (Q:QT):Prop:=
 ab 2 s1 fun t35=>
 ag t35 h fun t36=>
 ai .eql t36 (I 9) fun t37=>
 ifB t37 (
 ab 4 s1 fun t39=>
 ag t39 h fun t40=>
 ao 1 1 [t40] fun t41=>
 bc 1 16 s4 t41 h fun t42 h3=>
 nT t42 s3 s1 h3 Q) (
 nT s4 s3 s1 h Q)
def nX (s3 s1:AV) (h:ae) (Q:QT):Prop:=
 aw 6 s1 h fun t22=>
 C vt [t22] h fun t23 h1=>
 ai .add s3 t23 fun t24=>
 ab 2 s1 fun t25=>
 ag t25 h1 fun t26=>
 ai .eql t26 (I 6) fun t27=>
 ifB t27 (
 ab 4 s1 fun t29=>
 ag t29 h1 fun t30=>
 ai .add (S ⟨#[34]⟩) t30 fun t31=>
 ai .add t31 (S ⟨#[34]⟩) fun t32=>
 ao 1 1 [t32] fun t33=>
 bc 1 16 (.full 0 []) t33 h1 fun t34 h2=>
 nW t34 t24 s1 h2 Q) (
 nW (.full 0 []) t24 s1 h1 Q)
def nY (s3 s1:AV) (h:ae) (Q:QT):Prop:=
 ab 2 s1 fun t13=>
 ag t13 h fun t14=>
 ai .eql t14 (I 0) fun t15=>
 ifB t15 (
 Q s3 h) (
 ai .neq s3 (S ⟨#[]⟩) fun t18=>
 ifB t18 (
 ai .add s3 (S ⟨#[32]⟩) fun t20=>
 nX t20 s1 h Q) (
 nX s3 s1 h Q))
def JJ (a0:AV) (h:ae) (Q:QT):Prop:=
 gk a0 h fun t1 h0=>
 ab 1 t1 fun t7=>
 ag t7 h0 fun t8=>
 ai .neq t8 (S ⟨#[]⟩) fun t9=>
 ifB t9 (
 ab 1 t1 fun t10=>
 ag t10 h0 fun t11=>
 ai .add t11 (S ⟨#[58]⟩) fun t12=>
 nY t12 t1 h0 Q) (
 nY (S ⟨#[]⟩) t1 h0 Q)
theorem Ls (a0:AV) (h:ae) (Q:QT) (k:JJ a0 h Q):C vw [a0] h Q:=
 okF (pl:=[(16,[4,5,43,44,45,46,47,48,49,50,51,52,53,54,55,56,57,58,59,60,61,62,63,64,65,66,67,68,69,70,71,72,73,74,75,76,77],[4,5]),(22,[3,6,78,79,80,81,82,83,84,85,86,87,88,89,90,91,92,93,94,95,96,97,98,99],[3,6])]) Tryz.func41 Tryz.ntmps41 (by kernel_rfl) (by kernel_rfl) rfl (by kernel_rfl) k
def JP (a0:AV) (h:ae) (Q:QT):Prop:=
 gk a0 h fun t1 h0=>
 ab 2 t1 fun t3=>
 ag t3 h0 fun t4=>
 ai .eql t4 (I 1) fun t6=>
 ifB t6 (
 ab 3 t1 fun t7=>
 ag t7 h0 fun t8=>
 C u7 [t8] h0 fun t9 h1=>
 Q t9 h1) (
 ai .eql t4 (I 2) fun t11=>
 ifB t11 (
 ao 3 1 [(S ⟨#[98]⟩),(S ⟨#[98,108]⟩),(S ⟨#[98,99]⟩)] fun t12=>
 ab 3 t1 fun t13=>
 ag t13 h0 fun t14=>
 am 1 t12 t14 fun t15=>
 ag t15 h0 fun t16=>
 Q t16 h0) (
 ai .eql t4 (I 3) fun t18=>
 ifB t18 (
 Q (S ⟨#[46,98,121,116,101]⟩) h0) (
 ai .eql t4 (I 4) fun t20=>
 ifB t20 (
 Q (S ⟨#[46,104,97,108,102]⟩) h0) (
 ai .eql t4 (I 5) fun t22=>
 ifB t22 (
 Q (S ⟨#[46,108,111,110,103]⟩) h0) (
 ai .eql t4 (I 6) fun t24=>
 ifB t24 (
 Q (S ⟨#[46,97,115,99,105,105]⟩) h0) (
 ai .eql t4 (I 7) fun t26=>
 ifB t26 (
 Q (S ⟨#[46,97,108,105,103,110]⟩) h0) (
 ai .eql t4 (I 8) fun t28=>
 ifB t28 (
 Q (S ⟨#[46,115,112,97,99,101]⟩) h0) (
 Q (S ⟨#[46,101,113,117]⟩) h0))))))))
theorem Mi (a0:AV) (h:ae) (Q:QT) (k:JP a0 h Q):C vt [a0] h Q:=
 okF (pl:=[]) Tryz.func68 Tryz.ntmps68 (by kernel_rfl) (by kernel_rfl) rfl (by kernel_rfl) k
end
end Go.Proofs.YtgkmmcdhhkllnaaGreatDoor.AL
