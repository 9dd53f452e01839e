import Derived.Test.YtgkmmcdhhkllnaaGreatDoorF5
set_option linter.all false
set_option autoImplicit true
set_option relaxedAutoImplicit true
set_option maxRecDepth 100000
namespace Go.Proofs.YtgkmmcdhhkllnaaGreatDoor.AL
noncomputable section
open Go.Proofs
variable [Tabs]
abbrev zV:Nat:=44
abbrev ug:Nat:=103
def lB (s62 s8 s5 s1:AV) (h:ae) (Q:QT):Prop:=
 ifB s62 (
 C dF [s1,(I 4)] h fun t66 h2=>
 Q t66 h2) (
 ai .eql s8 (S ⟨#[84,56]⟩) fun t68=>
 ifB t68 (
 C dF [s1,(I 256)] h fun t70 h3=>
 ai .sub t70 (I 128) fun t71=>
 ai .mul (I 2) t71 fun t72=>
 Q t72 h3) (
 ai .eql s8 (S ⟨#[83,49,54]⟩) fun t74=>
 ifB t74 (
 ao 9 1 [(I 0),(I 32767),(I (-32768)),(I (-1)),(I 1),(I 255),(I (-256)),(I 4660),(I (-4660))] fun t75=>
 an 1 t75 s5 fun t77=>
 af t77 h fun t78=>
 Q t78 h) (
 ai .eql s8 (S ⟨#[76,50,48]⟩) fun t80=>
 ifB t80 (
 C dF [s1,(I 1048576)] h fun t82 h4=>
 ai .sub t82 (I 524288) fun t83=>
 Q t83 h4) (
 ai .eql s8 (S ⟨#[84,49,53]⟩) fun t85=>
 ifB t85 (
 C dF [s1,(I 32768)] h fun t87 h5=>
 ai .sub t87 (I 16384) fun t88=>
 ai .mul (I 2) t88 fun t89=>
 Q t89 h5) (
 ai .eql s8 (S ⟨#[84,50,52]⟩) fun t91=>
 ifB t91 (
 C dF [s1,(I 16777216)] h fun t93 h6=>
 ai .sub t93 (I 8388608) fun t94=>
 ai .mul (I 2) t94 fun t95=>
 Q t95 h6) (
 ao 9 1 [(I 0),(I 255),(I 256),(I 65280),(I (-1)),(I (-2)),(I 16711680),(I (-256)),(I 2130706432)] fun t96=>
 an 1 t96 s5 fun t98=>
 af t98 h fun t99=>
 Q t99 h))))))
def lw (s37 s8 s5 s1:AV) (h:ae) (Q:QT):Prop:=
 ifB s37 (
 ao 9 1 [(I 0),(I 15),(I 1),(I 7),(I 8),(I 4),(I 12),(I 3),(I 14)] fun t40=>
 an 1 t40 s5 fun t42=>
 af t42 h fun t43=>
 Q t43 h) (
 ai .eql s8 (S ⟨#[77,50]⟩) fun t45=>
 ifB t45 (
 ao 9 1 [(I 0),(I 15),(I 1),(I 7),(I 8),(I 4),(I 12),(I 3),(I 14)] fun t46=>
 an 1 t46 s5 fun t48=>
 af t48 h fun t49=>
 ai .mul (I 2) t49 fun t50=>
 Q t50 h) (
 ai .eql s8 (S ⟨#[77,52]⟩) fun t52=>
 ifB t52 (
 ao 9 1 [(I 0),(I 15),(I 1),(I 7),(I 8),(I 4),(I 12),(I 3),(I 14)] fun t53=>
 an 1 t53 s5 fun t55=>
 af t55 h fun t56=>
 ai .mul (I 4) t56 fun t57=>
 Q t57 h) (
 ai .eql s8 (S ⟨#[79,49]⟩) fun t59=>
 ifB t59 (
 C dF [s1,(I 2)] h fun t61 h1=>
 Q t61 h1) (
 ai .eql s8 (S ⟨#[73,50]⟩) fun t63=>
 ifB t63 (
 lB t63 s8 s5 s1 h Q) (
 ai .eql s8 (S ⟨#[79,50]⟩) fun t64=>
 lB t64 s8 s5 s1 h Q)))))
def fQ (s16 s8 s5 s1:AV) (h:ae) (Q:QT):Prop:=
 ifB s16 (
 ao 9 1 [(I 0),(I 31),(I 1),(I 15),(I 16),(I 7),(I 30),(I 12),(I 3)] fun t21=>
 an 1 t21 s5 fun t23=>
 af t23 h fun t24=>
 Q t24 h) (
 ai .eql s8 (S ⟨#[85,55]⟩) fun t26=>
 ifB t26 (
 ao 9 1 [(I 0),(I 127),(I 64),(I 1),(I 63),(I 100),(I 7),(I 15),(I 16)] fun t27=>
 an 1 t27 s5 fun t29=>
 af t29 h fun t30=>
 Q t30 h) (
 ai .eql s8 (S ⟨#[79,53]⟩) fun t32=>
 ifB t32 (
 ao 9 1 [(I 1),(I 32),(I 2),(I 16),(I 31),(I 17),(I 8),(I 5),(I 30)] fun t33=>
 an 1 t33 s5 fun t35=>
 af t35 h fun t36=>
 Q t36 h) (
 ai .eql s8 (S ⟨#[77,49]⟩) fun t38=>
 ifB t38 (
 lw t38 s8 s5 s1 h Q) (
 ai .eql s8 (S ⟨#[73,52]⟩) fun t39=>
 lw t39 s8 s5 s1 h Q))))
def j9 (s9 s8 s5 s1:AV) (h:ae) (Q:QT):Prop:=
 ifB s9 (
 ao 9 1 [(I 0),(I 1),(I 7),(I 24),(I 31),(I 5),(I 28),(I 3),(I 30)] fun t12=>
 an 1 t12 s5 fun t14=>
 af t14 h fun t15=>
 Q t15 h) (
 ai .eql s8 (S ⟨#[68]⟩) fun t17=>
 ifB t17 (
 fQ t17 s8 s5 s1 h Q) (
 ai .eql s8 (S ⟨#[65]⟩) fun t18=>
 ifB t18 (
 fQ t18 s8 s5 s1 h Q) (
 ai .eql s8 (S ⟨#[66]⟩) fun t19=>
 ifB t19 (
 fQ t19 s8 s5 s1 h Q) (
 ai .eql s8 (S ⟨#[85,53]⟩) fun t20=>
 fQ t20 s8 s5 s1 h Q))))
def Cg (a0 a1:AV) (h:ae) (Q:QT):Prop:=
 C dF [a1,(I 9)] h fun t7 h0=>
 ai .eql a0 (S ⟨#[88]⟩) fun t10=>
 ifB t10 (
 j9 t10 a0 t7 a1 h0 Q) (
 ai .eql a0 (S ⟨#[89]⟩) fun t11=>
 j9 t11 a0 t7 a1 h0 Q)
theorem Fv (a0 a1:AV) (h:ae) (Q:QT) (k:Cg a0 a1 h Q):C ly [a0,a1] h Q:=
 okF (pl:=[]) Tryz.func104 Tryz.ntmps104 (by kernel_rfl) rfl (by kernel_rfl) k
def wJ (s5:AV) (h:ae) (Q:QT):Prop:=
 Q s5 h
def Ei (a0 a1:AV) (h:ae) (Q:QT):Prop:=
 ai .rem a0 a1 fun t8=>
 ai .lss t8 (I 0) fun t10=>
 ifB t10 (
 ai .add t8 a1 fun t13=>
 wJ t13 h Q) (
 wJ t8 h Q)
theorem GQ (a0 a1:AV) (h:ae) (Q:QT) (k:Ei a0 a1 h Q):C dF [a0,a1] h Q:=
 okF (pl:=[]) Tryz.func131 Tryz.ntmps131 (by kernel_rfl) rfl (by kernel_rfl) k
def OD (a0:AV) (h:ae) (Q:QT):Prop:=
 C qf [a0,(I 0)] h fun t4 h0=>
 ai .leq t4 (I 16) fun t5=>
 Q t5 h0
theorem OU (a0:AV) (h:ae) (Q:QT) (k:OD a0 h Q):C xC [a0] h Q:=
 okF (pl:=[]) Tryz.func29 Tryz.ntmps29 (by kernel_rfl) rfl (by kernel_rfl) k
def Gz (h:ae) (Q:QT):Prop:=
 ao 4 1 [(S ⟨#[98,97,115,101]⟩),(S ⟨#[120]⟩),(S ⟨#[101,110,100,95,49]⟩),(S ⟨#[114]⟩)] fun t1=>
 Q t1 h
theorem I4 (h:ae) (Q:QT) (k:Gz  h Q):C zV [] h Q:=
 okF (pl:=[]) Tryz.func44 Tryz.ntmps44 (by kernel_rfl) rfl (by kernel_rfl) k
def OE (a0:AV) (h:ae) (Q:QT):Prop:=
 cu [(I 0),(I 0),(S ⟨#[]⟩),(.full 0 [])] h fun t2 h0=>
 aX a0 fun t4=>
 ai .eql t4 (I 0) fun t5=>
 ifB t5 (
 ay [(I 0),(I 0),(S ⟨#[]⟩),(.full 0 [])] [(0,1,(I 1)),(1,1,(I 1))] fun t6=>
 ak 4 t2 t6 h0 fun h1=>
 ap 4 t2 h1 fun r2=>
 Q r2 h1) (
 an 3 a0 (I 0) fun t8=>
 ap 3 t8 h0 fun t9=>
 C jY [t9] h0 fun t10 h3=>
 ak 4 t2 t10 h3 fun h4=>
 ap 4 t2 h4 fun r5=>
 Q r5 h4)
theorem Oc (a0:AV) (h:ae) (Q:QT) (k:OE a0 h Q):C oY [a0] h Q:=
 okF (pl:=[]) Tryz.func77 Tryz.ntmps77 (by kernel_rfl) rfl (by kernel_rfl) k
def zy (a0:AV) (h:ae) (Q:QT):Prop:=
 fe a0 h fun t1 h0=>
 cu [(I 0),(I 0),(S ⟨#[]⟩),(.full 0 [])] h0 fun t2 h1=>
 ab 0 t1 fun t4=>
 af t4 h1 fun t5=>
 C gN [t5,(I 18)] h1 fun t6 h2=>
 ai .lss t6 (I 4) fun t18=>
 ifB t18 (
 ao 8 1 [(I 0),(I 1),(I 2),(I 255),(I 65536),(I 4294967295),(I 40),(I 7)] fun t19=>
 ab 1 t1 fun t20=>
 af t20 h2 fun t21=>
 C gN [t21,(I 8)] h2 fun t22 h3=>
 an 1 t19 t22 fun t23=>
 af t23 h3 fun t24=>
 ay [(I 0),(I 0),(S ⟨#[]⟩),(.full 0 [])] [(0,1,(I 1)),(1,1,t24)] fun t25=>
 ak 4 t2 t25 h3 fun h4=>
 ap 4 t2 h4 fun r5=>
 Q r5 h4) (
 ai .lss t6 (I 8) fun t28=>
 ifB t28 (
 ab 1 t1 fun t30=>
 af t30 h2 fun t31=>
 C zV [] h2 fun t29 h6=>
 (af t30 h6 fun _t=>
 _t=t31)∧
 C gN [t31,(I 4)] h6 fun t32 h7=>
 an 1 t29 t32 fun t33=>
 af t33 h7 fun t34=>
 ay [(I 0),(I 0),(S ⟨#[]⟩),(.full 0 [])] [(0,1,(I 2)),(2,1,t34)] fun t35=>
 ak 4 t2 t35 h7 fun h8=>
 ap 4 t2 h8 fun r9=>
 Q r9 h8) (
 ai .eql t6 (I 8) fun t38=>
 ifB t38 (
 ay [(I 0),(I 0),(S ⟨#[]⟩),(.full 0 [])] [(0,1,(I 3))] fun t39=>
 ak 4 t2 t39 h2 fun h10=>
 ap 4 t2 h10 fun r11=>
 Q r11 h10) (
 ai .lss t6 (I 11) fun t42=>
 ifB t42 (
 ap 3 t1 h2 fun t43=>
 C g9 [t43,(I 0)] h2 fun t44 h12=>
 ao 1 4 [t44] fun t45=>
 ay [(I 0),(I 0),(S ⟨#[]⟩),(.full 0 [])] [(0,1,(I 4)),(3,1,t45)] fun t46=>
 ak 4 t2 t46 h12 fun h13=>
 ap 4 t2 h13 fun r14=>
 Q r14 h13) (
 ai .add (I 5) t6 fun t8=>
 ai .sub t8 (I 11) fun t9=>
 ap 3 t1 h2 fun t10=>
 ap 3 t1 h2 fun t12=>
 C g9 [t10,(I 0)] h2 fun t11 h15=>
 (ap 3 t1 h15 fun _t=>
 _t=t12)∧
 C g9 [t12,(I 1)] h15 fun t13 h16=>
 ao 2 4 [t11,t13] fun t14=>
 ay [(I 0),(I 0),(S ⟨#[]⟩),(.full 0 [])] [(0,1,t9),(3,1,t14)] fun t15=>
 ak 4 t2 t15 h16 fun h17=>
 ap 4 t2 h17 fun r18=>
 Q r18 h17))))
theorem D5 (a0:AV) (h:ae) (Q:QT) (k:zy a0 h Q):C jY [a0] h Q:=
 okF (pl:=[(1000006,[1,2,0,3,4,5,6,7],[]),(1000002,[0,1,2,3,5,4,6,7,8,9],[])]) Tryz.func106 Tryz.ntmps106 (by kernel_rfl) rfl (by kernel_rfl) k
def zU (a0 a1:AV) (h:ae) (Q:QT):Prop:=
 fe a0 h fun t2 h0=>
 cu [(I 0),(I 0),(S ⟨#[]⟩),(.full 0 [])] h0 fun t4 h1=>
 ab 2 t2 fun t6=>
 af t6 h1 fun t7=>
 aX t7 fun t8=>
 ai .lss a1 t8 fun t9=>
 ifB t9 (
 ab 2 t2 fun t10=>
 af t10 h1 fun t11=>
 an 3 t11 a1 fun t13=>
 ap 3 t13 h1 fun t14=>
 C jY [t14] h1 fun t15 h2=>
 ak 4 t4 t15 h2 fun h3=>
 ap 4 t4 h3 fun r4=>
 Q r4 h3) (
 ab 1 t2 fun t16=>
 af t16 h1 fun t17=>
 ai .add t17 a1 fun t19=>
 C gN [t19,(I 5)] h1 fun t20 h5=>
 ay [(I 0),(I 0),(S ⟨#[]⟩),(.full 0 [])] [(0,1,(I 1)),(1,1,t20)] fun t21=>
 ak 4 t4 t21 h5 fun h6=>
 ap 4 t4 h6 fun r7=>
 Q r7 h6)
theorem Da (a0 a1:AV) (h:ae) (Q:QT) (k:zU a0 a1 h Q):C g9 [a0,a1] h Q:=
 okF (pl:=[]) Tryz.func134 Tryz.ntmps134 (by kernel_rfl) rfl (by kernel_rfl) k
def Bi (s0 s1:AV) (Q:QT) (vs0:List AV) (h:ae) (next0:NT):Prop:=
 aX s0 fun t11=>
 ai .lss (aq vs0 1) t11 fun t12=>
 ifB t12 (ai .leq (aq vs0 0) (I 16) fun t15=>
 ifB t15 (
 ai .add (aq vs0 0) (I 1) fun t20=>
 an 3 s0 (aq vs0 1) fun t23=>
 ab 2 t23 fun t24=>
 af t24 h fun t25=>
 ai .add s1 (I 1) fun t27=>
 C qf [t25,t27] h fun t28 h1=>
 ai .add t20 t28 fun t29=>
 ai .add (aq vs0 1) (I 1) fun t18=>
 next0 [t29,t18] h1) (
 Q (aq vs0 0) h)) (
 Q (aq vs0 0) h)
def DM (a0 a1:AV) (h:ae) (Q:QT):Prop:=
 ai .gtr a1 (I 7) fun t8=>
 ifB t8 (
 Q (I 1000) h) (
 cc [(I 0),(I 0)] h fun vs0 h next0=>Bi a0 a1 Q vs0 h next0)
theorem Bo (a0 a1:AV) (h:ae) (Q:QT) (k:DM a0 a1 h Q):C qf [a0,a1] h Q:=
 okF (pl:=[(6,[5,6,9,10,11,12,13,14,15,16,17,18,19,20,21,22,23,24,25,26,27,28,29],[5,6])]) Tryz.func50 Tryz.ntmps50 (by kernel_rfl) rfl (by kernel_rfl) k
def wW (s5:AV) (h:ae) (Q:QT):Prop:=
 Q s5 h
def Eb (a0 a1:AV) (h:ae) (Q:QT):Prop:=
 ai .rem a0 a1 fun t8=>
 ai .lss t8 (I 0) fun t10=>
 ifB t10 (
 ai .add t8 a1 fun t13=>
 wW t13 h Q) (
 wW t8 h Q)
theorem GC (a0 a1:AV) (h:ae) (Q:QT) (k:Eb a0 a1 h Q):C gN [a0,a1] h Q:=
 okF (pl:=[]) Tryz.func43 Tryz.ntmps43 (by kernel_rfl) rfl (by kernel_rfl) k
def Eu (s0:AV) (Q:QT) (vs0:List AV) (h:ae) (next0:NT):Prop:=
 aX s0 fun t6=>
 ai .lss (aq vs0 1) t6 fun t7=>
 ifB t7 (
 an 6 s0 (aq vs0 1) fun t12=>
 ab 4 t12 fun t13=>
 af t13 h fun t14=>
 C xC [t14] h fun t15 h1=>
 qUn .not t15 fun t16=>
 ifB t16 (Q (B false) h1) (
 an 6 s0 (aq vs0 1) fun t20=>
 ab 3 t20 fun t21=>
 af t21 h1 fun t22=>
 aX t22 fun t23=>
 ai .gtr t23 (I 60) fun t24=>
 ifB t24 (
 Q (B false) h1) (
 ai .add (aq vs0 1) (I 1) fun t9=>
 next0 [(aq vs0 0),t9] h1))) (
 Q (B true) h)
def QL (a0:AV) (h:ae) (Q:QT):Prop:=
 cc [(B false),(I 0)] h fun vs0 h next0=>Eu a0 Q vs0 h next0
theorem Pk (a0:AV) (h:ae) (Q:QT) (k:QL a0 h Q):C ya [a0] h Q:=
 okF (pl:=[(3,[2,3,4,5,6,7,8,9,10,11,12,13,14,15,16,17,18,19,20,21,22,23,24,25],[2,3])]) Tryz.func15 Tryz.ntmps15 (by kernel_rfl) rfl (by kernel_rfl) k
def EO (h:ae) (Q:QT):Prop:=
 ao 4 1 [(S ⟨#[97]⟩),(S ⟨#[98,49]⟩),(S ⟨#[108,111,111,112]⟩),(S ⟨#[120]⟩)] fun t1=>
 Q t1 h
theorem Gy (h:ae) (Q:QT) (k:EO  h Q):C gZ [] h Q:=
 okF (pl:=[]) Tryz.func75 Tryz.ntmps75 (by kernel_rfl) rfl (by kernel_rfl) k
def jb (s3 s2:AV) (h:ae) (Q:QT):Prop:=
 ap 6 s3 h fun t155=>
 ak 6 s2 t155 h fun h18=>
 ap 6 s2 h18 fun r19=>
 Q r19 h18
def ka (s1:AV) (h:ae) (s3 s2:AV) (Q:QT):Prop:=
 ab 2 s1 fun t149=>
 af t149 h fun t150=>
 C gZ [] h fun t148 h15=>
 (af t149 h15 fun _t=>
 _t=t150)∧
 C aW [t150,(I 4)] h15 fun t151 h16=>
 an 1 t148 t151 fun t152=>
 af t152 h16 fun t153=>
 ab 1 s3 fun t154=>
 ak 1 t154 t153 h16 fun h17=>
 jb s3 s2 h17 Q
def sb (s3 s2 s1:AV) (h:ae) (Q:QT):Prop:=
 ab 5 s1 fun t141=>
 af t141 h fun t142=>
 ifB t142 (ka s1 h s3 s2 Q) (
 ab 2 s3 fun t144=>
 af t144 h fun t145=>
 ai .eql t145 (I 0) fun t146=>
 ifB t146 (
 ka s1 h s3 s2 Q) (
 jb s3 s2 h Q))
def cU (s3 s2 s1:AV) (h:ae) (Q:QT):Prop:=
 sb s3 s2 s1 h Q
def mu (s5 s3 s2 s1:AV) (Q:QT) (vs10:List AV) (h:ae) (next10:NT):Prop:=
 aX s5 fun t39=>
 ai .lss (aq vs10 0) t39 fun t40=>
 ifB t40 (
 ab 5 s3 fun t43=>
 af t43 h fun t44=>
 ap 6 s1 h fun t45=>
 an 1 s5 (aq vs10 0) fun t48=>
 af t48 h fun t49=>
 ap 6 s1 h fun t50=>
 C iy [t50,(aq vs10 0)] h fun t52 h11=>
 (af t48 h11 fun _t=>
 _t=t49)∧
 (ap 6 s1 h11 fun _t=>
 _t=t45)∧
 (af t43 h11 fun _t=>
 _t=t44)∧
 C mt [t45,t49,t52] h11 fun t53 h12=>
 (af t43 h12 fun _t=>
 _t=t44)∧
 ao 1 5 [t53] fun t54=>
 bg 5 64 t44 t54 h12 fun t55 h13=>
 ab 5 s3 fun t56=>
 ak 1 t56 t55 h13 fun h14=>
 ai .add (aq vs10 0) (I 1) fun t42=>
 next10 [t42] h14) (
 cU s3 s2 s1 h Q)
def i7 (s3 s2 s1:AV) (h:ae) (Q:QT):Prop:=
 ab 5 s3 fun t81=>
 af t81 h fun t82=>
 ab 2 s1 fun t84=>
 af t84 h fun t85=>
 C gZ [] h fun t83 h33=>
 (af t84 h33 fun _t=>
 _t=t85)∧
 (af t81 h33 fun _t=>
 _t=t82)∧
 C aW [t85,(I 4)] h33 fun t86 h34=>
 (af t81 h34 fun _t=>
 _t=t82)∧
 an 1 t83 t86 fun t87=>
 af t87 h34 fun t88=>
 ay [(I 0),(I 0),(S ⟨#[]⟩),(.full 0 [])] [(0,1,(I 2)),(2,1,t88)] fun t89=>
 ay [(I 0),(I 0),(I 0),(S ⟨#[]⟩),(.full 0 [])] [(0,1,(I (-1))),(1,4,t89)] fun t90=>
 ao 1 5 [t90] fun t91=>
 bg 5 64 t82 t91 h34 fun t92 h35=>
 ab 5 s3 fun t93=>
 ak 1 t93 t92 h35 fun h36=>
 cU s3 s2 s1 h36 Q
def ku (t120:AV) (h44:ae) (t121 t3 t124 t2 t1:AV) (Q:QT):Prop:=
 (af t120 h44 fun _t=>
 _t=t121)∧
 ab 5 t3 fun t126=>
 ak 1 t126 t124 h44 fun h45=>
 cU t3 t2 t1 h45 Q
def Ah (a0:AV) (h:ae) (Q:QT):Prop:=
 fe a0 h fun t1 h0=>
 cu [(I 0),(S ⟨#[]⟩),(I 0),(I 0),(S ⟨#[]⟩),(.full 0 [])] h0 fun t2 h1=>
 ay [(I 0),(S ⟨#[]⟩),(I 0),(I 0),(S ⟨#[]⟩),(.full 0 [])] [(0,1,(I 1))] fun t7=>
 cu [(I 0),(S ⟨#[]⟩),(I 0),(I 0),(S ⟨#[]⟩),(.full 0 [])] h1 fun t3 h2=>
 ak 6 t3 t7 h2 fun h3=>
 ab 0 t1 fun t8=>
 af t8 h3 fun t9=>
 C aW [t9,(I 16)] h3 fun t10 h4=>
 ai .lss t10 (I 6) fun t27=>
 ifB t27 (
 ab 1 t1 fun t28=>
 af t28 h4 fun t29=>
 C aW [t29,(I 66)] h4 fun t30 h5=>
 ab 2 t3 fun t31=>
 ak 1 t31 (I 1) h5 fun h6=>
 ab 3 t3 fun t32=>
 ak 1 t32 t30 h6 fun h7=>
 ab 3 t3 fun t33=>
 af t33 h7 fun t34=>
 C oC [t34] h7 fun t35 h8=>
 C ot [t35] h8 fun t36 h9=>
 cc [(I 0)] h9 fun vs10 h next10=>mu t36 t3 t2 t1 Q vs10 h next10) (
 ai .lss t10 (I 9) fun t59=>
 ifB t59 (
 ab 1 t1 fun t60=>
 af t60 h4 fun t61=>
 C aW [t61,(I 3)] h4 fun t62 h27=>
 ab 2 t3 fun t63=>
 ak 1 t63 (I 2) h27 fun h28=>
 ab 3 t3 fun t64=>
 ak 1 t64 t62 h28 fun h29=>
 ab 3 t3 fun t65=>
 af t65 h29 fun t66=>
 ai .eql t66 (I 2) fun t67=>
 ifB t67 (
 ab 2 t1 fun t68=>
 af t68 h29 fun t69=>
 ab 2 t1 fun t73=>
 af t73 h29 fun t74=>
 ai .quo t74 (I 2) fun t75=>
 C aW [t69,(I 2)] h29 fun t70 h30=>
 (af t73 h30 fun _t=>
 _t=t74)∧
 ay [(I 0),(I 0),(S ⟨#[]⟩),(.full 0 [])] [(0,1,(I 1)),(1,1,t70)] fun t71=>
 ay [(I 0),(I 0),(I 0),(S ⟨#[]⟩),(.full 0 [])] [(0,1,(I (-1))),(1,4,t71)] fun t72=>
 C aW [t75,(I 4)] h30 fun t76 h31=>
 ay [(I 0),(I 0),(S ⟨#[]⟩),(.full 0 [])] [(0,1,(I 1)),(1,1,t76)] fun t77=>
 ay [(I 0),(I 0),(I 0),(S ⟨#[]⟩),(.full 0 [])] [(0,1,(I (-1))),(1,4,t77)] fun t78=>
 ao 2 5 [t72,t78] fun t79=>
 ab 5 t3 fun t80=>
 ak 1 t80 t79 h31 fun h32=>
 i7 t3 t2 t1 h32 Q) (
 i7 t3 t2 t1 h29 Q)) (
 ai .lss t10 (I 12) fun t96=>
 ifB t96 (
 ap 6 t1 h4 fun t97=>
 ai .add (I 3) t10 fun t99=>
 ai .sub t99 (I 9) fun t100=>
 C nc [t97,t100] h4 fun t101 h38=>
 ak 6 t3 t101 h38 fun h39=>
 cU t3 t2 t1 h39 Q) (
 ai .eql t10 (I 12) fun t104=>
 ifB t104 (
 ao 5 1 [(S ⟨#[]⟩),(S ⟨#[104,105]⟩),(S ⟨#[97,32,35,32,98,44,32,99]⟩),(S ⟨#[48,49,50,51,52,53,54,55,56,57]⟩),(S ⟨#[116,97,98]⟩)] fun t105=>
 ab 1 t1 fun t106=>
 af t106 h4 fun t107=>
 ab 2 t3 fun t111=>
 C aW [t107,(I 5)] h4 fun t108 h40=>
 an 1 t105 t108 fun t109=>
 af t109 h40 fun t110=>
 ak 1 t111 (I 6) h40 fun h41=>
 (af t109 h41 fun _t=>
 _t=t110)∧
 ab 4 t3 fun t112=>
 ak 1 t112 t110 h41 fun h42=>
 cU t3 t2 t1 h42 Q) (
 ai .eql t10 (I 13) fun t115=>
 ifB t115 (
 ao 6 1 [(I 1),(I 2),(I 4),(I 8),(I 16),(I 3)] fun t116=>
 ab 1 t1 fun t117=>
 af t117 h4 fun t118=>
 ab 2 t3 fun t125=>
 C aW [t118,(I 6)] h4 fun t119 h43=>
 an 1 t116 t119 fun t120=>
 af t120 h43 fun t121=>
 ay [(I 0),(I 0),(S ⟨#[]⟩),(.full 0 [])] [(0,1,(I 1)),(1,1,t121)] fun t122=>
 ay [(I 0),(I 0),(I 0),(S ⟨#[]⟩),(.full 0 [])] [(0,1,(I (-1))),(1,4,t122)] fun t123=>
 ao 1 5 [t123] fun t124=>
 ak 1 t125 (I 7) h43 fun h44=>
 ku t120 h44 t121 t3 t124 t2 t1 Q) (
 ai .eql t10 (I 14) fun t129=>
 ifB t129 (
 ao 8 1 [(I 0),(I 2),(I 100),(I 250),(I 252),(I 254),(I 256),(I 7)] fun t130=>
 ab 1 t1 fun t131=>
 af t131 h4 fun t132=>
 ab 2 t3 fun t139=>
 C aW [t132,(I 8)] h4 fun t133 h46=>
 an 1 t130 t133 fun t134=>
 af t134 h46 fun t135=>
 ay [(I 0),(I 0),(S ⟨#[]⟩),(.full 0 [])] [(0,1,(I 1)),(1,1,t135)] fun t136=>
 ay [(I 0),(I 0),(I 0),(S ⟨#[]⟩),(.full 0 [])] [(0,1,(I (-1))),(1,4,t136)] fun t137=>
 ao 1 5 [t137] fun t138=>
 ak 1 t139 (I 8) h46 fun h47=>
 ku t134 h47 t135 t3 t138 t2 t1 Q) (
 ao 3 1 [(S ⟨#[107]⟩),(S ⟨#[115,105,122,101]⟩),(S ⟨#[120]⟩)] fun t11=>
 ab 1 t1 fun t12=>
 af t12 h4 fun t13=>
 ab 4 t1 fun t17=>
 af t17 h4 fun t18=>
 ab 2 t3 fun t22=>
 C aW [t13,(I 3)] h4 fun t14 h49=>
 (af t17 h49 fun _t=>
 _t=t18)∧
 an 1 t11 t14 fun t15=>
 af t15 h49 fun t16=>
 C oY [t18] h49 fun t19 h50=>
 (af t15 h50 fun _t=>
 _t=t16)∧
 ay [(I 0),(I 0),(I 0),(S ⟨#[]⟩),(.full 0 [])] [(0,1,(I (-1))),(1,4,t19)] fun t20=>
 ao 1 5 [t20] fun t21=>
 ak 1 t22 (I 9) h50 fun h51=>
 (af t15 h51 fun _t=>
 _t=t16)∧
 ab 4 t3 fun t23=>
 ak 1 t23 t16 h51 fun h52=>
 ab 5 t3 fun t24=>
 ak 1 t24 t21 h52 fun h53=>
 cU t3 t2 t1 h53 Q))))))
theorem CX (a0:AV) (h:ae) (Q:QT) (k:Ah a0 h Q):C nC [a0] h Q:=
 okF (pl:=[(9,[6,37,38,39,40,41,42,43,44,45,46,47,48,49,50,51,52,53,54,55,56],[6]),(1000010,[0,1,2,3,4,5,6,7,8,9,10,11,12,13,14],[]),(1000025,[1,2,0,3,4,5,6,7],[]),(1000014,[0,1,5,6,7,2,3,4,8,9,10,11,12,13],[]),(1000015,[0,1,3,4,2,5,6,7,8,9,10,11,12,13],[]),(1000019,[0,1,2,6,3,4,5,7,8,9],[]),(1000021,[0,1,2,9,3,4,5,6,7,8,10,11,12],[]),(1000023,[0,1,2,9,3,4,5,6,7,8,10,11,12],[]),(1000003,[0,1,2,6,7,11,3,4,5,8,9,10,12,13,14,15,16],[])]) Tryz.func42 Tryz.ntmps42 (by kernel_rfl) rfl (by kernel_rfl) k
def ri (s7 s6 s5:AV) (h:ae) (next4:NT):Prop:=
 ab 5 s5 fun t52=>
 af t52 h fun t53=>
 ap 5 s7 h fun t54=>
 ao 1 5 [t54] fun t55=>
 bg 5 64 t53 t55 h fun t56 h12=>
 ab 5 s5 fun t57=>
 ak 1 t57 t56 h12 fun h13=>
 ai .add s6 (I 1) fun t17=>
 next4 [t17] h13
def fh (s7 s6 s5:AV) (h:ae) (next4:NT):Prop:=
 ri s7 s6 s5 h next4
def jo (t21:AV) (h9:ae) (t7:AV) (vs4:List AV) (s5:AV) (next4:NT):Prop:=
 C aW [t21,(I 6)] h9 fun t42 h16=>
 ai .eql t42 (I 1) fun t43=>
 ifB t43 (
 C gZ [] h16 fun t44 h17=>
 ai .quo t21 (I 6) fun t46=>
 C aW [t46,(I 4)] h17 fun t47 h18=>
 an 1 t44 t47 fun t48=>
 af t48 h18 fun t49=>
 ay [(I 0),(I 0),(S ⟨#[]⟩),(.full 0 [])] [(0,1,(I 2)),(2,1,t49)] fun t50=>
 ab 1 t7 fun t51=>
 ak 4 t51 t50 h18 fun h19=>
 fh t7 (aq vs4 0) s5 h19 next4) (
 C aW [t21,(I 256)] h16 fun t23 h20=>
 ay [(I 0),(I 0),(S ⟨#[]⟩),(.full 0 [])] [(0,1,(I 1)),(1,1,t23)] fun t24=>
 ab 1 t7 fun t25=>
 ak 4 t25 t24 h20 fun h21=>
 fh t7 (aq vs4 0) s5 h21 next4)
def qX (s5 s4 s2:AV) (Q:QT) (vs4:List AV) (h:ae) (next4:NT):Prop:=
 ab 2 s2 fun t12=>
 af t12 h fun t13=>
 C aW [t13,(I 4)] h fun t14 h5=>
 ai .leq (aq vs4 0) t14 fun t15=>
 ifB t15 (
 ay [(I 0),(I 0),(I 0),(S ⟨#[]⟩),(.full 0 [])] [(0,1,(I (-1)))] fun t18=>
 cu [(I 0),(I 0),(I 0),(S ⟨#[]⟩),(.full 0 [])] h5 fun t7 h6=>
 ak 5 t7 t18 h6 fun h7=>
 ap 6 s2 h7 fun t19=>
 C iy [t19,(aq vs4 0)] h7 fun t21 h8=>
 C aW [t21,(I 6)] h8 fun t28 h9=>
 ai .eql t28 (I 0) fun t29=>
 ifB t29 (ab 4 s2 fun t31=>
 af t31 h9 fun t32=>
 aX t32 fun t33=>
 ai .gtr t33 (I 0) fun t34=>
 ifB t34 (
 ab 4 s2 fun t36=>
 af t36 h9 fun t37=>
 C oY [t37] h9 fun t38 h10=>
 ab 1 t7 fun t39=>
 ak 4 t39 t38 h10 fun h11=>
 fh t7 (aq vs4 0) s5 h11 next4) (
 jo t21 h9 t7 vs4 s5 next4)) (
 jo t21 h9 t7 vs4 s5 next4)) (
 ap 6 s5 h5 fun t58=>
 ak 6 s4 t58 h5 fun h28=>
 ap 6 s4 h28 fun r29=>
 Q r29 h28)
def xQ (a0 a1:AV) (h:ae) (Q:QT):Prop:=
 fe a0 h fun t2 h0=>
 cu [(I 0),(S ⟨#[]⟩),(I 0),(I 0),(S ⟨#[]⟩),(.full 0 [])] h0 fun t4 h1=>
 ay [(I 0),(S ⟨#[]⟩),(I 0),(I 0),(S ⟨#[]⟩),(.full 0 [])] [(0,1,(I 1)),(2,1,a1)] fun t10=>
 cu [(I 0),(S ⟨#[]⟩),(I 0),(I 0),(S ⟨#[]⟩),(.full 0 [])] h1 fun t5 h2=>
 ak 6 t5 t10 h2 fun h3=>
 cc [(I 0)] h3 fun vs4 h next4=>qX t5 t4 t2 Q vs4 h next4
theorem Cl (a0 a1:AV) (h:ae) (Q:QT) (k:xQ a0 a1 h Q):C nc [a0,a1] h Q:=
 okF (pl:=[(4,[6,7,8,11,12,13,14,15,16,17,18,19,20,21,22,23,24,25,26,27,28,29,30,31,32,33,34,35,36,37,38,39,40,41,42,43,44,45,46,47,48,49,50,51,52,53,54,55,56,57],[6])]) Tryz.func76 Tryz.ntmps76 (by kernel_rfl) rfl (by kernel_rfl) k
def vS (a0 a1:AV) (h:ae) (Q:QT):Prop:=
 fe a0 h fun t2 h0=>
 ab 3 t2 fun t6=>
 af t6 h0 fun t7=>
 aX t7 fun t8=>
 ai .lss a1 t8 fun t9=>
 ifB t9 (
 ab 3 t2 fun t10=>
 af t10 h0 fun t11=>
 an 1 t11 a1 fun t13=>
 af t13 h0 fun t14=>
 Q t14 h0) (
 ab 1 t2 fun t15=>
 af t15 h0 fun t16=>
 ai .add t16 a1 fun t18=>
 Q t18 h0)
theorem AR (a0 a1:AV) (h:ae) (Q:QT) (k:vS a0 a1 h Q):C iy [a0,a1] h Q:=
 okF (pl:=[]) Tryz.func74 Tryz.ntmps74 (by kernel_rfl) rfl (by kernel_rfl) k
def qG (s7 s6:AV) (h:ae) (Q:QT):Prop:=
 ap 5 s7 h fun t49=>
 ak 5 s6 t49 h fun h11=>
 ap 5 s6 h11 fun r12=>
 Q r12 h11
def ft (s7 s6:AV) (h:ae) (Q:QT):Prop:=
 qG s7 s6 h Q
def ji (a1:AV) (h8:ae) (a2 t7 t6:AV) (Q:QT):Prop:=
 bj a1 (I 0) fun t40=>
 ai .eql t40 (.lit (.int .u8 84)) fun t41=>
 ifB t41 (
 C gZ [] h8 fun t42 h15=>
 C aW [a2,(I 4)] h15 fun t44 h16=>
 an 1 t42 t44 fun t45=>
 af t45 h16 fun t46=>
 ay [(I 0),(I 0),(S ⟨#[]⟩),(.full 0 [])] [(0,1,(I 2)),(2,1,t46)] fun t47=>
 ab 1 t7 fun t48=>
 ak 4 t48 t47 h16 fun h17=>
 ft t7 t6 h17 Q) (
 C ly [a1,a2] h8 fun t18 h18=>
 C du [t18] h18 fun t19 h19=>
 C sV [t19] h19 fun t20 h20=>
 am 0 t20 fun t21=>
 am 1 t20 fun t22=>
 ab 1 t7 fun t23=>
 ak 4 t23 t21 h20 fun h21=>
 ft t7 t6 h21 Q)
def yx (a0 a1 a2:AV) (h:ae) (Q:QT):Prop:=
 fe a0 h fun t3 h0=>
 cu [(I 0),(I 0),(I 0),(S ⟨#[]⟩),(.full 0 [])] h0 fun t6 h1=>
 C ug [a1] h1 fun t9 h2=>
 ifB t9 (
 C ly [a1,a2] h2 fun t12 h3=>
 ay [(I 0),(I 0),(I 0),(S ⟨#[]⟩),(.full 0 [])] [(0,1,t12)] fun t13=>
 ak 5 t6 t13 h3 fun h4=>
 ap 5 t6 h4 fun r5=>
 Q r5 h4) (
 ay [(I 0),(I 0),(I 0),(S ⟨#[]⟩),(.full 0 [])] [(0,1,(I (-1)))] fun t14=>
 cu [(I 0),(I 0),(I 0),(S ⟨#[]⟩),(.full 0 [])] h2 fun t7 h6=>
 ak 5 t7 t14 h6 fun h7=>
 C aW [a2,(I 5)] h7 fun t26 h8=>
 ai .eql t26 (I 0) fun t27=>
 ifB t27 (ab 4 t3 fun t29=>
 af t29 h8 fun t30=>
 aX t30 fun t31=>
 ai .gtr t31 (I 0) fun t32=>
 ifB t32 (
 ab 4 t3 fun t34=>
 af t34 h8 fun t35=>
 C oY [t35] h8 fun t36 h9=>
 ab 1 t7 fun t37=>
 ak 4 t37 t36 h9 fun h10=>
 ft t7 t6 h10 Q) (
 ji a1 h8 a2 t7 t6 Q)) (
 ji a1 h8 a2 t7 t6 Q))
theorem B8 (a0 a1 a2:AV) (h:ae) (Q:QT) (k:yx a0 a1 a2 h Q):C mt [a0,a1,a2] h Q:=
 okF (pl:=[]) Tryz.func73 Tryz.ntmps73 (by kernel_rfl) rfl (by kernel_rfl) k
def uR (s7:AV) (h:ae) (Q:QT):Prop:=
 Q s7 h
def qk (s7:AV) (h:ae) (Q:QT):Prop:=
 uR s7 h Q
def Be (s10 s7 s8 s2:AV) (h:ae) (next0:NT) (Q:QT):Prop:=
 bJ s7 fun t45=>
 bJ s10 fun t47=>
 ai .add t45 t47 fun t48=>
 ai .add t48 (I 1) fun t49=>
 ai .gtr t49 s2 fun t51=>
 ifB t51 (
 qk s7 h Q) (
 ai .add s7 s10 fun t54=>
 ai .add t54 (S ⟨#[10]⟩) fun t55=>
 ai .add s8 (I 1) fun t16=>
 next0 [t55,t16] h)
def ki (s10 s7 s8 s2:AV) (h:ae) (next0:NT) (Q:QT):Prop:=
 Be s10 s7 s8 s2 h next0 Q
def p7 (s9 s7 s8 s0 s2:AV) (h:ae) (next0:NT) (Q:QT):Prop:=
 an 6 s0 s8 fun t28=>
 ap 6 t28 h fun t29=>
 C nC [t29] h fun t30 h2=>
 C vj [t30] h2 fun t31 h3=>
 ai .eql s9 (I 0) fun t34=>
 ifB t34 (
 ki (S ⟨#[]⟩) s7 s8 s2 h3 next0 Q) (
 ai .eql s9 (I 1) fun t36=>
 ifB t36 (
 ai .add (S ⟨#[35,32]⟩) t31 fun t38=>
 ki t38 s7 s8 s2 h3 next0 Q) (
 ai .eql s9 (I 2) fun t40=>
 ifB t40 (
 ai .add (S ⟨#[32,32]⟩) t31 fun t42=>
 ai .add t42 (S ⟨#[32,32,35,32,101,110,100]⟩) fun t43=>
 ki t43 s7 s8 s2 h3 next0 Q) (
 ki t31 s7 s8 s2 h3 next0 Q)))
def Bk (s0 s1 s2:AV) (Q:QT) (vs0:List AV) (h:ae) (next0:NT):Prop:=
 aX s0 fun t13=>
 ai .lss (aq vs0 1) t13 fun t14=>
 ifB t14 (
 aX s1 fun t19=>
 ai .lss (aq vs0 1) t19 fun t20=>
 ifB t20 (
 an 1 s1 (aq vs0 1) fun t23=>
 af t23 h fun t24=>
 C aW [t24,(I 24)] h fun t25 h1=>
 p7 t25 (aq vs0 0) (aq vs0 1) s0 s2 h1 next0 Q) (
 p7 (I 9) (aq vs0 0) (aq vs0 1) s0 s2 h next0 Q)) (
 qk (aq vs0 0) h Q)
def Kf (a0 a1 a2:AV) (h:ae) (Q:QT):Prop:=
 cc [(S ⟨#[]⟩),(I 0)] h fun vs0 h next0=>Bk a0 a1 a2 Q vs0 h next0
theorem Nm (a0 a1 a2:AV) (h:ae) (Q:QT) (k:Kf a0 a1 a2 h Q):C uV [a0,a1,a2] h Q:=
 okF (pl:=[(4,[7,8,9,10,11,12,13,14,15,16,17,18,19,20,21,22,23,24,25,26,27,28,29,30,31,32,33,34,35,36,37,38,39,40,41,42,43,44,45,46,47,48,49,50,51,52,53,54,55],[7,8])]) Tryz.func25 Tryz.ntmps25 (by kernel_rfl) rfl (by kernel_rfl) k
def zB (a0:AV) (h:ae) (Q:QT):Prop:=
 C ko [a0] h fun t4 h0=>
 Q t4 h0
theorem Dv (a0:AV) (h:ae) (Q:QT) (k:zB a0 h Q):C ug [a0] h Q:=
 okF (pl:=[]) Tryz.func103 Tryz.ntmps103 (by kernel_rfl) rfl (by kernel_rfl) k
def xw (s5:AV) (h:ae) (Q:QT):Prop:=
 Q s5 h
def Et (a0 a1:AV) (h:ae) (Q:QT):Prop:=
 ai .rem a0 a1 fun t8=>
 ai .lss t8 (I 0) fun t10=>
 ifB t10 (
 ai .add t8 a1 fun t13=>
 xw t13 h Q) (
 xw t8 h Q)
theorem Ga (a0 a1:AV) (h:ae) (Q:QT) (k:Et a0 a1 h Q):C aW [a0,a1] h Q:=
 okF (pl:=[]) Tryz.func40 Tryz.ntmps40 (by kernel_rfl) rfl (by kernel_rfl) k
def zA (s6 s4:AV) (h:ae) (Q:QT):Prop:=
 ap 4 s6 h fun t72=>
 ak 4 s4 t72 h fun h9=>
 ap 4 s4 h9 fun r10=>
 Q r10 h9
def d8 (s6 s4:AV) (h:ae) (Q:QT):Prop:=
 zA s6 s4 h Q
def oo (s7 s6 s5 s4 s0:AV) (h:ae) (Q:QT):Prop:=
 C ej [s0,(I 16)] h fun t34 h6=>
 ai .lss t34 (I 4) fun t39=>
 ifB t39 (
 ab 0 s6 fun t41=>
 ak 1 t41 (I 1) h6 fun h7=>
 ab 2 s6 fun t42=>
 ak 1 t42 s7 h7 fun h8=>
 d8 s6 s4 h8 Q) (
 ai .lss t34 (I 5) fun t45=>
 ifB t45 (
 ab 0 s6 fun t46=>
 ak 1 t46 (I 2) h6 fun h13=>
 d8 s6 s4 h13 Q) (
 ai .lss t34 (I 8) fun t49=>
 ifB t49 (
 ab 0 s6 fun t51=>
 ak 1 t51 (I 3) h6 fun h14=>
 ab 2 s6 fun t52=>
 ak 1 t52 s7 h14 fun h15=>
 d8 s6 s4 h15 Q) (
 ai .lss t34 (I 9) fun t55=>
 ifB t55 (
 ab 0 s6 fun t56=>
 ak 1 t56 (I 4) h6 fun h16=>
 d8 s6 s4 h16 Q) (
 ai .lss t34 (I 12) fun t59=>
 ifB t59 (
 ao 7 1 [(I 0),(I 1),(I 7),(I 300),(I (-1)),(I 1099511627776),(I (-1099511627776))] fun t60=>
 ai .quo s5 (I 12) fun t62=>
 ab 0 s6 fun t66=>
 C ej [t62,(I 7)] h6 fun t63 h17=>
 an 1 t60 t63 fun t64=>
 af t64 h17 fun t65=>
 ak 1 t66 (I 5) h17 fun h18=>
 (af t64 h18 fun _t=>
 _t=t65)∧
 ab 3 s6 fun t67=>
 ak 1 t67 t65 h18 fun h19=>
 d8 s6 s4 h19 Q) (
 ai .lss t34 (I 13) fun t70=>
 ifB t70 (
 ab 0 s6 fun t71=>
 ak 1 t71 (I 6) h6 fun h20=>
 d8 s6 s4 h20 Q) (
 ab 0 s6 fun t35=>
 ak 1 t35 (I 7) h6 fun h21=>
 ab 1 s6 fun t36=>
 ak 1 t36 (S ⟨#[]⟩) h21 fun h22=>
 d8 s6 s4 h22 Q))))))
def KY (a0 a1:AV) (h:ae) (Q:QT):Prop:=
 cu [(I 0),(S ⟨#[]⟩),(S ⟨#[]⟩),(I 0)] h fun t4 h0=>
 ai .quo a0 (I 16) fun t11=>
 C vN [t11] h0 fun t13 h1=>
 ay [(I 0),(S ⟨#[]⟩),(S ⟨#[]⟩),(I 0)] [(1,1,t13)] fun t14=>
 cu [(I 0),(S ⟨#[]⟩),(S ⟨#[]⟩),(I 0)] h1 fun t6 h2=>
 ak 4 t6 t14 h2 fun h3=>
 aX a1 fun t16=>
 ai .gtr t16 (I 0) fun t17=>
 ifB t17 (
 ai .quo t11 (I 12) fun t19=>
 aX a1 fun t21=>
 C ej [t19,t21] h3 fun t22 h4=>
 lu 6 a1 (some t22) none fun t25=>
 ai .quo t11 (I 5) fun t28=>
 ai .quo t11 (I 7) fun t30=>
 ao 3 1 [t11,t28,t30] fun t31=>
 C uV [t25,t31,(I 300)] h4 fun t32 h5=>
 oo t32 t6 t11 t4 a0 h5 Q) (
 oo (S ⟨#[]⟩) t6 t11 t4 a0 h3 Q)
theorem MJ (a0 a1:AV) (h:ae) (Q:QT) (k:KY a0 a1 h Q):C vC [a0,a1] h Q:=
 okF (pl:=[(1000018,[0,1,2,6,3,4,5,7,8,9],[])]) Tryz.func19 Tryz.ntmps19 (by kernel_rfl) rfl (by kernel_rfl) k
def Lc (a0:AV) (h:ae) (Q:QT):Prop:=
 ao 12 1 [(S ⟨#[109,97,105,110]⟩),(S ⟨#[97]⟩),(S ⟨#[98,49]⟩),(S ⟨#[120]⟩),(S ⟨#[108,105,98]⟩),(S ⟨#[101,110,100]⟩),(S ⟨#[99]⟩),(S ⟨#[100]⟩),(S ⟨#[101]⟩),(S ⟨#[102]⟩),(S ⟨#[98,97,115,101]⟩),(S ⟨#[107]⟩)] fun t3=>
 C ej [a0,(I 12)] h fun t5 h0=>
 an 1 t3 t5 fun t6=>
 af t6 h0 fun t7=>
 Q t7 h0
theorem Mo (a0:AV) (h:ae) (Q:QT) (k:Lc a0 h Q):C vN [a0] h Q:=
 okF (pl:=[]) Tryz.func34 Tryz.ntmps34 (by kernel_rfl) rfl (by kernel_rfl) k
def fW (t8:AV) (h10:ae) (Q:QT) (t7:AV) (vs3:List AV) (next3:NT):Prop:=
 ab 3 t8 fun t67=>
 af t67 h10 fun t68=>
 aX t68 fun t69=>
 ai .gtr t69 (I 0) fun t70=>
 ab 0 t8 fun t71=>
 af t71 h10 fun t72=>
 ai .eql t72 (I 14) fun t73=>
 Ef .neq t70 t73 fun t74=>
 ifB t74 (Q (B false) h10) (
 ab 0 t8 fun t77=>
 af t77 h10 fun t78=>
 ai .eql t78 (I 14) fun t79=>
 ifT t79 (ab 0 t7 fun t81=>
 af t81 h10 fun t82=>
 ai .neq t82 (I 7) fun t83=>
 ifB t83 (
 Q (B false) h10) (
 ai .add (aq vs3 1) (I 1) fun t26=>
 next3 [(aq vs3 0),t26] h10)) (
 ai .add (aq vs3 1) (I 1) fun t26=>
 next3 [(aq vs3 0),t26] h10) (
 ifB (.tup []) (ifB (.tup []) (
 Q (B false) h10) (
 ai .add (aq vs3 1) (I 1) fun t26=>
 next3 [(aq vs3 0),t26] h10)) (ai .add (aq vs3 1) (I 1) fun t26=>
 next3 [(aq vs3 0),t26] h10)))
def rD (Q:QT) (h10:ae) (vs3:List AV) (next3:NT):Prop:=
 ifB (.tup []) (Q (B false) h10) (ifB (.tup []) (Q (B false) h10) (ifB (.tup []) (
 Q (B false) h10) (
 ai .add (aq vs3 1) (I 1) fun t26=>
 next3 [(aq vs3 0),t26] h10)))
def jd (t8:AV) (h10:ae) (t7:AV) (Q:QT) (vs3:List AV) (next3:NT):Prop:=
 ab 2 t8 fun t51=>
 af t51 h10 fun t52=>
 aX t52 fun t53=>
 ai .gtr t53 (I 0) fun t54=>
 ifT t54 (ab 0 t7 fun t56=>
 af t56 h10 fun t57=>
 ai .neq t57 (I 7) fun t58=>
 ifT t58 (Q (B false) h10) (
 ab 0 t8 fun t60=>
 af t60 h10 fun t61=>
 ai .neq t61 (I 0) fun t62=>
 ifB t62 (Q (B false) h10) (
 fW t8 h10 Q t7 vs3 next3)) (
 ifB (.tup []) (Q (B false) h10) (rD Q h10 vs3 next3))) (
 fW t8 h10 Q t7 vs3 next3) (
 ifB (.tup []) (rD Q h10 vs3 next3) (fW t8 h10 Q t7 vs3 next3))
def qU (s5 s0 s1:AV) (Q:QT) (vs3:List AV) (h:ae) (next3:NT):Prop:=
 aX s0 fun t19=>
 ai .lss (aq vs3 1) t19 fun t20=>
 ifB t20 (ai .lss (aq vs3 1) (I 40) fun t23=>
 ifB t23 (
 an 1 s0 (aq vs3 1) fun t29=>
 af t29 h fun t30=>
 C ej [t30,(I 1073741824)] h fun t31 h4=>
 C vC [t31,s1] h4 fun t33 h5=>
 cu [(I 0),(S ⟨#[]⟩),(S ⟨#[]⟩),(I 0)] h5 fun t7 h6=>
 ak 4 t7 t33 h6 fun h7=>
 ap 4 t7 h7 fun t35=>
 C iP [s5,t35] h7 fun t36 h8=>
 cu [(I 0),(S ⟨#[]⟩),(.full 0 []),(.full 0 [])] h8 fun t8 h9=>
 ak 4 t8 t36 h9 fun h10=>
 ab 1 t8 fun t37=>
 af t37 h10 fun t38=>
 ai .neq t38 (S ⟨#[]⟩) fun t39=>
 ifB t39 (ab 0 t7 fun t41=>
 af t41 h10 fun t42=>
 ai .neq t42 (I 4) fun t43=>
 ifT t43 (Q (B false) h10) (
 ab 0 t8 fun t45=>
 af t45 h10 fun t46=>
 ai .neq t46 (I 0) fun t47=>
 ifB t47 (Q (B false) h10) (
 jd t8 h10 t7 Q vs3 next3)) (
 ifB (.tup []) (Q (B false) h10) (ifB (.tup []) (Q (B false) h10) (ifB (.tup []) (Q (B false) h10) (ifB (.tup []) (Q (B false) h10) (ifB (.tup []) (
 Q (B false) h10) (
 ai .add (aq vs3 1) (I 1) fun t26=>
 next3 [(aq vs3 0),t26] h10))))))) (
 jd t8 h10 t7 Q vs3 next3)) (
 Q (B true) h)) (
 Q (B true) h)
def xR (a0 a1:AV) (h:ae) (Q:QT):Prop:=
 C sL [] h fun t9 h0=>
 qUn .not t9 fun t10=>
 ifB t10 (
 Q (B false) h0) (
 C ya [a1] h0 fun t12 h1=>
 qUn .not t12 fun t13=>
 ifB t13 (
 Q (B true) h1) (
 C x8 [] h1 fun t14 h2=>
 Fa .eql t14 (.lit (.pointer none)) fun t16=>
 ifB t16 (
 Q (B false) h2) (
 cc [(B false),(I 0)] h2 fun vs3 h next3=>qU t14 a0 a1 Q vs3 h next3)))
theorem BF (a0 a1:AV) (h:ae) (Q:QT) (k:xR a0 a1 h Q):C mH [a0,a1] h Q:=
 okF (pl:=[(10,[4,6,7,8,17,18,19,20,21,22,23,24,25,26,27,28,29,30,31,32,33,34,35,36,37,38,39,40,41,42,43,44,45,46,47,48,49,50,51,52,53,54,55,56,57,58,59,60,61,62,63,64,65,66,67,68,69,70,71,72,73,74,75,76,77,78,79,80,81,82,83,84,85],[4,6])]) Tryz.func5 Tryz.ntmps5 (by kernel_rfl) rfl (by kernel_rfl) k
def xk (s5:AV) (h:ae) (Q:QT):Prop:=
 Q s5 h
def xt (a0 a1:AV) (h:ae) (Q:QT):Prop:=
 ai .rem a0 a1 fun t8=>
 ai .lss t8 (I 0) fun t10=>
 ifB t10 (
 ai .add t8 a1 fun t13=>
 xk t13 h Q) (
 xk t8 h Q)
theorem xp (a0 a1:AV) (h:ae) (Q:QT) (k:xt a0 a1 h Q):C ej [a0,a1] h Q:=
 okF (pl:=[]) Tryz.func20 Tryz.ntmps20 (by kernel_rfl) rfl (by kernel_rfl) k
def HO (a0:AV) (h:ae) (Q:QT):Prop:=
 C qa [a0,(S ⟨#[32]⟩)] h fun t8 h0=>
 am 0 t8 fun t9=>
 am 1 t8 fun t10=>
 am 2 t8 fun t11=>
 cu [(S ⟨#[]⟩),(S ⟨#[]⟩),(S ⟨#[]⟩)] h0 fun t3 h1=>
 ak 3 t3 t9 h1 fun h2=>
 ab 2 t3 fun t12=>
 af t12 h2 fun t13=>
 Q t13 h2
theorem I9 (a0:AV) (h:ae) (Q:QT) (k:HO a0 h Q):C oC [a0] h Q:=
 okF (pl:=[]) Tryz.func72 Tryz.ntmps72 (by kernel_rfl) rfl (by kernel_rfl) k
def J4 (a0:AV) (h:ae) (Q:QT):Prop:=
 C qa [a0,(S ⟨#[32]⟩)] h fun t8 h0=>
 am 0 t8 fun t9=>
 am 1 t8 fun t10=>
 am 2 t8 fun t11=>
 cu [(S ⟨#[]⟩),(S ⟨#[]⟩),(S ⟨#[]⟩)] h0 fun t3 h1=>
 ak 3 t3 t9 h1 fun h2=>
 ab 0 t3 fun t12=>
 af t12 h2 fun t13=>
 Q t13 h2
theorem MZ (a0:AV) (h:ae) (Q:QT) (k:J4 a0 h Q):C uO [a0] h Q:=
 okF (pl:=[]) Tryz.func99 Tryz.ntmps99 (by kernel_rfl) rfl (by kernel_rfl) k
def ref2_find_k1:ByteArray:=⟨#[115,101,95,105,108,108,101,103,97,108,58,48,48,48,48,58,124,115,101,95,105,115,121,110,99,58,48,48,48,49,58,124,115,101,95,115,99,58,48,48,48,50,58,124,115,101,95,98,108,114,58,48,48,48,52,58,124,115,101,95,98,99,116,114,58,48,48,48,54,58,124,115,101,95,110,111,116,58,48,48,50,48,58,88,124,115,101,95,110,101,103,58,48,48,51,48,58,88,124,115,101,95,109,102,108,114,58,48,48,56,48,58,88,124,115,101,95,109,116,108,114,58,48,48,57,48,58,88,124,115,101,95,109,102,99,116,114,58,48,48,97,48,58,88,124,115,101,95,109,116,99,116,114,58,48,48,98,48,58,88,124,115,101,95,101,120,116,122,98,58,48,48,99,48,58,88,124,115,101,95,101,120,116,115,98,58,48,48,100,48,58,88,124,115,101,95,101,120,116,122,104,58,48,48,101,48,58,88,124,115,101,95,101,120,116,115,104,58,48,48,102,48,58,88,124,115,101,95,109,114,58,48,49,48,48,58,88,32,89,124,115,101,95,97,100,100,58,48,52,48,48,58,88,32,89,124,115,101,95,109,117,108,108,119,58,48,53,48,48,58,88,32,89,124,115,101,95,115,117,98,58,48,54,48,48,58,88,32,89,124,115,101,95,99,109,112,58,48,99,48,48,58,88,32,89,124,115,101,95,99,109,112,108,58,48,100,48,48,58,88,32,89,124,115,101,95,97,100,100,105,58,50,48,48,48,58,88,32,79,53,124,115,101,95,99,109,112,108,105,58,50,50,48,48,58,88,32,79,53,124,115,101,95,115,117,98,105,58,50,52,48,48,58,88,32,79,53,124,115,101,95,99,109,112,105,58,50,97,48,48,58,88,32,85,53,124,115,101,95,111,114,58,52,52,48,48,58,88,32,89,124,115,101,95,97,110,100,99,58,52,53,48,48,58,88,32,89,124,115,101,95,97,110,100,58,52,54,48,48,58,88,32,89,124,115,101,95,108,105,58,52,56,48,48,58,88,32,85,55,124,115,101,95,98,99,108,114,105,58,54,48,48,48,58,88,32,85,53,124,115,101,95,98,115,101,116,105,58,54,52,48,48,58,88,32,85,53,124,115,101,95,98,116,115,116,105,58,54,54,48,48,58,88,32,85,53,124,115,101,95,115,114,119,105,58,54,56,48,48,58,88,32,85,53,124,115,101,95,115,108,119,105,58,54,99,48,48,58,88,32,85,53,124,115,101,95,108,98,122,58,56,48,48,48,58,89,32,77,49,32,88,124,115,101,95,115,116,98,58,57,48,48,48,58,89,32,77,49,32,88,124,115,101,95,108,104,122,58,97,48,48,48,58,89,32,77,50,32,88,124,115,101,95,115,116,104,58,98,48,48,48,58,89,32,77,50,32,88,124,115,101,95,108,119,122,58,99,48,48,48,58,89,32,77,52,32,88,124,115,101,95,115,116,119,58,100,48,48,48,58,89,32,77,52,32,88,124,115,101,95,98,99,58,101,48,48,48,58,79,49,32,73,50,32,84,56,124,115,101,95,98,58,101,56,48,48,58,84,56,124,115,101,95,98,108,58,101,57,48,48,58,84,56,124,101,95,97,100,100,49,54,105,58,49,99,48,48,48,48,48,48,58,68,32,65,32,83,49,54,124,101,95,97,100,100,105,58,49,56,48,48,56,48,48,48,58,68,32,65,32,67,56,124,101,95,97,110,100,105,58,49,56,48,48,99,48,48,48,58,65,32,68,32,67,56,124,101,95,111,114,105,58,49,56,48,48,100,48,48,48,58,65,32,68,32,67,56,124,101,95,120,111,114,105,58,49,56,48,48,101,48,48,48,58,65,32,68,32,67,56,124,101,95,108,105,58,55,48,48,48,48,48,48,48,58,68,32,76,50,48,124,101,95,108,98,122,58,51,48,48,48,48,48,48,48,58,68,32,83,49,54,32,65,124,101,95,115,116,98,58,51,52,48,48,48,48,48,48,58,68,32,83,49,54,32,65,124,101,95,108,104,97,58,51,56,48,48,48,48,48,48,58,68,32,83,49,54,32,65,124,101,95,108,119,122,58,53,48,48,48,48,48,48,48,58,68,32,83,49,54,32,65,124,101,95,115,116,119,58,53,52,48,48,48,48,48,48,58,68,32,83,49,54,32,65,124,101,95,108,104,122,58,53,56,48,48,48,48,48,48,58,68,32,83,49,54,32,65,124,101,95,115,116,104,58,53,99,48,48,48,48,48,48,58,68,32,83,49,54,32,65,124,101,95,98,58,55,56,48,48,48,48,48,48,58,84,50,52,124,101,95,98,108,58,55,56,48,48,48,48,48,49,58,84,50,52,124,101,95,98,99,58,55,97,48,48,48,48,48,48,58,79,50,32,73,52,32,84,49,53,124,101,95,98,99,108,58,55,97,48,48,48,48,48,49,58,79,50,32,73,52,32,84,49,53,124,97,100,100,58,55,99,48,48,48,50,49,52,58,68,32,65,32,66,124,115,117,98,102,58,55,99,48,48,48,48,53,48,58,68,32,65,32,66,124,109,117,108,108,119,58,55,99,48,48,48,49,100,54,58,68,32,65,32,66,124,97,110,100,58,55,99,48,48,48,48,51,56,58,65,32,68,32,66,124,111,114,58,55,99,48,48,48,51,55,56,58,65,32,68,32,66,124,120,111,114,58,55,99,48,48,48,50,55,56,58,65,32,68,32,66,124]⟩
def qi (s5 s6 s7 s8 s10 s11:AV) (h:ae) (next2:NT):Prop:=
 ai .add s11 (I 1) fun t15=>
 next2 [s5,s6,s7,s8,s10,t15] h
def j0 (s5 s6 s7 s8 s10 s11:AV) (h:ae) (next2:NT):Prop:=
 qi s5 s6 s7 s8 s10 s11 h next2
def pY (s9:AV) (h5:ae) (s4:AV) (Q:QT) (vs2:List AV):Prop:=
 cg 3 1 s9 (I 0) fun t45=>
 af t45 h5 fun t46=>
 cg 3 1 s9 (I 1) fun t47=>
 af t47 h5 fun t48=>
 cg 3 1 s9 (I 2) fun t49=>
 af t49 h5 fun t50=>
 ay [(S ⟨#[]⟩),(S ⟨#[]⟩),(S ⟨#[]⟩)] [(0,1,t46),(1,1,t48),(2,1,t50)] fun t51=>
 ak 3 s4 t51 h5 fun h6=>
 ap 3 s4 h6 fun r7=>
 Q (.tup [r7,(aq vs2 2),(B true)]) h6
def qb (vs2:List AV) (s9:AV) (h:ae) (s0 s4:AV) (Q:QT) (s1:AV) (next2:NT):Prop:=
 bl (S ref2_find_k1) (some (aq vs2 3)) (some (aq vs2 5)) fun t27=>
 cg 3 1 s9 (aq vs2 4) fun t28=>
 ak 1 t28 t27 h fun h5=>
 ai .add (aq vs2 5) (I 1) fun t30=>
 ai .add (aq vs2 4) (I 1) fun t32=>
 bj (S ref2_find_k1) (aq vs2 5) fun t34=>
 ai .eql t34 (.lit (.int .u8 124)) fun t35=>
 ifB t35 (
 ai .eql (aq vs2 2) s0 fun t38=>
 ifB t38 (pY s9 h5 s4 Q vs2) (
 cg 3 1 s9 (I 0) fun t40=>
 af t40 h5 fun t41=>
 ai .eql t41 s1 fun t43=>
 ifB t43 (
 pY s9 h5 s4 Q vs2) (
 ai .add (aq vs2 2) (I 1) fun t54=>
 j0 (aq vs2 0) (aq vs2 1) t54 t30 (I 0) (aq vs2 5) h5 next2))) (
 j0 (aq vs2 0) (aq vs2 1) (aq vs2 2) t30 t32 (aq vs2 5) h5 next2)
def kZ (s9 s4 s0 s1:AV) (Q:QT) (vs2:List AV) (h:ae) (next2:NT):Prop:=
 ai .lss (aq vs2 5) (I 1212) fun t13=>
 ifB t13 (
 bj (S ref2_find_k1) (aq vs2 5) fun t17=>
 ai .neq t17 (.lit (.int .u8 58)) fun t18=>
 ifB t18 (bj (S ref2_find_k1) (aq vs2 5) fun t21=>
 ai .neq t21 (.lit (.int .u8 124)) fun t22=>
 ifB t22 (
 j0 (aq vs2 0) (aq vs2 1) (aq vs2 2) (aq vs2 3) (aq vs2 4) (aq vs2 5) h next2) (
 qb vs2 s9 h s0 s4 Q s1 next2)) (
 qb vs2 s9 h s0 s4 Q s1 next2)) (
 ay [(S ⟨#[]⟩),(S ⟨#[]⟩),(S ⟨#[]⟩)] [] fun t55=>
 ak 3 s4 t55 h fun h15=>
 ap 3 s4 h15 fun r16=>
 Q (.tup [r16,(I 0),(B false)]) h15)
def Kq (a0 a1:AV) (h:ae) (Q:QT):Prop:=
 cu [(S ⟨#[]⟩),(S ⟨#[]⟩),(S ⟨#[]⟩)] h fun t4 h0=>
 cu [(S ⟨#[]⟩),(S ⟨#[]⟩),(S ⟨#[]⟩)] h0 fun t9 h1=>
 cc [(I 0),(B false),(I 0),(I 0),(I 0),(I 0)] h1 fun vs2 h next2=>kZ t9 t4 a0 a1 Q vs2 h next2
theorem MV (a0 a1:AV) (h:ae) (Q:QT) (k:Kq a0 a1 h Q):C qa [a0,a1] h Q:=
 okF (pl:=[(6,[5,6,7,8,10,11,12,13,14,15,16,17,18,19,20,21,22,23,24,25,26,27,28,29,30,31,32,33,34,35,36,37,38,39,40,41,42,43,44,45,46,47,48,49,50,51,52,53,54],[5,6,7,8,10,11])]) Tryz.func102 Tryz.ntmps102 (by kernel_rfl) rfl (by kernel_rfl) k
def xI (a0:AV) (h:ae) (Q:QT):Prop:=
 ai .lss a0 (I 0) fun t4=>
 ifB t4 (
 ai .sub (I 0) a0 fun t6=>
 C du [t6] h fun t7 h0=>
 ai .add (S ⟨#[45]⟩) t7 fun t8=>
 Q t8 h0) (
 ai .geq a0 (I 10) fun t10=>
 ifB t10 (
 ai .quo a0 (I 10) fun t12=>
 C du [t12] h fun t13 h1=>
 ai .rem a0 (I 10) fun t15=>
 C du [t15] h1 fun t16 h2=>
 ai .add t13 t16 fun t17=>
 Q t17 h2) (
 ai .add (I 48) a0 fun t19=>
 ck .u8 t19 fun t20=>
 ao 1 1 [t20] fun t21=>
 qr t21 h fun t22=>
 Q t22 h))
theorem xn (a0:AV) (h:ae) (Q:QT) (k:xI a0 h Q):C du [a0] h Q:=
 okF (pl:=[]) Tryz.func69 Tryz.ntmps69 (by kernel_rfl) rfl (by kernel_rfl) k
def zL (t2:AV) (h5:ae) (Q:QT):Prop:=
 ay [(I 0),(I 0),(S ⟨#[]⟩),(.full 0 [])] [] fun t26=>
 ak 4 t2 t26 h5 fun h6=>
 ap 4 t2 h6 fun r7=>
 Q (.tup [r7,(B false)]) h6
def IC (a0:AV) (h:ae) (Q:QT):Prop:=
 cu [(I 0),(I 0),(S ⟨#[]⟩),(.full 0 [])] h fun t2 h0=>
 ay [(S ⟨#[]⟩),(I 0),(I 0),(B false)] [(0,1,a0)] fun t7=>
 fe t7 h0 fun t8 h1=>
 C cG [t8,(I 0)] h1 fun t10 h2=>
 cu [(I 0),(I 0),(S ⟨#[]⟩),(.full 0 [])] h2 fun t5 h3=>
 ak 4 t5 t10 h3 fun h4=>
 C gI [t8] h4 fun t12 h5=>
 aE t8 fun t14=>
 ab 3 t14 fun t15=>
 af t15 h5 fun t16=>
 ifB t16 (zL t2 h5 Q) (
 aE t8 fun t19=>
 ab 1 t19 fun t20=>
 af t20 h5 fun t21=>
 bJ a0 fun t23=>
 ai .lss t21 t23 fun t24=>
 ifB t24 (
 zL t2 h5 Q) (
 ap 4 t5 h5 fun t27=>
 ak 4 t2 t27 h5 fun h10=>
 ap 4 t2 h10 fun r11=>
 Q (.tup [r11,(B true)]) h10))
theorem IY (a0:AV) (h:ae) (Q:QT) (k:IC a0 h Q):C sV [a0] h Q:=
 okF (pl:=[]) Tryz.func105 Tryz.ntmps105 (by kernel_rfl) rfl (by kernel_rfl) k
def Ka (a0:AV) (h:ae) (Q:QT):Prop:=
 fe a0 h fun t1 h0=>
 ab 0 t1 fun t5=>
 af t5 h0 fun t6=>
 ai .eql t6 (I 1) fun t8=>
 ifB t8 (
 ab 1 t1 fun t9=>
 af t9 h0 fun t10=>
 C du [t10] h0 fun t11 h1=>
 Q t11 h1) (
 ai .eql t6 (I 2) fun t13=>
 ifB t13 (
 ab 2 t1 fun t14=>
 af t14 h0 fun t15=>
 Q t15 h0) (
 ai .eql t6 (I 3) fun t17=>
 ifB t17 (
 Q (S ⟨#[46]⟩) h0) (
 ai .eql t6 (I 4) fun t19=>
 ifB t19 (
 ab 3 t1 fun t20=>
 af t20 h0 fun t21=>
 an 4 t21 (I 0) fun t22=>
 ap 4 t22 h0 fun t23=>
 C dt [t23] h0 fun t24 h2=>
 ai .add (S ⟨#[45]⟩) t24 fun t25=>
 Q t25 h2) (
 ab 0 t1 fun t27=>
 af t27 h0 fun t28=>
 C pX [t28] h0 fun t29 h3=>
 am 0 t29 fun t30=>
 am 1 t29 fun t31=>
 ab 3 t1 fun t32=>
 af t32 h3 fun t33=>
 an 4 t33 (I 0) fun t34=>
 ap 4 t34 h3 fun t35=>
 ab 3 t1 fun t41=>
 af t41 h3 fun t42=>
 an 4 t42 (I 1) fun t43=>
 ap 4 t43 h3 fun t44=>
 C dt [t35] h3 fun t36 h4=>
 (ap 4 t43 h4 fun _t=>
 _t=t44)∧
 (af t41 h4 fun _t=>
 _t=t42)∧
 ai .add t36 (S ⟨#[32]⟩) fun t37=>
 ai .add t37 t30 fun t39=>
 ai .add t39 (S ⟨#[32]⟩) fun t40=>
 C dt [t44] h4 fun t45 h5=>
 ai .add t40 t45 fun t46=>
 Q t46 h5))))
theorem LH (a0:AV) (h:ae) (Q:QT) (k:Ka a0 h Q):C mR [a0] h Q:=
 okF (pl:=[(1000011,[0,1,2,3,6,9,10,11,12,4,5,7,8,13,14,15],[])]) Tryz.func70 Tryz.ntmps70 (by kernel_rfl) rfl (by kernel_rfl) k
def pS (s3 s2 s4:AV) (h:ae) (next0:NT):Prop:=
 ai .add s4 (I 1) fun t28=>
 next0 [s2,s3,t28] h
def io (s3 s2 s4:AV) (h:ae) (next0:NT):Prop:=
 pS s3 s2 s4 h next0
def vk (t61:AV) (vs0:List AV) (h:ae) (next0:NT):Prop:=
 ifB t61 (
 io (B false) (aq vs0 0) (aq vs0 2) h next0) (
 io (aq vs0 1) (aq vs0 0) (aq vs0 2) h next0)
def ql (vs0:List AV) (h:ae) (next0:NT):Prop:=
 ai .gtr (aq vs0 2) (I 0) fun t58=>
 ifB t58 (qUn .not (B false) fun t61=>
 vk t61 vs0 h next0) (
 io (aq vs0 1) (aq vs0 0) (aq vs0 2) h next0)
def jT (vs0:List AV) (t36:AV) (h:ae) (next0:NT):Prop:=
 ai .gtr (aq vs0 2) (I 0) fun t58=>
 ifB t58 (qUn .not t36 fun t61=>
 vk t61 vs0 h next0) (
 io (aq vs0 1) (aq vs0 0) (aq vs0 2) h next0)
def mV (t44 t31:AV) (vs0:List AV) (Q:QT) (h:ae) (t36:AV) (next0:NT):Prop:=
 ifB t44 (ai .neq t31 (.lit (.int .u8 95)) fun t47=>
 ifB t47 (ai .eql (aq vs0 2) (I 0) fun t51=>
 ifT t51 (Q (B false) h) (
 qUn .not t36 fun t54=>
 ifB t54 (
 Q (B false) h) (
 jT vs0 t36 h next0)) (
 ifB (.tup []) (Q (B false) h) (ifB (.tup []) (
 Q (B false) h) (
 jT vs0 t36 h next0)))) (
 jT vs0 t36 h next0)) (
 jT vs0 t36 h next0)
def Ck (t44 t31:AV) (vs0:List AV) (Q:QT) (h:ae) (next0:NT):Prop:=
 ifB t44 (ai .neq t31 (.lit (.int .u8 95)) fun t47=>
 ifB t47 (ai .eql (aq vs0 2) (I 0) fun t51=>
 ifT t51 (Q (B false) h) (
 qUn .not (B false) fun t54=>
 ifB t54 (
 Q (B false) h) (
 ql vs0 h next0)) (
 ifB (.tup []) (Q (B false) h) (ifB (.tup []) (
 Q (B false) h) (
 ql vs0 h next0)))) (
 ql vs0 h next0)) (
 ql vs0 h next0)
def iG (s0:AV) (Q:QT) (vs0:List AV) (h:ae) (next0:NT):Prop:=
 bJ s0 fun t25=>
 ai .lss (aq vs0 2) t25 fun t26=>
 ifB t26 (
 bj s0 (aq vs0 2) fun t31=>
 ai .geq t31 (.lit (.int .u8 48)) fun t33=>
 ifB t33 (ai .leq t31 (.lit (.int .u8 57)) fun t36=>
 ai .geq t31 (.lit (.int .u8 97)) fun t39=>
 ifB t39 (ai .leq t31 (.lit (.int .u8 122)) fun t42=>
 qUn .not t42 fun t44=>
 mV t44 t31 vs0 Q h t36 next0) (
 qUn .not (B false) fun t44=>
 mV t44 t31 vs0 Q h t36 next0)) (
 ai .geq t31 (.lit (.int .u8 97)) fun t39=>
 ifB t39 (ai .leq t31 (.lit (.int .u8 122)) fun t42=>
 qUn .not t42 fun t44=>
 Ck t44 t31 vs0 Q h next0) (
 qUn .not (B false) fun t44=>
 Ck t44 t31 vs0 Q h next0))) (
 qUn .not (aq vs0 1) fun t64=>
 Q t64 h)
def Kk (a0:AV) (h:ae) (Q:QT):Prop:=
 bJ a0 fun t8=>
 ai .lss t8 (I 1) fun t9=>
 ifB t9 (Q (B false) h) (
 bJ a0 fun t12=>
 ai .gtr t12 (I 12) fun t13=>
 ifB t13 (
 Q (B false) h) (
 bj a0 (I 0) fun t16=>
 ai .eql t16 (.lit (.int .u8 114)) fun t17=>
 ifB t17 (bJ a0 fun t20=>
 ai .gtr t20 (I 1) fun t21=>
 cc [(B false),t21,(I 0)] h fun vs0 h next0=>iG a0 Q vs0 h next0) (
 cc [(B false),(B false),(I 0)] h fun vs4 h next4=>iG a0 Q vs4 h next4)))
theorem Np (a0:AV) (h:ae) (Q:QT) (k:Kk a0 h Q):C mD [a0] h Q:=
 okF (pl:=[(6,[2,3,4,5,6,23,24,25,26,27,28,29,30,31,32,33,34,35,36,37,38,39,40,41,42,43,44,45,46,47,48,49,50,51,52,53,54,55,56,57,58,59,60,61,62],[2,3,4])]) Tryz.func249 Tryz.ntmps249 (by kernel_rfl) rfl (by kernel_rfl) k
def xH (a0:AV) (h:ae) (Q:QT):Prop:=
 fe a0 h fun t1 h0=>
 ab 3 t1 fun t3=>
 af t3 h0 fun t4=>
 aX t4 fun t5=>
 ai .eql t5 (I 2) fun t6=>
 ifB t6 (
 ap 4 t1 h0 fun t7=>
 C mR [t7] h0 fun t8 h1=>
 ai .add (S ⟨#[40]⟩) t8 fun t9=>
 ai .add t9 (S ⟨#[41]⟩) fun t10=>
 Q t10 h1) (
 ap 4 t1 h0 fun t11=>
 C mR [t11] h0 fun t12 h2=>
 Q t12 h2)
theorem BJ (a0:AV) (h:ae) (Q:QT) (k:xH a0 h Q):C dt [a0] h Q:=
 okF (pl:=[]) Tryz.func100 Tryz.ntmps100 (by kernel_rfl) rfl (by kernel_rfl) k
def zH (a1 a0:AV) (Q:QT) (h:ae):Prop:=
 ai .eql a1 (I 16) fun t17=>
 ifB t17 (ai .geq a0 (.lit (.int .u8 97)) fun t20=>
 ifB t20 (ai .leq a0 (.lit (.int .u8 102)) fun t24=>
 ifB t24 (
 ai .sub a0 (.lit (.int .u8 97)) fun t27=>
 ck .i64 t27 fun t28=>
 ai .add t28 (I 10) fun t29=>
 Q t29 h) (
 Q (I (-1)) h)) (
 Q (I (-1)) h)) (
 Q (I (-1)) h)
def Ie (a0 a1:AV) (h:ae) (Q:QT):Prop:=
 ai .geq a0 (.lit (.int .u8 48)) fun t7=>
 ifB t7 (ai .leq a0 (.lit (.int .u8 57)) fun t10=>
 ifB t10 (
 ai .sub a0 (.lit (.int .u8 48)) fun t13=>
 ck .i64 t13 fun t14=>
 Q t14 h) (
 zH a1 a0 Q h)) (
 zH a1 a0 Q h)
theorem Jj (a0 a1:AV) (h:ae) (Q:QT) (k:Ie a0 a1 h Q):C kV [a0,a1] h Q:=
 okF (pl:=[]) Tryz.func229 Tryz.ntmps229 (by kernel_rfl) rfl (by kernel_rfl) k
def dX (s5 s4 s0:AV) (h:ae) (Q:QT):Prop:=
 aE s0 fun t36=>
 ab 2 t36 fun t37=>
 af t37 h fun t38=>
 ai .sub t38 (I 1) fun t39=>
 aE s0 fun t40=>
 ab 2 t40 fun t41=>
 ak 1 t41 t39 h fun h10=>
 ap 4 s5 h10 fun t42=>
 ak 4 s4 t42 h10 fun h11=>
 ap 4 s4 h11 fun r12=>
 Q r12 h11
def jp (a0 a1:AV) (h:ae) (Q:QT):Prop:=
 cu [(I 0),(I 0),(S ⟨#[]⟩),(.full 0 [])] h fun t4 h0=>
 aE a0 fun t7=>
 ab 2 t7 fun t8=>
 af t8 h0 fun t9=>
 ai .geq t9 (I 12) fun t10=>
 ifB t10 (
 aE a0 fun t12=>
 ab 3 t12 fun t13=>
 ak 1 t13 (B true) h0 fun h1=>
 ay [(I 0),(I 0),(S ⟨#[]⟩),(.full 0 [])] [] fun t14=>
 ak 4 t4 t14 h1 fun h2=>
 ap 4 t4 h2 fun r3=>
 Q r3 h2) (
 aE a0 fun t16=>
 ab 2 t16 fun t17=>
 af t17 h0 fun t18=>
 ai .add t18 (I 1) fun t19=>
 aE a0 fun t20=>
 ab 2 t20 fun t21=>
 ak 1 t21 t19 h0 fun h4=>
 cu [(I 0),(I 0),(S ⟨#[]⟩),(.full 0 [])] h4 fun t5 h5=>
 ifB a1 (
 C cG [a0,(I 0)] h5 fun t24 h6=>
 ak 4 t5 t24 h6 fun h7=>
 C cS [a0,(S ⟨#[41]⟩)] h7 fun t26 h8=>
 qUn .not t26 fun t27=>
 ifB t27 (
 aE a0 fun t29=>
 ab 3 t29 fun t30=>
 ak 1 t30 (B true) h8 fun h9=>
 dX t5 t4 a0 h9 Q) (
 dX t5 t4 a0 h8 Q)) (
 C df [a0] h5 fun t32 h14=>
 ao 1 4 [t32] fun t33=>
 ay [(I 0),(I 0),(S ⟨#[]⟩),(.full 0 [])] [(0,1,(I 4)),(3,1,t33)] fun t34=>
 ak 4 t5 t34 h14 fun h15=>
 dX t5 t4 a0 h15 Q))
theorem jF (a0 a1:AV) (h:ae) (Q:QT) (k:jp a0 a1 h Q):C ce [a0,a1] h Q:=
 okF (pl:=[]) Tryz.func227 Tryz.ntmps227 (by kernel_rfl) rfl (by kernel_rfl) k
def xu (a0 a1:AV) (h:ae) (Q:QT):Prop:=
 C gI [a0] h fun t6 h0=>
 aE a0 fun t8=>
 ab 1 t8 fun t9=>
 af t9 h0 fun t10=>
 bJ a1 fun t12=>
 ai .add t10 t12 fun t13=>
 aE a0 fun t15=>
 ab 0 t15 fun t16=>
 af t16 h0 fun t17=>
 bJ t17 fun t18=>
 ai .gtr t13 t18 fun t19=>
 ifB t19 (Q (B false) h0) (
 aE a0 fun t22=>
 ab 0 t22 fun t23=>
 af t23 h0 fun t24=>
 aE a0 fun t26=>
 ab 1 t26 fun t27=>
 af t27 h0 fun t28=>
 aE a0 fun t30=>
 ab 1 t30 fun t31=>
 af t31 h0 fun t32=>
 bJ a1 fun t34=>
 ai .add t32 t34 fun t35=>
 bl t24 (some t28) (some t35) fun t36=>
 ai .neq t36 a1 fun t38=>
 ifB t38 (
 Q (B false) h0) (
 aE a0 fun t42=>
 ab 1 t42 fun t43=>
 af t43 h0 fun t44=>
 bJ a1 fun t46=>
 ai .add t44 t46 fun t47=>
 aE a0 fun t48=>
 ab 1 t48 fun t49=>
 ak 1 t49 t47 h0 fun h1=>
 Q (B true) h1))
theorem Bu (a0 a1:AV) (h:ae) (Q:QT) (k:xu a0 a1 h Q):C cS [a0,a1] h Q:=
 okF (pl:=[(1000002,[0,1,2,3,4,5,6,7,8,9,10,11,12,13,14,15,16,17,18,19,20,21,22,23,24,25,26,27,28,29,30,31,32],[])]) Tryz.func226 Tryz.ntmps226 (by kernel_rfl) rfl (by kernel_rfl) k
def kO (s0 s1:AV) (Q:QT) (vs0:List AV) (h:ae) (next0:NT):Prop:=
 ai .leq (aq vs0 1) (I 11) fun t9=>
 ifB t9 (
 C pX [(aq vs0 1)] h fun t14 h1=>
 am 0 t14 fun t15=>
 am 1 t14 fun t16=>
 ai .eql t16 s1 fun t19=>
 ifB t19 (aE s0 fun t22=>
 ab 3 t22 fun t23=>
 af t23 h1 fun t24=>
 qUn .not t24 fun t25=>
 ifB t25 (C cS [s0,t15] h1 fun t30 h2=>
 ifB t30 (
 Q (aq vs0 1) h2) (
 ai .add (aq vs0 1) (I 1) fun t11=>
 next0 [(aq vs0 0),t11] h2)) (
 ai .add (aq vs0 1) (I 1) fun t11=>
 next0 [(aq vs0 0),t11] h1)) (
 ai .add (aq vs0 1) (I 1) fun t11=>
 next0 [(aq vs0 0),t11] h1)) (
 Q (I 0) h)
def nL (a0 a1:AV) (h:ae) (Q:QT):Prop:=
 cc [(I 0),(I 5)] h fun vs0 h next0=>kO a0 a1 Q vs0 h next0
theorem pI (a0 a1:AV) (h:ae) (Q:QT) (k:nL a0 a1 h Q):C gJ [a0,a1] h Q:=
 okF (pl:=[(3,[4,5,6,7,8,9,10,11,12,13,14,15,16,17,18,19,20,21,22,23,24,25,26,27,28,29,30,31,32],[4,5])]) Tryz.func187 Tryz.ntmps187 (by kernel_rfl) rfl (by kernel_rfl) k
def eU (s5 s4:AV) (h:ae) (Q:QT):Prop:=
 ay [(I 0),(I 0),(S ⟨#[]⟩),(.full 0 [])] [(0,1,(I 1)),(1,1,s5)] fun t73=>
 ak 4 s4 t73 h fun h9=>
 ap 4 s4 h9 fun r10=>
 Q r10 h9
def fE (s0:AV) (h2:ae) (s6:AV) (vs1:List AV) (s4:AV) (Q:QT):Prop:=
 aE s0 fun t65=>
 ab 1 t65 fun t66=>
 af t66 h2 fun t67=>
 ai .eql s6 t67 fun t68=>
 ifB t68 (
 aE s0 fun t70=>
 ab 3 t70 fun t71=>
 ak 1 t71 (B true) h2 fun h8=>
 eU (aq vs1 0) s4 h8 Q) (
 eU (aq vs1 0) s4 h2 Q)
def mC (s6 s4 s0 s1:AV) (Q:QT) (vs1:List AV) (h:ae) (next1:NT):Prop:=
 aE s0 fun t12=>
 ab 1 t12 fun t13=>
 af t13 h fun t14=>
 aE s0 fun t16=>
 ab 0 t16 fun t17=>
 af t17 h fun t18=>
 bJ t18 fun t19=>
 ai .lss t14 t19 fun t20=>
 ifB t20 (aE s0 fun t23=>
 ab 0 t23 fun t24=>
 af t24 h fun t25=>
 aE s0 fun t27=>
 ab 1 t27 fun t28=>
 af t28 h fun t29=>
 bj t25 t29 fun t30=>
 C kV [t30,s1] h fun t32 h2=>
 ai .geq t32 (I 0) fun t33=>
 ifB t33 (
 ai .mul s1 (aq vs1 0) fun t37=>
 aE s0 fun t39=>
 ab 0 t39 fun t40=>
 af t40 h2 fun t41=>
 aE s0 fun t43=>
 ab 1 t43 fun t44=>
 af t44 h2 fun t45=>
 bj t41 t45 fun t46=>
 C kV [t46,s1] h2 fun t48 h3=>
 ai .add t37 t48 fun t49=>
 aE s0 fun t51=>
 ab 1 t51 fun t52=>
 af t52 h3 fun t53=>
 ai .add t53 (I 1) fun t54=>
 aE s0 fun t55=>
 ab 1 t55 fun t56=>
 ak 1 t56 t54 h3 fun h4=>
 ai .geq t49 (I 4294967296) fun t58=>
 ifB t58 (
 aE s0 fun t60=>
 ab 3 t60 fun t61=>
 ak 1 t61 (B true) h4 fun h5=>
 ay [(I 0),(I 0),(S ⟨#[]⟩),(.full 0 [])] [] fun t62=>
 ak 4 s4 t62 h5 fun h6=>
 ap 4 s4 h6 fun r7=>
 Q r7 h6) (
 next1 [t49] h4)) (
 fE s0 h2 s6 vs1 s4 Q)) (
 fE s0 h s6 vs1 s4 Q)
def qI (a0 a1:AV) (h:ae) (Q:QT):Prop:=
 cu [(I 0),(I 0),(S ⟨#[]⟩),(.full 0 [])] h fun t4 h0=>
 aE a0 fun t8=>
 ab 1 t8 fun t9=>
 af t9 h0 fun t10=>
 cc [(I 0)] h0 fun vs1 h next1=>mC t10 t4 a0 a1 Q vs1 h next1
theorem wm (a0 a1:AV) (h:ae) (Q:QT) (k:qI a0 a1 h Q):C fC [a0,a1] h Q:=
 okF (pl:=[(1000001,[0,1,2,3,4,5],[]),(3,[5,11,12,13,14,15,16,17,18,19,20,21,22,23,24,25,26,27,28,29,30,31,32,33,34,35,36,37,38,39,40,41,42,43,44,45,46,47,48,49,50,51,52,53,54,55,56,57,58,59,60,61,62],[5]),(1000002,[0,1,2,3,4,5,6,7,8,9,10,11,12,13,14,15,16,17,18,19,20,21,22,23],[]),(1000003,[0,1,2,3,4,5,6,7,8,9,10,11,12,13,14,15],[])]) Tryz.func228 Tryz.ntmps228 (by kernel_rfl) rfl (by kernel_rfl) k
def wh (a0:AV) (h:ae) (Q:QT):Prop:=
 cu [(I 0),(I 0),(S ⟨#[]⟩),(.full 0 [])] h fun t2 h0=>
 aE a0 fun t4=>
 ab 3 t4 fun t5=>
 af t5 h0 fun t6=>
 ifB t6 (
 ay [(I 0),(I 0),(S ⟨#[]⟩),(.full 0 [])] [] fun t7=>
 ak 4 t2 t7 h0 fun h1=>
 ap 4 t2 h1 fun r2=>
 Q r2 h1) (
 C cS [a0,(S ⟨#[40]⟩)] h0 fun t10 h3=>
 ifB t10 (
 C ce [a0,(B true)] h3 fun t12 h4=>
 ak 4 t2 t12 h4 fun h5=>
 ap 4 t2 h5 fun r6=>
 Q r6 h5) (
 C cS [a0,(S ⟨#[45]⟩)] h3 fun t15 h7=>
 ifB t15 (
 C ce [a0,(B false)] h7 fun t17 h8=>
 ak 4 t2 t17 h8 fun h9=>
 ap 4 t2 h9 fun r10=>
 Q r10 h9) (
 C cS [a0,(S ⟨#[46]⟩)] h7 fun t20 h11=>
 ifB t20 (
 ay [(I 0),(I 0),(S ⟨#[]⟩),(.full 0 [])] [(0,1,(I 3))] fun t21=>
 ak 4 t2 t21 h11 fun h12=>
 ap 4 t2 h12 fun r13=>
 Q r13 h12) (
 C cS [a0,(S ⟨#[48,120]⟩)] h11 fun t24 h14=>
 ifB t24 (
 C fC [a0,(I 16)] h14 fun t26 h15=>
 ak 4 t2 t26 h15 fun h16=>
 ap 4 t2 h16 fun r17=>
 Q r17 h16) (
 aE a0 fun t29=>
 ab 1 t29 fun t30=>
 af t30 h14 fun t31=>
 aE a0 fun t33=>
 ab 0 t33 fun t34=>
 af t34 h14 fun t35=>
 bJ t35 fun t36=>
 ai .lss t31 t36 fun t37=>
 ifB t37 (aE a0 fun t40=>
 ab 0 t40 fun t41=>
 af t41 h14 fun t42=>
 aE a0 fun t44=>
 ab 1 t44 fun t45=>
 af t45 h14 fun t46=>
 bj t42 t46 fun t47=>
 C kV [t47,(I 10)] h14 fun t48 h18=>
 ai .geq t48 (I 0) fun t49=>
 ifB t49 (
 C fC [a0,(I 10)] h18 fun t52 h19=>
 ak 4 t2 t52 h19 fun h20=>
 ap 4 t2 h20 fun r21=>
 Q r21 h20) (
 C gG [a0] h18 fun t54 h22=>
 ak 4 t2 t54 h22 fun h23=>
 ap 4 t2 h23 fun r24=>
 Q r24 h23)) (
 C gG [a0] h14 fun t54 h25=>
 ak 4 t2 t54 h25 fun h26=>
 ap 4 t2 h26 fun r27=>
 Q r27 h26))))))
theorem A3 (a0:AV) (h:ae) (Q:QT) (k:wh a0 h Q):C df [a0] h Q:=
 okF (pl:=[(1000011,[0,1,2,3,4,5,6,7,8,9,10,11,12,13,14,15,16,17,18,19,20,21,22,23],[])]) Tryz.func186 Tryz.ntmps186 (by kernel_rfl) rfl (by kernel_rfl) k
def pA (s0:AV) (Q:QT) (h:ae) (next0:NT):Prop:=
 aE s0 fun t3=>
 ab 1 t3 fun t4=>
 af t4 h fun t5=>
 aE s0 fun t7=>
 ab 0 t7 fun t8=>
 af t8 h fun t9=>
 bJ t9 fun t10=>
 ai .lss t5 t10 fun t11=>
 ifB t11 (aE s0 fun t14=>
 ab 0 t14 fun t15=>
 af t15 h fun t16=>
 aE s0 fun t18=>
 ab 1 t18 fun t19=>
 af t19 h fun t20=>
 bj t16 t20 fun t21=>
 ai .eql t21 (.lit (.int .u8 32)) fun t22=>
 ifB t22 (
 aE s0 fun t25=>
 ab 1 t25 fun t26=>
 af t26 h fun t27=>
 ai .add t27 (I 1) fun t28=>
 aE s0 fun t29=>
 ab 1 t29 fun t30=>
 ak 1 t30 t28 h fun h1=>
 next0 [] h1) (
 Q (.tup []) h)) (
 Q (.tup []) h)
def tG (a0:AV) (h:ae) (Q:QT):Prop:=
 cc [] h fun _ h next0=>pA a0 Q h next0
theorem y8 (a0:AV) (h:ae) (Q:QT) (k:tG a0 h Q):C gI [a0] h Q:=
 okF (pl:=[(1,[2,3,4,5,6,7,8,9,10,11,12,13,14,15,16,17,18,19,20,21,22,23,24,25,26,27,28,29,30],[]),(1000000,[0,1,2,3,4,5,6,7,8,9,10,11,12,13,14,15,16,17,18,19,20,21],[])]) Tryz.func133 Tryz.ntmps133 (by kernel_rfl) rfl (by kernel_rfl) k
def kL (s5 s4 s0 s1:AV) (Q:QT) (h:ae) (next7:NT):Prop:=
 C gJ [s0,s1] h fun t17 h8=>
 ai .eql t17 (I 0) fun t19=>
 ifB t19 (
 ap 4 s5 h8 fun t20=>
 ak 4 s4 t20 h8 fun h9=>
 ap 4 s4 h9 fun r10=>
 Q r10 h9) (
 ap 4 s5 h8 fun t22=>
 ai .add s1 (I 1) fun t25=>
 C cG [s0,t25] h8 fun t26 h11=>
 (ap 4 s5 h11 fun _t=>
 _t=t22)∧
 ao 2 4 [t22,t26] fun t27=>
 ay [(I 0),(I 0),(S ⟨#[]⟩),(.full 0 [])] [(0,1,t17),(3,1,t27)] fun t28=>
 ak 4 s5 t28 h11 fun h12=>
 next7 [] h12)
def pq (a0 a1:AV) (h:ae) (Q:QT):Prop:=
 cu [(I 0),(I 0),(S ⟨#[]⟩),(.full 0 [])] h fun t4 h0=>
 ai .gtr a1 (I 4) fun t8=>
 ifB t8 (
 C df [a0] h0 fun t10 h1=>
 ak 4 t4 t10 h1 fun h2=>
 ap 4 t4 h2 fun r3=>
 Q r3 h2) (
 ai .add a1 (I 1) fun t13=>
 C cG [a0,t13] h0 fun t14 h4=>
 cu [(I 0),(I 0),(S ⟨#[]⟩),(.full 0 [])] h4 fun t5 h5=>
 ak 4 t5 t14 h5 fun h6=>
 cc [] h6 fun _ h next7=>kL t5 t4 a0 a1 Q h next7)
theorem qT (a0 a1:AV) (h:ae) (Q:QT) (k:pq a0 a1 h Q):C cG [a0,a1] h Q:=
 okF (pl:=[(5,[6,15,16,17,18,19,20,21,22,23,24,25,26,27,28],[]),(1000007,[0,1,2,3,4,5,6,7,8],[])]) Tryz.func132 Tryz.ntmps132 (by kernel_rfl) rfl (by kernel_rfl) k
def cn (s3 s2 s0:AV) (h:ae) (Q:QT):Prop:=
 aE s0 fun t101=>
 ab 0 t101 fun t102=>
 af t102 h fun t103=>
 aE s0 fun t106=>
 ab 1 t106 fun t107=>
 af t107 h fun t108=>
 bl t103 (some s3) (some t108) fun t109=>
 ay [(I 0),(I 0),(S ⟨#[]⟩),(.full 0 [])] [(0,1,(I 2)),(2,1,t109)] fun t110=>
 ak 4 s2 t110 h fun h7=>
 ap 4 s2 h7 fun r8=>
 Q r8 h7
def eM (s0:AV) (h:ae) (next1:NT) (s3 s2:AV) (Q:QT):Prop:=
 aE s0 fun t67=>
 ab 0 t67 fun t68=>
 af t68 h fun t69=>
 aE s0 fun t71=>
 ab 1 t71 fun t72=>
 af t72 h fun t73=>
 bj t69 t73 fun t74=>
 ai .eql t74 (.lit (.int .u8 95)) fun t75=>
 ifB t75 (
 aE s0 fun t79=>
 ab 1 t79 fun t80=>
 af t80 h fun t81=>
 ai .add t81 (I 1) fun t82=>
 aE s0 fun t83=>
 ab 1 t83 fun t84=>
 ak 1 t84 t82 h fun h4=>
 next1 [] h4) (
 aE s0 fun t86=>
 ab 0 t86 fun t87=>
 af t87 h fun t88=>
 aE s0 fun t91=>
 ab 1 t91 fun t92=>
 af t92 h fun t93=>
 bl t88 (some s3) (some t93) fun t94=>
 C mD [t94] h fun t95 h5=>
 qUn .not t95 fun t96=>
 ifB t96 (
 aE s0 fun t98=>
 ab 3 t98 fun t99=>
 ak 1 t99 (B true) h5 fun h6=>
 cn s3 s2 s0 h6 Q) (
 cn s3 s2 s0 h5 Q))
def pF (s0:AV) (h:ae) (next1:NT):Prop:=
 aE s0 fun t79=>
 ab 1 t79 fun t80=>
 af t80 h fun t81=>
 ai .add t81 (I 1) fun t82=>
 aE s0 fun t83=>
 ab 1 t83 fun t84=>
 ak 1 t84 t82 h fun h10=>
 next1 [] h10
def py (s0:AV) (h:ae) (next1:NT) (s3 s2:AV) (Q:QT):Prop:=
 ifB (.tup []) (pF s0 h next1) (ifB (.tup []) (
 pF s0 h next1) (
 aE s0 fun t86=>
 ab 0 t86 fun t87=>
 af t87 h fun t88=>
 aE s0 fun t91=>
 ab 1 t91 fun t92=>
 af t92 h fun t93=>
 bl t88 (some s3) (some t93) fun t94=>
 C mD [t94] h fun t95 h12=>
 qUn .not t95 fun t96=>
 ifB t96 (
 aE s0 fun t98=>
 ab 3 t98 fun t99=>
 ak 1 t99 (B true) h12 fun h13=>
 cn s3 s2 s0 h13 Q) (
 cn s3 s2 s0 h12 Q)))
def eO (s0:AV) (h:ae) (next1:NT) (s3 s2:AV) (Q:QT):Prop:=
 aE s0 fun t43=>
 ab 0 t43 fun t44=>
 af t44 h fun t45=>
 aE s0 fun t47=>
 ab 1 t47 fun t48=>
 af t48 h fun t49=>
 bj t45 t49 fun t50=>
 ai .geq t50 (.lit (.int .u8 48)) fun t51=>
 ifT t51 (aE s0 fun t54=>
 ab 0 t54 fun t55=>
 af t55 h fun t56=>
 aE s0 fun t58=>
 ab 1 t58 fun t59=>
 af t59 h fun t60=>
 bj t56 t60 fun t61=>
 ai .leq t61 (.lit (.int .u8 57)) fun t62=>
 ifT t62 (aE s0 fun t79=>
 ab 1 t79 fun t80=>
 af t80 h fun t81=>
 ai .add t81 (I 1) fun t82=>
 aE s0 fun t83=>
 ab 1 t83 fun t84=>
 ak 1 t84 t82 h fun h3=>
 next1 [] h3) (
 eM s0 h next1 s3 s2 Q) (
 py s0 h next1 s3 s2 Q)) (
 eM s0 h next1 s3 s2 Q) (
 ifB (.tup []) (py s0 h next1 s3 s2 Q) (eM s0 h next1 s3 s2 Q))
def dL (s0:AV) (h:ae) (next1:NT):Prop:=
 aE s0 fun t79=>
 ab 1 t79 fun t80=>
 af t80 h fun t81=>
 ai .add t81 (I 1) fun t82=>
 aE s0 fun t83=>
 ab 1 t83 fun t84=>
 ak 1 t84 t82 h fun h2=>
 next1 [] h2
def gF (s0:AV) (h:ae) (s3 s2:AV) (Q:QT):Prop:=
 aE s0 fun t86=>
 ab 0 t86 fun t87=>
 af t87 h fun t88=>
 aE s0 fun t91=>
 ab 1 t91 fun t92=>
 af t92 h fun t93=>
 bl t88 (some s3) (some t93) fun t94=>
 C mD [t94] h fun t95 h39=>
 qUn .not t95 fun t96=>
 ifB t96 (
 aE s0 fun t98=>
 ab 3 t98 fun t99=>
 ak 1 t99 (B true) h39 fun h40=>
 cn s3 s2 s0 h40 Q) (
 cn s3 s2 s0 h39 Q)
def pu (s0:AV) (h:ae) (next1:NT) (s3 s2:AV) (Q:QT):Prop:=
 ifB (.tup []) (dL s0 h next1) (ifB (.tup []) (dL s0 h next1) (ifB (.tup []) (
 dL s0 h next1) (
 gF s0 h s3 s2 Q)))
def nl (s3 s2 s0:AV) (Q:QT) (h:ae) (next1:NT):Prop:=
 aE s0 fun t9=>
 ab 1 t9 fun t10=>
 af t10 h fun t11=>
 aE s0 fun t13=>
 ab 0 t13 fun t14=>
 af t14 h fun t15=>
 bJ t15 fun t16=>
 ai .lss t11 t16 fun t17=>
 ifB t17 (aE s0 fun t20=>
 ab 0 t20 fun t21=>
 af t21 h fun t22=>
 aE s0 fun t24=>
 ab 1 t24 fun t25=>
 af t25 h fun t26=>
 bj t22 t26 fun t27=>
 ai .geq t27 (.lit (.int .u8 97)) fun t28=>
 ifT t28 (aE s0 fun t31=>
 ab 0 t31 fun t32=>
 af t32 h fun t33=>
 aE s0 fun t35=>
 ab 1 t35 fun t36=>
 af t36 h fun t37=>
 bj t33 t37 fun t38=>
 ai .leq t38 (.lit (.int .u8 122)) fun t39=>
 ifT t39 (dL s0 h next1) (
 eO s0 h next1 s3 s2 Q) (
 pu s0 h next1 s3 s2 Q)) (
 eO s0 h next1 s3 s2 Q) (
 ifB (.tup []) (pu s0 h next1 s3 s2 Q) (eO s0 h next1 s3 s2 Q))) (
 gF s0 h s3 s2 Q)
def uC (a0:AV) (h:ae) (Q:QT):Prop:=
 cu [(I 0),(I 0),(S ⟨#[]⟩),(.full 0 [])] h fun t2 h0=>
 aE a0 fun t5=>
 ab 1 t5 fun t6=>
 af t6 h0 fun t7=>
 cc [] h0 fun _ h next1=>nl t7 t2 a0 Q h next1
theorem zo (a0:AV) (h:ae) (Q:QT) (k:uC a0 h Q):C gG [a0] h Q:=
 okF (pl:=[(3,[8,9,10,11,12,13,14,15,16,17,18,19,20,21,22,23,24,25,26,27,28,29,30,31,32,33,34,35,36,37,38,39,40,41,42,43,44,45,46,47,48,49,50,51,52,53,54,55,56,57,58,59,60,61,62,63,64,65,66,67,68,69,70,71,72,73,74,75,76,77,78,79,80,81,82,83,84],[]),(1000002,[0,1,2,3,4,5,6,7,8,9,10,11,12,13,14,15,16,17,18,19,20,21,22,23,24,25,26,27,28,29,30,31,32,33,34,35,36,37,38,39,40,41,42,43,44,45,46,47,48,49,50,51,52,53,54,55,56,57,58,59,60,61,62,63,64,65,66,67,68,69],[]),(1000004,[0,1,2,3,4,5,6,7,8,9,10,11],[]),(1000006,[0,1,2,3,4,5,6,7,8,9,10,11],[])]) Tryz.func230 Tryz.ntmps230 (by kernel_rfl) rfl (by kernel_rfl) k
def DP (a0:AV) (h:ae) (Q:QT):Prop:=
 ai .eql a0 (I 5) fun t6=>
 ifB t6 (
 Q (.tup [(S ⟨#[43]⟩),(I 3)]) h) (
 ai .eql a0 (I 6) fun t8=>
 ifB t8 (
 Q (.tup [(S ⟨#[45]⟩),(I 3)]) h) (
 ai .eql a0 (I 7) fun t10=>
 ifB t10 (
 Q (.tup [(S ⟨#[42]⟩),(I 4)]) h) (
 ai .eql a0 (I 8) fun t12=>
 ifB t12 (
 Q (.tup [(S ⟨#[38]⟩),(I 1)]) h) (
 ai .eql a0 (I 9) fun t14=>
 ifB t14 (
 Q (.tup [(S ⟨#[124]⟩),(I 0)]) h) (
 ai .eql a0 (I 10) fun t16=>
 ifB t16 (
 Q (.tup [(S ⟨#[60,60]⟩),(I 2)]) h) (
 Q (.tup [(S ⟨#[62,62]⟩),(I 2)]) h))))))
theorem BQ (a0:AV) (h:ae) (Q:QT) (k:DP a0 h Q):C pX [a0] h Q:=
 okF (pl:=[]) Tryz.func101 Tryz.ntmps101 (by kernel_rfl) rfl (by kernel_rfl) k
def pT (s4 s5:AV) (h:ae) (next4:NT):Prop:=
 ai .add s5 (I 1) fun t49=>
 next4 [s4,t49] h
def iB (s4 s5:AV) (h:ae) (next4:NT):Prop:=
 pT s4 s5 h next4
def qn (s4:AV) (vs11:List AV) (h:ae) (t87:AV) (next11:NT):Prop:=
 an 1 s4 (aq vs11 1) fun t90=>
 af t90 h fun t91=>
 ai .add t87 t91 fun t92=>
 iB t92 (aq vs11 1) h next11
def zu (s4:AV) (Q:QT) (vs11:List AV) (h:ae) (next11:NT):Prop:=
 aX s4 fun t80=>
 ai .lss (aq vs11 1) t80 fun t81=>
 ifB t81 (
 ai .eql (aq vs11 1) (I 0) fun t85=>
 ifB t85 (
 ai .add (aq vs11 0) (S ⟨#[32]⟩) fun t87=>
 qn s4 vs11 h t87 next11) (
 ai .add (aq vs11 0) (S ⟨#[44,32]⟩) fun t94=>
 qn s4 vs11 h t94 next11)) (
 Q (aq vs11 0) h)
def zQ (s3 s1:AV) (Q:QT) (vs4:List AV) (h:ae) (next4:NT):Prop:=
 ab 5 s1 fun t44=>
 af t44 h fun t45=>
 aX t45 fun t46=>
 ai .lss (aq vs4 1) t46 fun t47=>
 ifB t47 (
 ab 5 s1 fun t50=>
 af t50 h fun t51=>
 an 5 t51 (aq vs4 1) fun t53=>
 ab 0 t53 fun t54=>
 af t54 h fun t55=>
 ai .geq t55 (I 0) fun t56=>
 ifB t56 (
 ab 5 s1 fun t58=>
 af t58 h fun t59=>
 an 5 t59 (aq vs4 1) fun t61=>
 ab 0 t61 fun t62=>
 af t62 h fun t63=>
 C du [t63] h fun t64 h5=>
 ai .add (S ⟨#[114]⟩) t64 fun t65=>
 ao 1 1 [t65] fun t66=>
 bg 1 16 (aq vs4 0) t66 h5 fun t67 h6=>
 iB t67 (aq vs4 1) h6 next4) (
 ab 5 s1 fun t69=>
 af t69 h fun t70=>
 an 5 t70 (aq vs4 1) fun t72=>
 ab 1 t72 fun t73=>
 ap 4 t73 h fun t74=>
 C mR [t74] h fun t75 h9=>
 ao 1 1 [t75] fun t76=>
 bg 1 16 (aq vs4 0) t76 h9 fun t77 h10=>
 iB t77 (aq vs4 1) h10 next4)) (
 cc [s3,(I 0)] h fun vs11 h next11=>zu (aq vs4 0) Q vs11 h next11)
def oB (s4 s3 s1:AV) (h:ae) (Q:QT):Prop:=
 cc [s4,(I 0)] h fun vs4 h next4=>zQ s3 s1 Q vs4 h next4
def oA (s4 s3 s1:AV) (h:ae) (Q:QT):Prop:=
 ab 2 s1 fun t35=>
 af t35 h fun t36=>
 ai .eql t36 (I 9) fun t37=>
 ifB t37 (
 ab 4 s1 fun t39=>
 af t39 h fun t40=>
 ao 1 1 [t40] fun t41=>
 bg 1 16 s4 t41 h fun t42 h3=>
 oB t42 s3 s1 h3 Q) (
 oB s4 s3 s1 h Q)
def ow (s3 s1:AV) (h:ae) (Q:QT):Prop:=
 ap 6 s1 h fun t22=>
 C vP [t22] h fun t23 h1=>
 ai .add s3 t23 fun t24=>
 ab 2 s1 fun t25=>
 af t25 h1 fun t26=>
 ai .eql t26 (I 6) fun t27=>
 ifB t27 (
 ab 4 s1 fun t29=>
 af t29 h1 fun t30=>
 ai .add (S ⟨#[34]⟩) t30 fun t31=>
 ai .add t31 (S ⟨#[34]⟩) fun t32=>
 ao 1 1 [t32] fun t33=>
 bg 1 16 (.full 0 []) t33 h1 fun t34 h2=>
 oA t34 t24 s1 h2 Q) (
 oA (.full 0 []) t24 s1 h1 Q)
def ox (s3 s1:AV) (h:ae) (Q:QT):Prop:=
 ab 2 s1 fun t13=>
 af t13 h fun t14=>
 ai .eql t14 (I 0) fun t15=>
 ifB t15 (
 Q s3 h) (
 ai .neq s3 (S ⟨#[]⟩) fun t18=>
 ifB t18 (
 ai .add s3 (S ⟨#[32]⟩) fun t20=>
 ow t20 s1 h Q) (
 ow s3 s1 h Q))
def Kx (a0:AV) (h:ae) (Q:QT):Prop:=
 fe a0 h fun t1 h0=>
 ab 1 t1 fun t7=>
 af t7 h0 fun t8=>
 ai .neq t8 (S ⟨#[]⟩) fun t9=>
 ifB t9 (
 ab 1 t1 fun t10=>
 af t10 h0 fun t11=>
 ai .add t11 (S ⟨#[58]⟩) fun t12=>
 ox t12 t1 h0 Q) (
 ox (S ⟨#[]⟩) t1 h0 Q)
theorem LU (a0:AV) (h:ae) (Q:QT) (k:Kx a0 h Q):C vj [a0] h Q:=
 okF (pl:=[(16,[4,5,43,44,45,46,47,48,49,50,51,52,53,54,55,56,57,58,59,60,61,62,63,64,65,66,67,68,69,70,71,72,73,74,75,76,77],[4,5]),(22,[3,6,78,79,80,81,82,83,84,85,86,87,88,89,90,91,92,93,94,95,96,97,98,99],[3,6])]) Tryz.func41 Tryz.ntmps41 (by kernel_rfl) rfl (by kernel_rfl) k
def KJ (a0:AV) (h:ae) (Q:QT):Prop:=
 fe a0 h fun t1 h0=>
 ab 2 t1 fun t3=>
 af t3 h0 fun t4=>
 ai .eql t4 (I 1) fun t6=>
 ifB t6 (
 ab 3 t1 fun t7=>
 af t7 h0 fun t8=>
 C uO [t8] h0 fun t9 h1=>
 Q t9 h1) (
 ai .eql t4 (I 2) fun t11=>
 ifB t11 (
 ao 3 1 [(S ⟨#[98]⟩),(S ⟨#[98,108]⟩),(S ⟨#[98,99]⟩)] fun t12=>
 ab 3 t1 fun t13=>
 af t13 h0 fun t14=>
 an 1 t12 t14 fun t15=>
 af t15 h0 fun t16=>
 Q t16 h0) (
 ai .eql t4 (I 3) fun t18=>
 ifB t18 (
 Q (S ⟨#[46,98,121,116,101]⟩) h0) (
 ai .eql t4 (I 4) fun t20=>
 ifB t20 (
 Q (S ⟨#[46,104,97,108,102]⟩) h0) (
 ai .eql t4 (I 5) fun t22=>
 ifB t22 (
 Q (S ⟨#[46,108,111,110,103]⟩) h0) (
 ai .eql t4 (I 6) fun t24=>
 ifB t24 (
 Q (S ⟨#[46,97,115,99,105,105]⟩) h0) (
 ai .eql t4 (I 7) fun t26=>
 ifB t26 (
 Q (S ⟨#[46,97,108,105,103,110]⟩) h0) (
 ai .eql t4 (I 8) fun t28=>
 ifB t28 (
 Q (S ⟨#[46,115,112,97,99,101]⟩) h0) (
 Q (S ⟨#[46,101,113,117]⟩) h0))))))))
theorem L3 (a0:AV) (h:ae) (Q:QT) (k:KJ a0 h Q):C vP [a0] h Q:=
 okF (pl:=[]) Tryz.func68 Tryz.ntmps68 (by kernel_rfl) rfl (by kernel_rfl) k
def PC (h:ae) (Q:QT):Prop:=
 mM h fun t1 h0=>
 mM h0 fun t2 h1=>
 ay [(.lit (.map none)),(.lit (.map none))] [(0,1,t1),(1,1,t2)] fun t3=>
 fe t3 h1 fun t4 h2=>
 Q t4 h2
theorem O9 (h:ae) (Q:QT) (k:PC  h Q):C x8 [] h Q:=
 okF (pl:=[]) Tryz.func16 Tryz.ntmps16 (by kernel_rfl) rfl (by kernel_rfl) k
def Hd (a0:AV) (h:ae) (Q:QT):Prop:=
 fe a0 h fun t1 h0=>
 ab 0 t1 fun t3=>
 af t3 h0 fun t4=>
 ai .lss t4 (I 1) fun t5=>
 ifB t5 (Q (B false) h0) (
 ab 0 t1 fun t7=>
 af t7 h0 fun t8=>
 ai .gtr t8 (I 7) fun t9=>
 ifB t9 (
 Q (B false) h0) (
 ab 0 t1 fun t11=>
 af t11 h0 fun t12=>
 ai .eql t12 (I 7) fun t13=>
 ifB t13 (
 ap 4 t1 h0 fun t14=>
 ay [(I 0),(S ⟨#[]⟩),(S ⟨#[]⟩),(I 0)] [(0,1,(I 7))] fun t15=>
 US .eql [(.int .i64),.string,.string,(.int .i64)] t14 t15 fun t16=>
 Q t16 h0) (
 ab 1 t1 fun t17=>
 af t17 h0 fun t18=>
 C m3 [t18] h0 fun t19 h1=>
 qUn .not t19 fun t20=>
 ifB t20 (Q (B false) h1) (
 ab 2 t1 fun t22=>
 af t22 h1 fun t23=>
 bJ t23 fun t24=>
 ai .gtr t24 (I 600) fun t25=>
 ifB t25 (Q (B false) h1) (
 ab 2 t1 fun t28=>
 af t28 h1 fun t29=>
 ai .neq t29 (S ⟨#[]⟩) fun t30=>
 ifT t30 (ab 0 t1 fun t32=>
 af t32 h1 fun t33=>
 C q8 [t33] h1 fun t34 h2=>
 qUn .not t34 fun t35=>
 ifB t35 (
 Q (B false) h2) (
 ab 3 t1 fun t38=>
 af t38 h2 fun t39=>
 ai .geq t39 (I (-1099511627776)) fun t40=>
 ifB t40 (ab 3 t1 fun t42=>
 af t42 h2 fun t43=>
 ai .leq t43 (I 1099511627776) fun t44=>
 ifB t44 (ab 3 t1 fun t47=>
 af t47 h2 fun t48=>
 ai .eql t48 (I 0) fun t49=>
 ifT t49 (Q (B true) h2) (
 ab 0 t1 fun t51=>
 af t51 h2 fun t52=>
 C fP [t52] h2 fun t53 h3=>
 Q t53 h3) (
 ifB (.tup []) (Q (B true) h2) (Q (.tup []) h2))) (
 Q (B false) h2)) (
 Q (B false) h2))) (
 ab 3 t1 fun t38=>
 af t38 h1 fun t39=>
 ai .geq t39 (I (-1099511627776)) fun t40=>
 ifB t40 (ab 3 t1 fun t42=>
 af t42 h1 fun t43=>
 ai .leq t43 (I 1099511627776) fun t44=>
 ifB t44 (ab 3 t1 fun t47=>
 af t47 h1 fun t48=>
 ai .eql t48 (I 0) fun t49=>
 ifT t49 (Q (B true) h1) (
 ab 0 t1 fun t51=>
 af t51 h1 fun t52=>
 C fP [t52] h1 fun t53 h4=>
 Q t53 h4) (
 ifB (.tup []) (Q (B true) h1) (Q (.tup []) h1))) (
 Q (B false) h1)) (
 Q (B false) h1)) (
 ifB (.tup []) (ifB (.tup []) (
 Q (B false) h1) (
 ab 3 t1 fun t38=>
 af t38 h1 fun t39=>
 ai .geq t39 (I (-1099511627776)) fun t40=>
 ifB t40 (ab 3 t1 fun t42=>
 af t42 h1 fun t43=>
 ai .leq t43 (I 1099511627776) fun t44=>
 ifB t44 (ab 3 t1 fun t47=>
 af t47 h1 fun t48=>
 ai .eql t48 (I 0) fun t49=>
 ifT t49 (Q (B true) h1) (
 ab 0 t1 fun t51=>
 af t51 h1 fun t52=>
 C fP [t52] h1 fun t53 h5=>
 Q t53 h5) (
 ifB (.tup []) (Q (B true) h1) (Q (.tup []) h1))) (
 Q (B false) h1)) (
 Q (B false) h1))) (ab 3 t1 fun t38=>
 af t38 h1 fun t39=>
 ai .geq t39 (I (-1099511627776)) fun t40=>
 ifB t40 (ab 3 t1 fun t42=>
 af t42 h1 fun t43=>
 ai .leq t43 (I 1099511627776) fun t44=>
 ifB t44 (ab 3 t1 fun t47=>
 af t47 h1 fun t48=>
 ai .eql t48 (I 0) fun t49=>
 ifT t49 (Q (B true) h1) (
 ab 0 t1 fun t51=>
 af t51 h1 fun t52=>
 C fP [t52] h1 fun t53 h6=>
 Q t53 h6) (
 ifB (.tup []) (Q (B true) h1) (Q (.tup []) h1))) (
 Q (B false) h1)) (
 Q (B false) h1))))))))
theorem Ja (a0:AV) (h:ae) (Q:QT) (k:Hd a0 h Q):C tq [a0] h Q:=
 okF (pl:=[]) Tryz.func35 Tryz.ntmps35 (by kernel_rfl) rfl (by kernel_rfl) k
def vn (a0 a1:AV) (h:ae) (Q:QT):Prop:=
 fe a1 h fun t3 h0=>
 cu [(I 0),(S ⟨#[]⟩),(.full 0 []),(.full 0 [])] h0 fun t4 h1=>
 ap 4 t3 h1 fun t5=>
 C tq [t5] h1 fun t6 h2=>
 qUn .not t6 fun t7=>
 ifB t7 (
 C cj [(I 12)] h2 fun t8 h3=>
 ak 4 t4 t8 h3 fun h4=>
 ap 4 t4 h4 fun r5=>
 Q r5 h4) (
 ab 0 t3 fun t9=>
 af t9 h2 fun t10=>
 ap 4 t3 h2 fun t13=>
 C qe [t10] h2 fun t11 h6=>
 (ap 4 t3 h6 fun _t=>
 _t=t13)∧
 CV t11 [a0,t13] h6 fun t14 h7=>
 ak 4 t4 t14 h7 fun h8=>
 ap 4 t4 h8 fun r9=>
 Q r9 h8)
theorem vY (a0 a1:AV) (h:ae) (Q:QT) (k:vn a0 a1 h Q):C iP [a0,a1] h Q:=
 okF (pl:=[(1000003,[0,1,3,4,2,5,6],[])]) Tryz.func21 Tryz.ntmps21 (by kernel_rfl) rfl (by kernel_rfl) k
def vV (a0:AV) (h:ae) (Q:QT):Prop:=
 aE a0 fun t4=>
 ab 0 t4 fun t5=>
 af t5 h fun t6=>
 C eG [t6,(.fn (.func fY) [a0] [])] h fun t9 h0=>
 Q t9 h0
theorem Aj (a0:AV) (h:ae) (Q:QT) (k:vV a0 h Q):C lL [a0] h Q:=
 okF (pl:=[]) Tryz.func17 Tryz.ntmps17 (by kernel_rfl) rfl (by kernel_rfl) k
def xD (a0:AV) (h:ae) (Q:QT):Prop:=
 aE a0 fun t4=>
 ab 1 t4 fun t5=>
 af t5 h fun t6=>
 C gy [t6,(.fn (.func gR) [a0] [])] h fun t9 h0=>
 Q t9 h0
theorem Br (a0:AV) (h:ae) (Q:QT) (k:xD a0 h Q):C mQ [a0] h Q:=
 okF (pl:=[]) Tryz.func18 Tryz.ntmps18 (by kernel_rfl) rfl (by kernel_rfl) k
def vX (a0 a1:AV) (h:ae) (Q:QT):Prop:=
 fe a1 h fun t3 h0=>
 cu [(I 0),(S ⟨#[]⟩),(.full 0 []),(.full 0 [])] h0 fun t4 h1=>
 C lL [a0] h1 fun t9 h2=>
 C mQ [a0] h2 fun t11 h3=>
 C pc [t9,t11] h3 fun t12 h4=>
 am 0 t12 fun t13=>
 am 1 t12 fun t14=>
 aX t14 fun t16=>
 ai .gtr t16 (I 0) fun t17=>
 ifB t17 (
 ay [(I 0),(S ⟨#[]⟩),(.full 0 []),(.full 0 [])] [(0,1,(I 14)),(3,1,t14)] fun t19=>
 ak 4 t4 t19 h4 fun h5=>
 ap 4 t4 h5 fun r6=>
 Q r6 h5) (
 ay [(I 0),(S ⟨#[]⟩),(.full 0 []),(.full 0 [])] [(2,1,t13)] fun t21=>
 ak 4 t4 t21 h4 fun h7=>
 ap 4 t4 h7 fun r8=>
 Q r8 h7)
theorem AZ (a0 a1:AV) (h:ae) (Q:QT) (k:vX a0 a1 h Q):C ij [a0,a1] h Q:=
 okF (pl:=[]) Tryz.func65 Tryz.ntmps65 (by kernel_rfl) rfl (by kernel_rfl) k
def uD (a0 a1:AV) (h:ae) (Q:QT):Prop:=
 fe a1 h fun t3 h0=>
 cu [(I 0),(S ⟨#[]⟩),(.full 0 []),(.full 0 [])] h0 fun t4 h1=>
 aE a0 fun t9=>
 ab 1 t9 fun t10=>
 af t10 h1 fun t11=>
 ab 1 t3 fun t12=>
 af t12 h1 fun t13=>
 c6 .string true (I 0) t11 t13 h1 fun t14=>
 am 0 t14 fun t15=>
 am 1 t14 fun t16=>
 qUn .not t16 fun t18=>
 ifB t18 (aE a0 fun t21=>
 ab 1 t21 fun t22=>
 af t22 h1 fun t23=>
 CK t23 h1 fun t24=>
 ai .geq t24 (I 8) fun t25=>
 ifB t25 (
 C cj [(I 10)] h1 fun t27 h2=>
 ak 4 t4 t27 h2 fun h3=>
 ap 4 t4 h3 fun r4=>
 Q r4 h3) (
 aE a0 fun t29=>
 ab 1 t29 fun t30=>
 af t30 h1 fun t31=>
 ab 1 t3 fun t32=>
 af t32 h1 fun t33=>
 ab 3 t3 fun t34=>
 af t34 h1 fun t35=>
 bV .string t31 t33 t35 h1 fun h5=>
 C cj [(I 0)] h5 fun t36 h6=>
 ak 4 t4 t36 h6 fun h7=>
 ap 4 t4 h7 fun r8=>
 Q r8 h7)) (
 aE a0 fun t29=>
 ab 1 t29 fun t30=>
 af t30 h1 fun t31=>
 ab 1 t3 fun t32=>
 af t32 h1 fun t33=>
 ab 3 t3 fun t34=>
 af t34 h1 fun t35=>
 bV .string t31 t33 t35 h1 fun h9=>
 C cj [(I 0)] h9 fun t36 h10=>
 ak 4 t4 t36 h10 fun h11=>
 ap 4 t4 h11 fun r12=>
 Q r12 h11)
theorem y5 (a0 a1:AV) (h:ae) (Q:QT) (k:uD a0 a1 h Q):C gM [a0,a1] h Q:=
 okF (pl:=[(1000001,[0,1,2,3,4,5,6,7,8,9,10,11],[]),(1000004,[0,1,2,3,4,5,6,7,8],[])]) Tryz.func63 Tryz.ntmps63 (by kernel_rfl) rfl (by kernel_rfl) k
def zt (a0 a1:AV) (h:ae) (Q:QT):Prop:=
 fe a1 h fun t3 h0=>
 cu [(I 0),(S ⟨#[]⟩),(.full 0 []),(.full 0 [])] h0 fun t4 h1=>
 aE a0 fun t9=>
 ab 0 t9 fun t10=>
 af t10 h1 fun t11=>
 ab 1 t3 fun t12=>
 af t12 h1 fun t13=>
 c6 .string true (S ⟨#[]⟩) t11 t13 h1 fun t14=>
 am 0 t14 fun t15=>
 am 1 t14 fun t16=>
 qUn .not t16 fun t18=>
 ifB t18 (
 C cj [(I 9)] h1 fun t19 h2=>
 ak 4 t4 t19 h2 fun h3=>
 ap 4 t4 h3 fun r4=>
 Q r4 h3) (
 aE a0 fun t21=>
 ab 0 t21 fun t22=>
 af t22 h1 fun t23=>
 ab 1 t3 fun t24=>
 af t24 h1 fun t25=>
 qj .string t23 t25 h1 fun h5=>
 C cj [(I 0)] h5 fun t26 h6=>
 ak 4 t4 t26 h6 fun h7=>
 ap 4 t4 h7 fun r8=>
 Q r8 h7)
theorem CL (a0 a1:AV) (h:ae) (Q:QT) (k:zt a0 a1 h Q):C kj [a0,a1] h Q:=
 okF (pl:=[(1000001,[0,1,2,3,4,5,6,7,8,9,10,11],[]),(1000004,[0,1,2,3,4,5,6],[])]) Tryz.func60 Tryz.ntmps60 (by kernel_rfl) rfl (by kernel_rfl) k
def xx (a0 a1 a2:AV) (h:ae) (Q:QT):Prop:=
 cu [(S ⟨#[]⟩),(S ⟨#[]⟩)] h fun t6 h0=>
 ay [(S ⟨#[]⟩),(S ⟨#[]⟩)] [(0,1,a1),(1,1,a2)] fun t9=>
 ak 2 t6 t9 h0 fun h1=>
 ap 2 t6 h1 fun r2=>
 Q r2 h1
theorem Cj (a0 a1 a2:AV) (h:ae) (Q:QT) (k:xx a0 a1 a2 h Q):C fY [a0,a1,a2] h Q:=
 okF (pl:=[]) Tryz.func31 Tryz.ntmps31 (by kernel_rfl) rfl (by kernel_rfl) k
def wC (a0 a1:AV) (h:ae) (Q:QT):Prop:=
 fe a1 h fun t3 h0=>
 cu [(I 0),(S ⟨#[]⟩),(.full 0 []),(.full 0 [])] h0 fun t4 h1=>
 aE a0 fun t9=>
 ab 0 t9 fun t10=>
 af t10 h1 fun t11=>
 ab 1 t3 fun t12=>
 af t12 h1 fun t13=>
 c6 .string true (S ⟨#[]⟩) t11 t13 h1 fun t14=>
 am 0 t14 fun t15=>
 am 1 t14 fun t16=>
 qUn .not t16 fun t19=>
 ifB t19 (
 C cj [(I 9)] h1 fun t20 h2=>
 ak 4 t4 t20 h2 fun h3=>
 ap 4 t4 h3 fun r4=>
 Q r4 h3) (
 bJ t15 fun t23=>
 ab 2 t3 fun t24=>
 af t24 h1 fun t25=>
 bJ t25 fun t26=>
 ai .add t23 t26 fun t27=>
 ai .gtr t27 (I 600) fun t28=>
 ifB t28 (
 C cj [(I 10)] h1 fun t29 h5=>
 ak 4 t4 t29 h5 fun h6=>
 ap 4 t4 h6 fun r7=>
 Q r7 h6) (
 aE a0 fun t31=>
 ab 0 t31 fun t32=>
 af t32 h1 fun t33=>
 ab 1 t3 fun t34=>
 af t34 h1 fun t35=>
 ab 2 t3 fun t37=>
 af t37 h1 fun t38=>
 ai .add t15 t38 fun t39=>
 bV .string t33 t35 t39 h1 fun h8=>
 C cj [(I 0)] h8 fun t40 h9=>
 ak 4 t4 t40 h9 fun h10=>
 ap 4 t4 h10 fun r11=>
 Q r11 h10))
theorem Cd (a0 a1:AV) (h:ae) (Q:QT) (k:wC a0 a1 h Q):C jh [a0,a1] h Q:=
 okF (pl:=[(1000001,[0,1,2,3,4,5,6,7,8,9,10,11],[]),(1000006,[0,1,2,3,4,5,6,7,8,9,10],[])]) Tryz.func61 Tryz.ntmps61 (by kernel_rfl) rfl (by kernel_rfl) k
def z7 (a0 a1:AV) (h:ae) (Q:QT):Prop:=
 fe a1 h fun t3 h0=>
 cu [(I 0),(S ⟨#[]⟩),(.full 0 []),(.full 0 [])] h0 fun t4 h1=>
 aE a0 fun t9=>
 ab 0 t9 fun t10=>
 af t10 h1 fun t11=>
 ab 1 t3 fun t12=>
 af t12 h1 fun t13=>
 c6 .string true (S ⟨#[]⟩) t11 t13 h1 fun t14=>
 am 0 t14 fun t15=>
 am 1 t14 fun t16=>
 qUn .not t16 fun t18=>
 ifB t18 (aE a0 fun t21=>
 ab 0 t21 fun t22=>
 af t22 h1 fun t23=>
 CK t23 h1 fun t24=>
 ai .geq t24 (I 8) fun t25=>
 ifB t25 (
 C cj [(I 10)] h1 fun t27 h2=>
 ak 4 t4 t27 h2 fun h3=>
 ap 4 t4 h3 fun r4=>
 Q r4 h3) (
 aE a0 fun t29=>
 ab 0 t29 fun t30=>
 af t30 h1 fun t31=>
 ab 1 t3 fun t32=>
 af t32 h1 fun t33=>
 ab 2 t3 fun t34=>
 af t34 h1 fun t35=>
 bV .string t31 t33 t35 h1 fun h5=>
 C cj [(I 0)] h5 fun t36 h6=>
 ak 4 t4 t36 h6 fun h7=>
 ap 4 t4 h7 fun r8=>
 Q r8 h7)) (
 aE a0 fun t29=>
 ab 0 t29 fun t30=>
 af t30 h1 fun t31=>
 ab 1 t3 fun t32=>
 af t32 h1 fun t33=>
 ab 2 t3 fun t34=>
 af t34 h1 fun t35=>
 bV .string t31 t33 t35 h1 fun h9=>
 C cj [(I 0)] h9 fun t36 h10=>
 ak 4 t4 t36 h10 fun h11=>
 ap 4 t4 h11 fun r12=>
 Q r12 h11)
theorem D3 (a0 a1:AV) (h:ae) (Q:QT) (k:z7 a0 a1 h Q):C jS [a0,a1] h Q:=
 okF (pl:=[(1000001,[0,1,2,3,4,5,6,7,8,9,10,11],[]),(1000004,[0,1,2,3,4,5,6,7,8],[])]) Tryz.func59 Tryz.ntmps59 (by kernel_rfl) rfl (by kernel_rfl) k
def xW (a0 a1:AV) (h:ae) (Q:QT):Prop:=
 fe a1 h fun t3 h0=>
 cu [(I 0),(S ⟨#[]⟩),(.full 0 []),(.full 0 [])] h0 fun t4 h1=>
 aE a0 fun t9=>
 ab 0 t9 fun t10=>
 af t10 h1 fun t11=>
 ab 1 t3 fun t12=>
 af t12 h1 fun t13=>
 c6 .string true (S ⟨#[]⟩) t11 t13 h1 fun t14=>
 am 0 t14 fun t15=>
 am 1 t14 fun t16=>
 qUn .not t16 fun t18=>
 ifB t18 (
 C cj [(I 9)] h1 fun t19 h2=>
 ak 4 t4 t19 h2 fun h3=>
 ap 4 t4 h3 fun r4=>
 Q r4 h3) (
 ay [(I 0),(S ⟨#[]⟩),(.full 0 []),(.full 0 [])] [(1,1,t15)] fun t21=>
 ak 4 t4 t21 h1 fun h5=>
 ap 4 t4 h5 fun r6=>
 Q r6 h5)
theorem Ct (a0 a1:AV) (h:ae) (Q:QT) (k:xW a0 a1 h Q):C iW [a0,a1] h Q:=
 okF (pl:=[(1000001,[0,1,2,3,4,5,6,7,8,9,10,11],[])]) Tryz.func62 Tryz.ntmps62 (by kernel_rfl) rfl (by kernel_rfl) k
def Aa (a0 a1 a2:AV) (h:ae) (Q:QT):Prop:=
 cu [(S ⟨#[]⟩),(I 0)] h fun t6 h0=>
 ay [(S ⟨#[]⟩),(I 0)] [(0,1,a1),(1,1,a2)] fun t9=>
 ak 2 t6 t9 h0 fun h1=>
 ap 2 t6 h1 fun r2=>
 Q r2 h1
theorem Dn (a0 a1 a2:AV) (h:ae) (Q:QT) (k:Aa a0 a1 a2 h Q):C gR [a0,a1,a2] h Q:=
 okF (pl:=[]) Tryz.func33 Tryz.ntmps33 (by kernel_rfl) rfl (by kernel_rfl) k
def wj (a0 a1:AV) (h:ae) (Q:QT):Prop:=
 fe a1 h fun t3 h0=>
 cu [(I 0),(S ⟨#[]⟩),(.full 0 []),(.full 0 [])] h0 fun t4 h1=>
 aE a0 fun t9=>
 ab 1 t9 fun t10=>
 af t10 h1 fun t11=>
 ab 1 t3 fun t12=>
 af t12 h1 fun t13=>
 c6 .string true (I 0) t11 t13 h1 fun t14=>
 am 0 t14 fun t15=>
 am 1 t14 fun t16=>
 qUn .not t16 fun t18=>
 ifB t18 (
 C cj [(I 9)] h1 fun t19 h2=>
 ak 4 t4 t19 h2 fun h3=>
 ap 4 t4 h3 fun r4=>
 Q r4 h3) (
 aE a0 fun t21=>
 ab 1 t21 fun t22=>
 af t22 h1 fun t23=>
 ab 1 t3 fun t24=>
 af t24 h1 fun t25=>
 qj .string t23 t25 h1 fun h5=>
 C cj [(I 0)] h5 fun t26 h6=>
 ak 4 t4 t26 h6 fun h7=>
 ap 4 t4 h7 fun r8=>
 Q r8 h7)
theorem Ax (a0 a1:AV) (h:ae) (Q:QT) (k:wj a0 a1 h Q):C im [a0,a1] h Q:=
 okF (pl:=[(1000001,[0,1,2,3,4,5,6,7,8,9,10,11],[]),(1000004,[0,1,2,3,4,5,6],[])]) Tryz.func64 Tryz.ntmps64 (by kernel_rfl) rfl (by kernel_rfl) k
def JU (a0:AV) (h:ae) (Q:QT):Prop:=
 ao 7 1 [(.fn (.func jS) [] []),(.fn (.func kj) [] []),(.fn (.func jh) [] []),(.fn (.func iW) [] []),(.fn (.func gM) [] []),(.fn (.func im) [] []),(.fn (.func ij) [] [])] fun t3=>
 ai .sub a0 (I 1) fun t5=>
 an 1 t3 t5 fun t6=>
 af t6 h fun t7=>
 Q t7 h
theorem Mw (a0:AV) (h:ae) (Q:QT) (k:JU a0 h Q):C qe [a0] h Q:=
 okF (pl:=[]) Tryz.func37 Tryz.ntmps37 (by kernel_rfl) rfl (by kernel_rfl) k
def Ci (a0:AV) (h:ae) (Q:QT):Prop:=
 ai .eql a0 (I 5) fun t4=>
 Q t4 h
theorem Fp (a0:AV) (h:ae) (Q:QT) (k:Ci a0 h Q):C fP [a0] h Q:=
 okF (pl:=[]) Tryz.func58 Tryz.ntmps58 (by kernel_rfl) rfl (by kernel_rfl) k
def iQ (s11 s10 s0 s1:AV) (Q:QT) (vs2:List AV) (h:ae) (next2:NT):Prop:=
 ai .lss (aq vs2 1) s11 fun t13=>
 ifB t13 (
 an 1 s10 (aq vs2 1) fun t14=>
 af t14 h fun t15=>
 c6 .string false (S ⟨#[]⟩) s0 t15 h fun t21=>
 CV s1 [t15,t21] h fun t22 h3=>
 ao 1 2 [t22] fun t23=>
 bg 2 32 (aq vs2 0) t23 h3 fun t24 h4=>
 ai .add (aq vs2 1) (I 1) fun t25=>
 next2 [t24,t25] h4) (
 C dk [(aq vs2 0)] h fun t27 h5=>
 Q t27 h5)
def kz (a0 a1:AV) (h:ae) (Q:QT):Prop:=
 C dr [a0] h fun t9 h0=>
 C eu [t9] h0 fun t10 h1=>
 aX t10 fun t11=>
 cc [(.full 0 []),(I 0)] h1 fun vs2 h next2=>iQ t11 t10 a0 a1 Q vs2 h next2
theorem pk (a0 a1:AV) (h:ae) (Q:QT) (k:kz a0 a1 h Q):C eG [a0,a1] h Q:=
 okF (pl:=[(4,[5,7,12,13,14,15,16,17,18,19,20,21,22,23,24,25],[5,12])]) Tryz.func30 Tryz.ntmps30 (by kernel_rfl) rfl (by kernel_rfl) k
def k5 (s11 s10 s0 s1:AV) (Q:QT) (vs2:List AV) (h:ae) (next2:NT):Prop:=
 ai .lss (aq vs2 1) s11 fun t13=>
 ifB t13 (
 an 1 s10 (aq vs2 1) fun t14=>
 af t14 h fun t15=>
 c6 .string false (I 0) s0 t15 h fun t21=>
 CV s1 [t15,t21] h fun t22 h3=>
 ao 1 2 [t22] fun t23=>
 bg 2 24 (aq vs2 0) t23 h3 fun t24 h4=>
 ai .add (aq vs2 1) (I 1) fun t25=>
 next2 [t24,t25] h4) (
 C dG [(aq vs2 0)] h fun t27 h5=>
 Q t27 h5)
def nk (a0 a1:AV) (h:ae) (Q:QT):Prop:=
 C ep [a0] h fun t9 h0=>
 C eu [t9] h0 fun t10 h1=>
 aX t10 fun t11=>
 cc [(.full 0 []),(I 0)] h1 fun vs2 h next2=>k5 t11 t10 a0 a1 Q vs2 h next2
theorem tv (a0 a1:AV) (h:ae) (Q:QT) (k:nk a0 a1 h Q):C gy [a0,a1] h Q:=
 okF (pl:=[(4,[5,7,12,13,14,15,16,17,18,19,20,21,22,23,24,25],[5,12])]) Tryz.func32 Tryz.ntmps32 (by kernel_rfl) rfl (by kernel_rfl) k
def Ui (a0:AV) (h:ae) (Q:QT):Prop:=
 cu [(I 0),(S ⟨#[]⟩),(.full 0 []),(.full 0 [])] h fun t2 h0=>
 ay [(I 0),(S ⟨#[]⟩),(.full 0 []),(.full 0 [])] [(0,1,a0)] fun t4=>
 ak 4 t2 t4 h0 fun h1=>
 ap 4 t2 h1 fun r2=>
 Q r2 h1
theorem Q2 (a0:AV) (h:ae) (Q:QT) (k:Ui a0 h Q):C cj [a0] h Q:=
 okF (pl:=[]) Tryz.func36 Tryz.ntmps36 (by kernel_rfl) rfl (by kernel_rfl) k
def Es (a0:AV) (h:ae) (Q:QT):Prop:=
 ai .eql a0 (I 1) fun t4=>
 ifB t4 (Q (B true) h) (
 ai .eql a0 (I 3) fun t7=>
 Q t7 h)
theorem H4 (a0:AV) (h:ae) (Q:QT) (k:Es a0 h Q):C q8 [a0] h Q:=
 okF (pl:=[]) Tryz.func57 Tryz.ntmps57 (by kernel_rfl) rfl (by kernel_rfl) k
