import Derived.Test.YtbhphjpgjgigpaaGreatDoorF5
set_option linter.all false
set_option autoImplicit true
set_option relaxedAutoImplicit true
set_option maxRecDepth 100000
namespace Go.Proofs.YtbhphjpgjgigpaaGreatDoor.AL
noncomputable section
open Go.Proofs
variable [Tabs]
abbrev rE:Nat:=29
abbrev tf:Nat:=68
def kE (s62 s8 s5 s1:AV) (h:ae) (Q:QT):Prop:=
 ifB s62 (
 C dm [s1,(I 4)] h fun t66 h2=>
 Q t66 h2) (
 ai .eql s8 (S ⟨#[84,56]⟩) fun t68=>
 ifB t68 (
 C dm [s1,(I 256)] h fun t70 h3=>
 ai .sub t70 (I 128) fun t71=>
 ai .mul (I 2) t71 fun t72=>
 Q t72 h3) (
 ai .eql s8 (S ⟨#[83,49,54]⟩) fun t74=>
 ifB t74 (
 am 9 1 [(I 0),(I 32767),(I (-32768)),(I (-1)),(I 1),(I 255),(I (-256)),(I 4660),(I (-4660))] fun t75=>
 ak 1 t75 s5 fun t77=>
 ag t77 h fun t78=>
 Q t78 h) (
 ai .eql s8 (S ⟨#[76,50,48]⟩) fun t80=>
 ifB t80 (
 C dm [s1,(I 1048576)] h fun t82 h4=>
 ai .sub t82 (I 524288) fun t83=>
 Q t83 h4) (
 ai .eql s8 (S ⟨#[84,49,53]⟩) fun t85=>
 ifB t85 (
 C dm [s1,(I 32768)] h fun t87 h5=>
 ai .sub t87 (I 16384) fun t88=>
 ai .mul (I 2) t88 fun t89=>
 Q t89 h5) (
 ai .eql s8 (S ⟨#[84,50,52]⟩) fun t91=>
 ifB t91 (
 C dm [s1,(I 16777216)] h fun t93 h6=>
 ai .sub t93 (I 8388608) fun t94=>
 ai .mul (I 2) t94 fun t95=>
 Q t95 h6) (
 am 9 1 [(I 0),(I 255),(I 256),(I 65280),(I (-1)),(I (-2)),(I 16711680),(I (-256)),(I 2130706432)] fun t96=>
 ak 1 t96 s5 fun t98=>
 ag t98 h fun t99=>
 Q t99 h))))))
def kI (s37 s8 s5 s1:AV) (h:ae) (Q:QT):Prop:=
 ifB s37 (
 am 9 1 [(I 0),(I 15),(I 1),(I 7),(I 8),(I 4),(I 12),(I 3),(I 14)] fun t40=>
 ak 1 t40 s5 fun t42=>
 ag t42 h fun t43=>
 Q t43 h) (
 ai .eql s8 (S ⟨#[77,50]⟩) fun t45=>
 ifB t45 (
 am 9 1 [(I 0),(I 15),(I 1),(I 7),(I 8),(I 4),(I 12),(I 3),(I 14)] fun t46=>
 ak 1 t46 s5 fun t48=>
 ag t48 h fun t49=>
 ai .mul (I 2) t49 fun t50=>
 Q t50 h) (
 ai .eql s8 (S ⟨#[77,52]⟩) fun t52=>
 ifB t52 (
 am 9 1 [(I 0),(I 15),(I 1),(I 7),(I 8),(I 4),(I 12),(I 3),(I 14)] fun t53=>
 ak 1 t53 s5 fun t55=>
 ag t55 h fun t56=>
 ai .mul (I 4) t56 fun t57=>
 Q t57 h) (
 ai .eql s8 (S ⟨#[79,49]⟩) fun t59=>
 ifB t59 (
 C dm [s1,(I 2)] h fun t61 h1=>
 Q t61 h1) (
 ai .eql s8 (S ⟨#[73,50]⟩) fun t63=>
 ifB t63 (
 kE t63 s8 s5 s1 h Q) (
 ai .eql s8 (S ⟨#[79,50]⟩) fun t64=>
 kE t64 s8 s5 s1 h Q)))))
def fq (s16 s8 s5 s1:AV) (h:ae) (Q:QT):Prop:=
 ifB s16 (
 am 9 1 [(I 0),(I 31),(I 1),(I 15),(I 16),(I 7),(I 30),(I 12),(I 3)] fun t21=>
 ak 1 t21 s5 fun t23=>
 ag t23 h fun t24=>
 Q t24 h) (
 ai .eql s8 (S ⟨#[85,55]⟩) fun t26=>
 ifB t26 (
 am 9 1 [(I 0),(I 127),(I 64),(I 1),(I 63),(I 100),(I 7),(I 15),(I 16)] fun t27=>
 ak 1 t27 s5 fun t29=>
 ag t29 h fun t30=>
 Q t30 h) (
 ai .eql s8 (S ⟨#[79,53]⟩) fun t32=>
 ifB t32 (
 am 9 1 [(I 1),(I 32),(I 2),(I 16),(I 31),(I 17),(I 8),(I 5),(I 30)] fun t33=>
 ak 1 t33 s5 fun t35=>
 ag t35 h fun t36=>
 Q t36 h) (
 ai .eql s8 (S ⟨#[77,49]⟩) fun t38=>
 ifB t38 (
 kI t38 s8 s5 s1 h Q) (
 ai .eql s8 (S ⟨#[73,52]⟩) fun t39=>
 kI t39 s8 s5 s1 h Q))))
def jt (s9 s8 s5 s1:AV) (h:ae) (Q:QT):Prop:=
 ifB s9 (
 am 9 1 [(I 0),(I 1),(I 7),(I 24),(I 31),(I 5),(I 28),(I 3),(I 30)] fun t12=>
 ak 1 t12 s5 fun t14=>
 ag t14 h fun t15=>
 Q t15 h) (
 ai .eql s8 (S ⟨#[68]⟩) fun t17=>
 ifB t17 (
 fq t17 s8 s5 s1 h Q) (
 ai .eql s8 (S ⟨#[65]⟩) fun t18=>
 ifB t18 (
 fq t18 s8 s5 s1 h Q) (
 ai .eql s8 (S ⟨#[66]⟩) fun t19=>
 ifB t19 (
 fq t19 s8 s5 s1 h Q) (
 ai .eql s8 (S ⟨#[85,53]⟩) fun t20=>
 fq t20 s8 s5 s1 h Q))))
def Bv (a0 a1:AV) (h:ae) (Q:QT):Prop:=
 C dm [a1,(I 9)] h fun t7 h0=>
 ai .eql a0 (S ⟨#[88]⟩) fun t10=>
 ifB t10 (
 jt t10 a0 t7 a1 h0 Q) (
 ai .eql a0 (S ⟨#[89]⟩) fun t11=>
 jt t11 a0 t7 a1 h0 Q)
theorem DB (a0 a1:AV) (h:ae) (Q:QT) (k:Bv a0 a1 h Q):C kJ [a0,a1] h Q:=
 okF (pl:=[]) Tryz.func69 Tryz.ntmps69 (by kernel_rfl) rfl (by kernel_rfl) k
def wd (s5:AV) (h:ae) (Q:QT):Prop:=
 Q s5 h
def CY (a0 a1:AV) (h:ae) (Q:QT):Prop:=
 ai .rem a0 a1 fun t8=>
 ai .lss t8 (I 0) fun t10=>
 ifB t10 (
 ai .add t8 a1 fun t13=>
 wd t13 h Q) (
 wd t8 h Q)
theorem EQ (a0 a1:AV) (h:ae) (Q:QT) (k:CY a0 a1 h Q):C dm [a0,a1] h Q:=
 okF (pl:=[]) Tryz.func101 Tryz.ntmps101 (by kernel_rfl) rfl (by kernel_rfl) k
def MB (a0:AV) (h:ae) (Q:QT):Prop:=
 C pn [a0,(I 0)] h fun t4 h0=>
 ai .leq t4 (I 16) fun t5=>
 Q t5 h0
theorem NO (a0:AV) (h:ae) (Q:QT) (k:MB a0 h Q):C vE [a0] h Q:=
 okF (pl:=[]) Tryz.func24 Tryz.ntmps24 (by kernel_rfl) rfl (by kernel_rfl) k
def yZ (h:ae) (Q:QT):Prop:=
 am 4 1 [(S ⟨#[98,97,115,101]⟩),(S ⟨#[120]⟩),(S ⟨#[101,110,100,95,49]⟩),(S ⟨#[114]⟩)] fun t1=>
 Q t1 h
theorem yy (h:ae) (Q:QT) (k:yZ  h Q):C rE [] h Q:=
 okF (pl:=[]) Tryz.func29 Tryz.ntmps29 (by kernel_rfl) rfl (by kernel_rfl) k
def OE (a0:AV) (h:ae) (Q:QT):Prop:=
 cP [(I 0),(I 0),(S ⟨#[]⟩),(.full 0 [])] h fun t2 h0=>
 aW a0 fun t4=>
 ai .eql t4 (I 0) fun t5=>
 ifB t5 (
 ax [(I 0),(I 0),(S ⟨#[]⟩),(.full 0 [])] [(0,1,(I 1)),(1,1,(I 1))] fun t6=>
 an 4 t2 t6 h0 fun h1=>
 aq 4 t2 h1 fun r2=>
 Q r2 h1) (
 ak 3 a0 (I 0) fun t8=>
 aq 3 t8 h0 fun t9=>
 C jy [t9] h0 fun t10 h3=>
 an 4 t2 t10 h3 fun h4=>
 aq 4 t2 h4 fun r5=>
 Q r5 h4)
theorem NE (a0:AV) (h:ae) (Q:QT) (k:OE a0 h Q):C nK [a0] h Q:=
 okF (pl:=[]) Tryz.func49 Tryz.ntmps49 (by kernel_rfl) rfl (by kernel_rfl) k
def yn (a0:AV) (h:ae) (Q:QT):Prop:=
 gF a0 h fun t1 h0=>
 cP [(I 0),(I 0),(S ⟨#[]⟩),(.full 0 [])] h0 fun t2 h1=>
 ab 0 t1 fun t4=>
 ag t4 h1 fun t5=>
 C dX [t5,(I 18)] h1 fun t6 h2=>
 ai .lss t6 (I 4) fun t18=>
 ifB t18 (
 am 8 1 [(I 0),(I 1),(I 2),(I 255),(I 65536),(I 4294967295),(I 40),(I 7)] fun t19=>
 ab 1 t1 fun t20=>
 ag t20 h2 fun t21=>
 C dX [t21,(I 8)] h2 fun t22 h3=>
 ak 1 t19 t22 fun t23=>
 ag t23 h3 fun t24=>
 ax [(I 0),(I 0),(S ⟨#[]⟩),(.full 0 [])] [(0,1,(I 1)),(1,1,t24)] fun t25=>
 an 4 t2 t25 h3 fun h4=>
 aq 4 t2 h4 fun r5=>
 Q r5 h4) (
 ai .lss t6 (I 8) fun t28=>
 ifB t28 (
 ab 1 t1 fun t30=>
 ag t30 h2 fun t31=>
 C rE [] h2 fun t29 h6=>
 (ag t30 h6 fun _t=>
 _t=t31)∧
 C dX [t31,(I 4)] h6 fun t32 h7=>
 ak 1 t29 t32 fun t33=>
 ag t33 h7 fun t34=>
 ax [(I 0),(I 0),(S ⟨#[]⟩),(.full 0 [])] [(0,1,(I 2)),(2,1,t34)] fun t35=>
 an 4 t2 t35 h7 fun h8=>
 aq 4 t2 h8 fun r9=>
 Q r9 h8) (
 ai .eql t6 (I 8) fun t38=>
 ifB t38 (
 ax [(I 0),(I 0),(S ⟨#[]⟩),(.full 0 [])] [(0,1,(I 3))] fun t39=>
 an 4 t2 t39 h2 fun h10=>
 aq 4 t2 h10 fun r11=>
 Q r11 h10) (
 ai .lss t6 (I 11) fun t42=>
 ifB t42 (
 aq 3 t1 h2 fun t43=>
 C gq [t43,(I 0)] h2 fun t44 h12=>
 am 1 4 [t44] fun t45=>
 ax [(I 0),(I 0),(S ⟨#[]⟩),(.full 0 [])] [(0,1,(I 4)),(3,1,t45)] fun t46=>
 an 4 t2 t46 h12 fun h13=>
 aq 4 t2 h13 fun r14=>
 Q r14 h13) (
 ai .add (I 5) t6 fun t8=>
 ai .sub t8 (I 11) fun t9=>
 aq 3 t1 h2 fun t10=>
 aq 3 t1 h2 fun t12=>
 C gq [t10,(I 0)] h2 fun t11 h15=>
 (aq 3 t1 h15 fun _t=>
 _t=t12)∧
 C gq [t12,(I 1)] h15 fun t13 h16=>
 am 2 4 [t11,t13] fun t14=>
 ax [(I 0),(I 0),(S ⟨#[]⟩),(.full 0 [])] [(0,1,t9),(3,1,t14)] fun t15=>
 an 4 t2 t15 h16 fun h17=>
 aq 4 t2 h17 fun r18=>
 Q r18 h17))))
theorem Cm (a0:AV) (h:ae) (Q:QT) (k:yn a0 h Q):C jy [a0] h Q:=
 okF (pl:=[(1000006,[1,2,0,3,4,5,6,7],[]),(1000002,[0,1,2,3,5,4,6,7,8,9],[])]) Tryz.func71 Tryz.ntmps71 (by kernel_rfl) rfl (by kernel_rfl) k
def yL (a0 a1:AV) (h:ae) (Q:QT):Prop:=
 gF a0 h fun t2 h0=>
 cP [(I 0),(I 0),(S ⟨#[]⟩),(.full 0 [])] h0 fun t4 h1=>
 ab 2 t2 fun t6=>
 ag t6 h1 fun t7=>
 aW t7 fun t8=>
 ai .lss a1 t8 fun t9=>
 ifB t9 (
 ab 2 t2 fun t10=>
 ag t10 h1 fun t11=>
 ak 3 t11 a1 fun t13=>
 aq 3 t13 h1 fun t14=>
 C jy [t14] h1 fun t15 h2=>
 an 4 t4 t15 h2 fun h3=>
 aq 4 t4 h3 fun r4=>
 Q r4 h3) (
 ab 1 t2 fun t16=>
 ag t16 h1 fun t17=>
 ai .add t17 a1 fun t19=>
 C dX [t19,(I 5)] h1 fun t20 h5=>
 ax [(I 0),(I 0),(S ⟨#[]⟩),(.full 0 [])] [(0,1,(I 1)),(1,1,t20)] fun t21=>
 an 4 t4 t21 h5 fun h6=>
 aq 4 t4 h6 fun r7=>
 Q r7 h6)
theorem BK (a0 a1:AV) (h:ae) (Q:QT) (k:yL a0 a1 h Q):C gq [a0,a1] h Q:=
 okF (pl:=[]) Tryz.func104 Tryz.ntmps104 (by kernel_rfl) rfl (by kernel_rfl) k
def BD (s3 s4:AV) (h:ae) (next0:NT):Prop:=
 ai .add s4 (I 1) fun t14=>
 next0 [s3,t14] h
def o6 (s3 s4:AV) (h:ae) (next0:NT):Prop:=
 BD s3 s4 h next0
def A6 (s0:AV) (Q:QT) (vs0:List AV) (h:ae) (next0:NT):Prop:=
 aW s0 fun t7=>
 ai .lss (ap vs0 1) t7 fun t8=>
 ifB t8 (ai .lss (ap vs0 1) (I 4) fun t11=>
 ifB t11 (
 ak 1 s0 (ap vs0 1) fun t17=>
 ag t17 h fun t18=>
 C dX [t18,(I 5)] h fun t19 h1=>
 ai .gtr t19 (I 0) fun t20=>
 ifB t20 (
 am 8 1 [(I 0),(I 1),(I (-1)),(I 1099511627776),(I (-1099511627776)),(I 100),(I 3),(I 1048576)] fun t26=>
 ak 1 s0 (ap vs0 1) fun t29=>
 ag t29 h1 fun t30=>
 ai .quo t30 (I 5) fun t31=>
 C rE [] h1 fun t22 h2=>
 (ag t29 h2 fun _t=>
 _t=t30)∧
 ak 1 t22 (ap vs0 1) fun t24=>
 ag t24 h2 fun t25=>
 C dX [t31,(I 8)] h2 fun t32 h3=>
 (ag t24 h3 fun _t=>
 _t=t25)∧
 ak 1 t26 t32 fun t33=>
 ag t33 h3 fun t34=>
 ax [(S ⟨#[]⟩),(I 0)] [(0,1,t25),(1,1,t34)] fun t35=>
 am 1 2 [t35] fun t36=>
 bl 2 24 (ap vs0 0) t36 h3 fun t37 h4=>
 o6 t37 (ap vs0 1) h4 next0) (
 o6 (ap vs0 0) (ap vs0 1) h1 next0)) (
 Q (ap vs0 0) h)) (
 Q (ap vs0 0) h)
def IV (a0:AV) (h:ae) (Q:QT):Prop:=
 bZ [(.full 0 []),(I 0)] h fun vs0 h next0=>A6 a0 Q vs0 h next0
theorem La (a0:AV) (h:ae) (Q:QT) (k:IV a0 h Q):C uB [a0] h Q:=
 okF (pl:=[(4,[3,4,5,6,7,8,9,10,11,12,13,14,15,16,17,18,19,20,21,22,23,24,25,26,27,28,29,30,31,32,33,34,35,36,37],[3,4]),(1000006,[0,2,5,6,7,8,9,10,1,3,4,11,12,13,14,15,16,17],[])]) Tryz.func17 Tryz.ntmps17 (by kernel_rfl) rfl (by kernel_rfl) k
def Ay (s0 s1:AV) (Q:QT) (vs0:List AV) (h:ae) (next0:NT):Prop:=
 aW s0 fun t11=>
 ai .lss (ap vs0 1) t11 fun t12=>
 ifB t12 (ai .leq (ap vs0 0) (I 16) fun t15=>
 ifB t15 (
 ai .add (ap vs0 0) (I 1) fun t20=>
 ak 3 s0 (ap vs0 1) fun t23=>
 ab 2 t23 fun t24=>
 ag t24 h fun t25=>
 ai .add s1 (I 1) fun t27=>
 C pn [t25,t27] h fun t28 h1=>
 ai .add t20 t28 fun t29=>
 ai .add (ap vs0 1) (I 1) fun t18=>
 next0 [t29,t18] h1) (
 Q (ap vs0 0) h)) (
 Q (ap vs0 0) h)
def CA (a0 a1:AV) (h:ae) (Q:QT):Prop:=
 ai .gtr a1 (I 7) fun t8=>
 ifB t8 (
 Q (I 1000) h) (
 bZ [(I 0),(I 0)] h fun vs0 h next0=>Ay a0 a1 Q vs0 h next0)
theorem Bp (a0 a1:AV) (h:ae) (Q:QT) (k:CA a0 a1 h Q):C pn [a0,a1] h Q:=
 okF (pl:=[(6,[5,6,9,10,11,12,13,14,15,16,17,18,19,20,21,22,23,24,25,26,27,28,29],[5,6])]) Tryz.func41 Tryz.ntmps41 (by kernel_rfl) rfl (by kernel_rfl) k
def v8 (s5:AV) (h:ae) (Q:QT):Prop:=
 Q s5 h
def Dc (a0 a1:AV) (h:ae) (Q:QT):Prop:=
 ai .rem a0 a1 fun t8=>
 ai .lss t8 (I 0) fun t10=>
 ifB t10 (
 ai .add t8 a1 fun t13=>
 v8 t13 h Q) (
 v8 t8 h Q)
theorem EV (a0 a1:AV) (h:ae) (Q:QT) (k:Dc a0 a1 h Q):C dX [a0,a1] h Q:=
 okF (pl:=[]) Tryz.func28 Tryz.ntmps28 (by kernel_rfl) rfl (by kernel_rfl) k
def Dh (s0:AV) (Q:QT) (vs0:List AV) (h:ae) (next0:NT):Prop:=
 aW s0 fun t6=>
 ai .lss (ap vs0 1) t6 fun t7=>
 ifB t7 (
 ak 6 s0 (ap vs0 1) fun t12=>
 ab 4 t12 fun t13=>
 ag t13 h fun t14=>
 C vE [t14] h fun t15 h1=>
 qUn .not t15 fun t16=>
 ifB t16 (Q (B false) h1) (
 ak 6 s0 (ap vs0 1) fun t20=>
 ab 3 t20 fun t21=>
 ag t21 h1 fun t22=>
 aW t22 fun t23=>
 ai .gtr t23 (I 60) fun t24=>
 ifB t24 (
 Q (B false) h1) (
 ai .add (ap vs0 1) (I 1) fun t9=>
 next0 [(ap vs0 0),t9] h1))) (
 Q (B true) h)
def Ox (a0:AV) (h:ae) (Q:QT):Prop:=
 bZ [(B false),(I 0)] h fun vs0 h next0=>Dh a0 Q vs0 h next0
theorem L3 (a0:AV) (h:ae) (Q:QT) (k:Ox a0 h Q):C nT [a0] h Q:=
 okF (pl:=[(3,[2,3,4,5,6,7,8,9,10,11,12,13,14,15,16,17,18,19,20,21,22,23,24,25],[2,3])]) Tryz.func15 Tryz.ntmps15 (by kernel_rfl) rfl (by kernel_rfl) k
def C1 (h:ae) (Q:QT):Prop:=
 am 4 1 [(S ⟨#[97]⟩),(S ⟨#[98,49]⟩),(S ⟨#[108,111,111,112]⟩),(S ⟨#[120]⟩)] fun t1=>
 Q t1 h
theorem F8 (h:ae) (Q:QT) (k:C1  h Q):C gw [] h Q:=
 okF (pl:=[]) Tryz.func12 Tryz.ntmps12 (by kernel_rfl) rfl (by kernel_rfl) k
def ix (s3 s2:AV) (h:ae) (Q:QT):Prop:=
 aq 6 s3 h fun t155=>
 an 6 s2 t155 h fun h18=>
 aq 6 s2 h18 fun r19=>
 Q r19 h18
def ji (s1:AV) (h:ae) (s3 s2:AV) (Q:QT):Prop:=
 ab 2 s1 fun t149=>
 ag t149 h fun t150=>
 C gw [] h fun t148 h15=>
 (ag t149 h15 fun _t=>
 _t=t150)∧
 C aY [t150,(I 4)] h15 fun t151 h16=>
 ak 1 t148 t151 fun t152=>
 ag t152 h16 fun t153=>
 ab 1 s3 fun t154=>
 an 1 t154 t153 h16 fun h17=>
 ix s3 s2 h17 Q
def qU (s3 s2 s1:AV) (h:ae) (Q:QT):Prop:=
 ab 5 s1 fun t141=>
 ag t141 h fun t142=>
 ifB t142 (ji s1 h s3 s2 Q) (
 ab 2 s3 fun t144=>
 ag t144 h fun t145=>
 ai .eql t145 (I 0) fun t146=>
 ifB t146 (
 ji s1 h s3 s2 Q) (
 ix s3 s2 h Q))
def cS (s3 s2 s1:AV) (h:ae) (Q:QT):Prop:=
 qU s3 s2 s1 h Q
def mi (s5 s3 s2 s1:AV) (Q:QT) (vs10:List AV) (h:ae) (next10:NT):Prop:=
 aW s5 fun t39=>
 ai .lss (ap vs10 0) t39 fun t40=>
 ifB t40 (
 ab 5 s3 fun t43=>
 ag t43 h fun t44=>
 aq 6 s1 h fun t45=>
 ak 1 s5 (ap vs10 0) fun t48=>
 ag t48 h fun t49=>
 aq 6 s1 h fun t50=>
 C gZ [t50,(ap vs10 0)] h fun t52 h11=>
 (ag t48 h11 fun _t=>
 _t=t49)∧
 (aq 6 s1 h11 fun _t=>
 _t=t45)∧
 (ag t43 h11 fun _t=>
 _t=t44)∧
 C mf [t45,t49,t52] h11 fun t53 h12=>
 (ag t43 h12 fun _t=>
 _t=t44)∧
 am 1 5 [t53] fun t54=>
 bl 5 64 t44 t54 h12 fun t55 h13=>
 ab 5 s3 fun t56=>
 an 1 t56 t55 h13 fun h14=>
 ai .add (ap vs10 0) (I 1) fun t42=>
 next10 [t42] h14) (
 cS s3 s2 s1 h Q)
def iJ (s3 s2 s1:AV) (h:ae) (Q:QT):Prop:=
 ab 5 s3 fun t81=>
 ag t81 h fun t82=>
 ab 2 s1 fun t84=>
 ag t84 h fun t85=>
 C gw [] h fun t83 h33=>
 (ag t84 h33 fun _t=>
 _t=t85)∧
 (ag t81 h33 fun _t=>
 _t=t82)∧
 C aY [t85,(I 4)] h33 fun t86 h34=>
 (ag t81 h34 fun _t=>
 _t=t82)∧
 ak 1 t83 t86 fun t87=>
 ag t87 h34 fun t88=>
 ax [(I 0),(I 0),(S ⟨#[]⟩),(.full 0 [])] [(0,1,(I 2)),(2,1,t88)] fun t89=>
 ax [(I 0),(I 0),(I 0),(S ⟨#[]⟩),(.full 0 [])] [(0,1,(I (-1))),(1,4,t89)] fun t90=>
 am 1 5 [t90] fun t91=>
 bl 5 64 t82 t91 h34 fun t92 h35=>
 ab 5 s3 fun t93=>
 an 1 t93 t92 h35 fun h36=>
 cS s3 s2 s1 h36 Q
def jv (t120:AV) (h44:ae) (t121 t3 t124 t2 t1:AV) (Q:QT):Prop:=
 (ag t120 h44 fun _t=>
 _t=t121)∧
 ab 5 t3 fun t126=>
 an 1 t126 t124 h44 fun h45=>
 cS t3 t2 t1 h45 Q
def yj (a0:AV) (h:ae) (Q:QT):Prop:=
 gF a0 h fun t1 h0=>
 cP [(I 0),(S ⟨#[]⟩),(I 0),(I 0),(S ⟨#[]⟩),(.full 0 [])] h0 fun t2 h1=>
 ax [(I 0),(S ⟨#[]⟩),(I 0),(I 0),(S ⟨#[]⟩),(.full 0 [])] [(0,1,(I 1))] fun t7=>
 cP [(I 0),(S ⟨#[]⟩),(I 0),(I 0),(S ⟨#[]⟩),(.full 0 [])] h1 fun t3 h2=>
 an 6 t3 t7 h2 fun h3=>
 ab 0 t1 fun t8=>
 ag t8 h3 fun t9=>
 C aY [t9,(I 16)] h3 fun t10 h4=>
 ai .lss t10 (I 6) fun t27=>
 ifB t27 (
 ab 1 t1 fun t28=>
 ag t28 h4 fun t29=>
 C aY [t29,(I 66)] h4 fun t30 h5=>
 ab 2 t3 fun t31=>
 an 1 t31 (I 1) h5 fun h6=>
 ab 3 t3 fun t32=>
 an 1 t32 t30 h6 fun h7=>
 ab 3 t3 fun t33=>
 ag t33 h7 fun t34=>
 C ng [t34] h7 fun t35 h8=>
 C nj [t35] h8 fun t36 h9=>
 bZ [(I 0)] h9 fun vs10 h next10=>mi t36 t3 t2 t1 Q vs10 h next10) (
 ai .lss t10 (I 9) fun t59=>
 ifB t59 (
 ab 1 t1 fun t60=>
 ag t60 h4 fun t61=>
 C aY [t61,(I 3)] h4 fun t62 h27=>
 ab 2 t3 fun t63=>
 an 1 t63 (I 2) h27 fun h28=>
 ab 3 t3 fun t64=>
 an 1 t64 t62 h28 fun h29=>
 ab 3 t3 fun t65=>
 ag t65 h29 fun t66=>
 ai .eql t66 (I 2) fun t67=>
 ifB t67 (
 ab 2 t1 fun t68=>
 ag t68 h29 fun t69=>
 ab 2 t1 fun t73=>
 ag t73 h29 fun t74=>
 ai .quo t74 (I 2) fun t75=>
 C aY [t69,(I 2)] h29 fun t70 h30=>
 (ag t73 h30 fun _t=>
 _t=t74)∧
 ax [(I 0),(I 0),(S ⟨#[]⟩),(.full 0 [])] [(0,1,(I 1)),(1,1,t70)] fun t71=>
 ax [(I 0),(I 0),(I 0),(S ⟨#[]⟩),(.full 0 [])] [(0,1,(I (-1))),(1,4,t71)] fun t72=>
 C aY [t75,(I 4)] h30 fun t76 h31=>
 ax [(I 0),(I 0),(S ⟨#[]⟩),(.full 0 [])] [(0,1,(I 1)),(1,1,t76)] fun t77=>
 ax [(I 0),(I 0),(I 0),(S ⟨#[]⟩),(.full 0 [])] [(0,1,(I (-1))),(1,4,t77)] fun t78=>
 am 2 5 [t72,t78] fun t79=>
 ab 5 t3 fun t80=>
 an 1 t80 t79 h31 fun h32=>
 iJ t3 t2 t1 h32 Q) (
 iJ t3 t2 t1 h29 Q)) (
 ai .lss t10 (I 12) fun t96=>
 ifB t96 (
 aq 6 t1 h4 fun t97=>
 ai .add (I 3) t10 fun t99=>
 ai .sub t99 (I 9) fun t100=>
 C mo [t97,t100] h4 fun t101 h38=>
 an 6 t3 t101 h38 fun h39=>
 cS t3 t2 t1 h39 Q) (
 ai .eql t10 (I 12) fun t104=>
 ifB t104 (
 am 5 1 [(S ⟨#[]⟩),(S ⟨#[104,105]⟩),(S ⟨#[97,32,35,32,98,44,32,99]⟩),(S ⟨#[48,49,50,51,52,53,54,55,56,57]⟩),(S ⟨#[116,97,98]⟩)] fun t105=>
 ab 1 t1 fun t106=>
 ag t106 h4 fun t107=>
 ab 2 t3 fun t111=>
 C aY [t107,(I 5)] h4 fun t108 h40=>
 ak 1 t105 t108 fun t109=>
 ag t109 h40 fun t110=>
 an 1 t111 (I 6) h40 fun h41=>
 (ag t109 h41 fun _t=>
 _t=t110)∧
 ab 4 t3 fun t112=>
 an 1 t112 t110 h41 fun h42=>
 cS t3 t2 t1 h42 Q) (
 ai .eql t10 (I 13) fun t115=>
 ifB t115 (
 am 6 1 [(I 1),(I 2),(I 4),(I 8),(I 16),(I 3)] fun t116=>
 ab 1 t1 fun t117=>
 ag t117 h4 fun t118=>
 ab 2 t3 fun t125=>
 C aY [t118,(I 6)] h4 fun t119 h43=>
 ak 1 t116 t119 fun t120=>
 ag t120 h43 fun t121=>
 ax [(I 0),(I 0),(S ⟨#[]⟩),(.full 0 [])] [(0,1,(I 1)),(1,1,t121)] fun t122=>
 ax [(I 0),(I 0),(I 0),(S ⟨#[]⟩),(.full 0 [])] [(0,1,(I (-1))),(1,4,t122)] fun t123=>
 am 1 5 [t123] fun t124=>
 an 1 t125 (I 7) h43 fun h44=>
 jv t120 h44 t121 t3 t124 t2 t1 Q) (
 ai .eql t10 (I 14) fun t129=>
 ifB t129 (
 am 8 1 [(I 0),(I 2),(I 100),(I 250),(I 252),(I 254),(I 256),(I 7)] fun t130=>
 ab 1 t1 fun t131=>
 ag t131 h4 fun t132=>
 ab 2 t3 fun t139=>
 C aY [t132,(I 8)] h4 fun t133 h46=>
 ak 1 t130 t133 fun t134=>
 ag t134 h46 fun t135=>
 ax [(I 0),(I 0),(S ⟨#[]⟩),(.full 0 [])] [(0,1,(I 1)),(1,1,t135)] fun t136=>
 ax [(I 0),(I 0),(I 0),(S ⟨#[]⟩),(.full 0 [])] [(0,1,(I (-1))),(1,4,t136)] fun t137=>
 am 1 5 [t137] fun t138=>
 an 1 t139 (I 8) h46 fun h47=>
 jv t134 h47 t135 t3 t138 t2 t1 Q) (
 am 3 1 [(S ⟨#[107]⟩),(S ⟨#[115,105,122,101]⟩),(S ⟨#[120]⟩)] fun t11=>
 ab 1 t1 fun t12=>
 ag t12 h4 fun t13=>
 ab 4 t1 fun t17=>
 ag t17 h4 fun t18=>
 ab 2 t3 fun t22=>
 C aY [t13,(I 3)] h4 fun t14 h49=>
 (ag t17 h49 fun _t=>
 _t=t18)∧
 ak 1 t11 t14 fun t15=>
 ag t15 h49 fun t16=>
 C nK [t18] h49 fun t19 h50=>
 (ag t15 h50 fun _t=>
 _t=t16)∧
 ax [(I 0),(I 0),(I 0),(S ⟨#[]⟩),(.full 0 [])] [(0,1,(I (-1))),(1,4,t19)] fun t20=>
 am 1 5 [t20] fun t21=>
 an 1 t22 (I 9) h50 fun h51=>
 (ag t15 h51 fun _t=>
 _t=t16)∧
 ab 4 t3 fun t23=>
 an 1 t23 t16 h51 fun h52=>
 ab 5 t3 fun t24=>
 an 1 t24 t21 h52 fun h53=>
 cS t3 t2 t1 h53 Q))))))
theorem BR (a0:AV) (h:ae) (Q:QT) (k:yj a0 h Q):C mY [a0] h Q:=
 okF (pl:=[(9,[6,37,38,39,40,41,42,43,44,45,46,47,48,49,50,51,52,53,54,55,56],[6]),(1000010,[0,1,2,3,4,5,6,7,8,9,10,11,12,13,14],[]),(1000025,[1,2,0,3,4,5,6,7],[]),(1000014,[0,1,5,6,7,2,3,4,8,9,10,11,12,13],[]),(1000015,[0,1,3,4,2,5,6,7,8,9,10,11,12,13],[]),(1000019,[0,1,2,6,3,4,5,7,8,9],[]),(1000021,[0,1,2,9,3,4,5,6,7,8,10,11,12],[]),(1000023,[0,1,2,9,3,4,5,6,7,8,10,11,12],[]),(1000003,[0,1,2,6,7,11,3,4,5,8,9,10,12,13,14,15,16],[])]) Tryz.func27 Tryz.ntmps27 (by kernel_rfl) rfl (by kernel_rfl) k
def pW (s7 s6 s5:AV) (h:ae) (next4:NT):Prop:=
 ab 5 s5 fun t52=>
 ag t52 h fun t53=>
 aq 5 s7 h fun t54=>
 am 1 5 [t54] fun t55=>
 bl 5 64 t53 t55 h fun t56 h12=>
 ab 5 s5 fun t57=>
 an 1 t57 t56 h12 fun h13=>
 ai .add s6 (I 1) fun t17=>
 next4 [t17] h13
def eY (s7 s6 s5:AV) (h:ae) (next4:NT):Prop:=
 pW s7 s6 s5 h next4
def iz (t21:AV) (h9:ae) (t7:AV) (vs4:List AV) (s5:AV) (next4:NT):Prop:=
 C aY [t21,(I 6)] h9 fun t42 h16=>
 ai .eql t42 (I 1) fun t43=>
 ifB t43 (
 C gw [] h16 fun t44 h17=>
 ai .quo t21 (I 6) fun t46=>
 C aY [t46,(I 4)] h17 fun t47 h18=>
 ak 1 t44 t47 fun t48=>
 ag t48 h18 fun t49=>
 ax [(I 0),(I 0),(S ⟨#[]⟩),(.full 0 [])] [(0,1,(I 2)),(2,1,t49)] fun t50=>
 ab 1 t7 fun t51=>
 an 4 t51 t50 h18 fun h19=>
 eY t7 (ap vs4 0) s5 h19 next4) (
 C aY [t21,(I 256)] h16 fun t23 h20=>
 ax [(I 0),(I 0),(S ⟨#[]⟩),(.full 0 [])] [(0,1,(I 1)),(1,1,t23)] fun t24=>
 ab 1 t7 fun t25=>
 an 4 t25 t24 h20 fun h21=>
 eY t7 (ap vs4 0) s5 h21 next4)
def qj (s5 s4 s2:AV) (Q:QT) (vs4:List AV) (h:ae) (next4:NT):Prop:=
 ab 2 s2 fun t12=>
 ag t12 h fun t13=>
 C aY [t13,(I 4)] h fun t14 h5=>
 ai .leq (ap vs4 0) t14 fun t15=>
 ifB t15 (
 ax [(I 0),(I 0),(I 0),(S ⟨#[]⟩),(.full 0 [])] [(0,1,(I (-1)))] fun t18=>
 cP [(I 0),(I 0),(I 0),(S ⟨#[]⟩),(.full 0 [])] h5 fun t7 h6=>
 an 5 t7 t18 h6 fun h7=>
 aq 6 s2 h7 fun t19=>
 C gZ [t19,(ap vs4 0)] h7 fun t21 h8=>
 C aY [t21,(I 6)] h8 fun t28 h9=>
 ai .eql t28 (I 0) fun t29=>
 ifB t29 (ab 4 s2 fun t31=>
 ag t31 h9 fun t32=>
 aW t32 fun t33=>
 ai .gtr t33 (I 0) fun t34=>
 ifB t34 (
 ab 4 s2 fun t36=>
 ag t36 h9 fun t37=>
 C nK [t37] h9 fun t38 h10=>
 ab 1 t7 fun t39=>
 an 4 t39 t38 h10 fun h11=>
 eY t7 (ap vs4 0) s5 h11 next4) (
 iz t21 h9 t7 vs4 s5 next4)) (
 iz t21 h9 t7 vs4 s5 next4)) (
 aq 6 s5 h5 fun t58=>
 an 6 s4 t58 h5 fun h28=>
 aq 6 s4 h28 fun r29=>
 Q r29 h28)
def vH (a0 a1:AV) (h:ae) (Q:QT):Prop:=
 gF a0 h fun t2 h0=>
 cP [(I 0),(S ⟨#[]⟩),(I 0),(I 0),(S ⟨#[]⟩),(.full 0 [])] h0 fun t4 h1=>
 ax [(I 0),(S ⟨#[]⟩),(I 0),(I 0),(S ⟨#[]⟩),(.full 0 [])] [(0,1,(I 1)),(2,1,a1)] fun t10=>
 cP [(I 0),(S ⟨#[]⟩),(I 0),(I 0),(S ⟨#[]⟩),(.full 0 [])] h1 fun t5 h2=>
 an 6 t5 t10 h2 fun h3=>
 bZ [(I 0)] h3 fun vs4 h next4=>qj t5 t4 t2 Q vs4 h next4
theorem A2 (a0 a1:AV) (h:ae) (Q:QT) (k:vH a0 a1 h Q):C mo [a0,a1] h Q:=
 okF (pl:=[(4,[6,7,8,11,12,13,14,15,16,17,18,19,20,21,22,23,24,25,26,27,28,29,30,31,32,33,34,35,36,37,38,39,40,41,42,43,44,45,46,47,48,49,50,51,52,53,54,55,56,57],[6])]) Tryz.func48 Tryz.ntmps48 (by kernel_rfl) rfl (by kernel_rfl) k
def va (a0 a1:AV) (h:ae) (Q:QT):Prop:=
 gF a0 h fun t2 h0=>
 ab 3 t2 fun t6=>
 ag t6 h0 fun t7=>
 aW t7 fun t8=>
 ai .lss a1 t8 fun t9=>
 ifB t9 (
 ab 3 t2 fun t10=>
 ag t10 h0 fun t11=>
 ak 1 t11 a1 fun t13=>
 ag t13 h0 fun t14=>
 Q t14 h0) (
 ab 1 t2 fun t15=>
 ag t15 h0 fun t16=>
 ai .add t16 a1 fun t18=>
 Q t18 h0)
theorem zz (a0 a1:AV) (h:ae) (Q:QT) (k:va a0 a1 h Q):C gZ [a0,a1] h Q:=
 okF (pl:=[]) Tryz.func47 Tryz.ntmps47 (by kernel_rfl) rfl (by kernel_rfl) k
def pQ (s7 s6:AV) (h:ae) (Q:QT):Prop:=
 aq 5 s7 h fun t49=>
 an 5 s6 t49 h fun h11=>
 aq 5 s6 h11 fun r12=>
 Q r12 h11
def eS (s7 s6:AV) (h:ae) (Q:QT):Prop:=
 pQ s7 s6 h Q
def io (a1:AV) (h8:ae) (a2 t7 t6:AV) (Q:QT):Prop:=
 bk a1 (I 0) fun t40=>
 ai .eql t40 (.lit (.int .u8 84)) fun t41=>
 ifB t41 (
 C gw [] h8 fun t42 h15=>
 C aY [a2,(I 4)] h15 fun t44 h16=>
 ak 1 t42 t44 fun t45=>
 ag t45 h16 fun t46=>
 ax [(I 0),(I 0),(S ⟨#[]⟩),(.full 0 [])] [(0,1,(I 2)),(2,1,t46)] fun t47=>
 ab 1 t7 fun t48=>
 an 4 t48 t47 h16 fun h17=>
 eS t7 t6 h17 Q) (
 C kJ [a1,a2] h8 fun t18 h18=>
 C dk [t18] h18 fun t19 h19=>
 C sa [t19] h19 fun t20 h20=>
 ao 0 t20 fun t21=>
 ao 1 t20 fun t22=>
 ab 1 t7 fun t23=>
 an 4 t23 t21 h20 fun h21=>
 eS t7 t6 h21 Q)
def wL (a0 a1 a2:AV) (h:ae) (Q:QT):Prop:=
 gF a0 h fun t3 h0=>
 cP [(I 0),(I 0),(I 0),(S ⟨#[]⟩),(.full 0 [])] h0 fun t6 h1=>
 C tf [a1] h1 fun t9 h2=>
 ifB t9 (
 C kJ [a1,a2] h2 fun t12 h3=>
 ax [(I 0),(I 0),(I 0),(S ⟨#[]⟩),(.full 0 [])] [(0,1,t12)] fun t13=>
 an 5 t6 t13 h3 fun h4=>
 aq 5 t6 h4 fun r5=>
 Q r5 h4) (
 ax [(I 0),(I 0),(I 0),(S ⟨#[]⟩),(.full 0 [])] [(0,1,(I (-1)))] fun t14=>
 cP [(I 0),(I 0),(I 0),(S ⟨#[]⟩),(.full 0 [])] h2 fun t7 h6=>
 an 5 t7 t14 h6 fun h7=>
 C aY [a2,(I 5)] h7 fun t26 h8=>
 ai .eql t26 (I 0) fun t27=>
 ifB t27 (ab 4 t3 fun t29=>
 ag t29 h8 fun t30=>
 aW t30 fun t31=>
 ai .gtr t31 (I 0) fun t32=>
 ifB t32 (
 ab 4 t3 fun t34=>
 ag t34 h8 fun t35=>
 C nK [t35] h8 fun t36 h9=>
 ab 1 t7 fun t37=>
 an 4 t37 t36 h9 fun h10=>
 eS t7 t6 h10 Q) (
 io a1 h8 a2 t7 t6 Q)) (
 io a1 h8 a2 t7 t6 Q))
theorem A4 (a0 a1 a2:AV) (h:ae) (Q:QT) (k:wL a0 a1 a2 h Q):C mf [a0,a1,a2] h Q:=
 okF (pl:=[]) Tryz.func46 Tryz.ntmps46 (by kernel_rfl) rfl (by kernel_rfl) k
def uX (s7:AV) (h:ae) (Q:QT):Prop:=
 Q s7 h
def pt (s7:AV) (h:ae) (Q:QT):Prop:=
 uX s7 h Q
def zZ (s10 s7 s8 s2:AV) (h:ae) (next0:NT) (Q:QT):Prop:=
 bK s7 fun t45=>
 bK s10 fun t47=>
 ai .add t45 t47 fun t48=>
 ai .add t48 (I 1) fun t49=>
 ai .gtr t49 s2 fun t51=>
 ifB t51 (
 pt s7 h Q) (
 ai .add s7 s10 fun t54=>
 ai .add t54 (S ⟨#[10]⟩) fun t55=>
 ai .add s8 (I 1) fun t16=>
 next0 [t55,t16] h)
def jD (s10 s7 s8 s2:AV) (h:ae) (next0:NT) (Q:QT):Prop:=
 zZ s10 s7 s8 s2 h next0 Q
def pv (s9 s7 s8 s0 s2:AV) (h:ae) (next0:NT) (Q:QT):Prop:=
 ak 6 s0 s8 fun t28=>
 aq 6 t28 h fun t29=>
 C mY [t29] h fun t30 h2=>
 C uY [t30] h2 fun t31 h3=>
 ai .eql s9 (I 0) fun t34=>
 ifB t34 (
 jD (S ⟨#[]⟩) s7 s8 s2 h3 next0 Q) (
 ai .eql s9 (I 1) fun t36=>
 ifB t36 (
 ai .add (S ⟨#[35,32]⟩) t31 fun t38=>
 jD t38 s7 s8 s2 h3 next0 Q) (
 ai .eql s9 (I 2) fun t40=>
 ifB t40 (
 ai .add (S ⟨#[32,32]⟩) t31 fun t42=>
 ai .add t42 (S ⟨#[32,32,35,32,101,110,100]⟩) fun t43=>
 jD t43 s7 s8 s2 h3 next0 Q) (
 jD t31 s7 s8 s2 h3 next0 Q)))
def Bk (s0 s1 s2:AV) (Q:QT) (vs0:List AV) (h:ae) (next0:NT):Prop:=
 aW s0 fun t13=>
 ai .lss (ap vs0 1) t13 fun t14=>
 ifB t14 (
 aW s1 fun t19=>
 ai .lss (ap vs0 1) t19 fun t20=>
 ifB t20 (
 ak 1 s1 (ap vs0 1) fun t23=>
 ag t23 h fun t24=>
 C aY [t24,(I 24)] h fun t25 h1=>
 pv t25 (ap vs0 0) (ap vs0 1) s0 s2 h1 next0 Q) (
 pv (I 9) (ap vs0 0) (ap vs0 1) s0 s2 h next0 Q)) (
 pt (ap vs0 0) h Q)
def Ju (a0 a1 a2:AV) (h:ae) (Q:QT):Prop:=
 bZ [(S ⟨#[]⟩),(I 0)] h fun vs0 h next0=>Bk a0 a1 a2 Q vs0 h next0
theorem Kq (a0 a1 a2:AV) (h:ae) (Q:QT) (k:Ju a0 a1 a2 h Q):C mn [a0,a1,a2] h Q:=
 okF (pl:=[(4,[7,8,9,10,11,12,13,14,15,16,17,18,19,20,21,22,23,24,25,26,27,28,29,30,31,32,33,34,35,36,37,38,39,40,41,42,43,44,45,46,47,48,49,50,51,52,53,54,55],[7,8])]) Tryz.func16 Tryz.ntmps16 (by kernel_rfl) rfl (by kernel_rfl) k
def yf (a0:AV) (h:ae) (Q:QT):Prop:=
 C jB [a0] h fun t4 h0=>
 Q t4 h0
theorem CF (a0:AV) (h:ae) (Q:QT) (k:yf a0 h Q):C tf [a0] h Q:=
 okF (pl:=[]) Tryz.func68 Tryz.ntmps68 (by kernel_rfl) rfl (by kernel_rfl) k
def w9 (s5:AV) (h:ae) (Q:QT):Prop:=
 Q s5 h
def C0 (a0 a1:AV) (h:ae) (Q:QT):Prop:=
 ai .rem a0 a1 fun t8=>
 ai .lss t8 (I 0) fun t10=>
 ifB t10 (
 ai .add t8 a1 fun t13=>
 w9 t13 h Q) (
 w9 t8 h Q)
theorem Er (a0 a1:AV) (h:ae) (Q:QT) (k:C0 a0 a1 h Q):C aY [a0,a1] h Q:=
 okF (pl:=[]) Tryz.func25 Tryz.ntmps25 (by kernel_rfl) rfl (by kernel_rfl) k
def il (s10 s9 s2 s8 s7:AV) (h:ae) (next5:NT) (Q:QT):Prop:=
 ab 2 s9 fun t51=>
 ag t51 h fun t52=>
 ai .lss t52 (I 1) fun t53=>
 ifB t53 (Q (B false) h) (
 ab 2 s9 fun t55=>
 ag t55 h fun t56=>
 ai .gtr t56 (I 8) fun t57=>
 ifB t57 (Q (B false) h) (
 ab 2 s10 fun t60=>
 ag t60 h fun t61=>
 ai .lss t61 (I 1) fun t62=>
 ifB t62 (Q (B false) h) (
 ab 2 s10 fun t65=>
 ag t65 h fun t66=>
 ai .gtr t66 (I 8) fun t67=>
 ifB t67 (Q (B false) h) (
 ab 2 s9 fun t71=>
 ag t71 h fun t72=>
 ak 1 s7 t72 fun t73=>
 ag t73 h fun t74=>
 ab 2 s10 fun t76=>
 ag t76 h fun t77=>
 ak 1 s7 t77 fun t78=>
 ag t78 h fun t79=>
 ai .neq t74 t79 fun t80=>
 ifB t80 (
 Q (B false) h) (
 ab 0 s9 fun t82=>
 ag t82 h fun t83=>
 ab 0 s10 fun t84=>
 ag t84 h fun t85=>
 ai .gtr t83 t85 fun t86=>
 ifB t86 (Q (B false) h) (
 ab 0 s9 fun t88=>
 ag t88 h fun t89=>
 ab 0 s10 fun t90=>
 ag t90 h fun t91=>
 ai .eql t89 t91 fun t92=>
 ifT t92 (ab 1 s9 fun t94=>
 ag t94 h fun t95=>
 ab 1 s10 fun t96=>
 ag t96 h fun t97=>
 ai .gtr t95 t97 fun t98=>
 ifB t98 (
 Q (B false) h) (
 ai .add s8 (I 1) fun t41=>
 next5 [s2,t41] h)) (
 ai .add s8 (I 1) fun t41=>
 next5 [s2,t41] h) (
 ifB (.tup []) (ifB (.tup []) (
 Q (B false) h) (
 ai .add s8 (I 1) fun t41=>
 next5 [s2,t41] h)) (ai .add s8 (I 1) fun t41=>
 next5 [s2,t41] h))))))))
def qN (s7 s6:AV) (Q:QT) (vs5:List AV) (h:ae) (next5:NT):Prop:=
 aW s6 fun t38=>
 ai .lss (ap vs5 1) t38 fun t39=>
 ifB t39 (
 (ai .sub (ap vs5 1) (I 1) fun t44=>
 ak 3 s6 t44 fun t45=>
 aq 3 t45 h fun t46=>
 ak 3 s6 (ap vs5 1) fun t49=>
 aq 3 t49 h fun t50=>
 cP [(S ⟨#[]⟩),(I 0),(I 0)] h fun t9 h6=>
 (aq 3 t49 h6 fun _t=>
 _t=t50)∧
 (aq 3 t45 h6 fun _t=>
 _t=t46)∧
 cP [(S ⟨#[]⟩),(I 0),(I 0)] h6 fun t10 h7=>
 (aq 3 t49 h7 fun _t=>
 _t=t50)∧
 (aq 3 t45 h7 fun _t=>
 _t=t46)∧
 an 3 t9 t46 h7 fun h8=>
 (aq 3 t49 h8 fun _t=>
 _t=t50)∧
 an 3 t10 t50 h8 fun h9=>
 il t10 t9 (ap vs5 0) (ap vs5 1) s7 h9 next5 Q)∧(
 ai .sub (ap vs5 1) (I 1) fun t44=>
 ak 3 s6 t44 fun t45=>
 aq 3 t45 h fun t46=>
 ak 3 s6 (ap vs5 1) fun t49=>
 aq 3 t49 h fun t50=>
 cP [(S ⟨#[]⟩),(I 0),(I 0)] h fun t10 h11=>
 (aq 3 t49 h11 fun _t=>
 _t=t50)∧
 (aq 3 t45 h11 fun _t=>
 _t=t46)∧
 cP [(S ⟨#[]⟩),(I 0),(I 0)] h11 fun t9 h12=>
 (aq 3 t49 h12 fun _t=>
 _t=t50)∧
 (aq 3 t45 h12 fun _t=>
 _t=t46)∧
 an 3 t9 t46 h12 fun h13=>
 (aq 3 t49 h13 fun _t=>
 _t=t50)∧
 an 3 t10 t50 h13 fun h14=>
 il t10 t9 (ap vs5 0) (ap vs5 1) s7 h14 next5 Q)) (
 Q (B true) h)
def rp (s10 s9 s2 s8 s7:AV) (h:ae) (next16:NT) (Q:QT):Prop:=
 ab 2 s9 fun t51=>
 ag t51 h fun t52=>
 ai .lss t52 (I 1) fun t53=>
 ifB t53 (Q (B false) h) (
 ab 2 s9 fun t55=>
 ag t55 h fun t56=>
 ai .gtr t56 (I 8) fun t57=>
 ifB t57 (Q (B false) h) (
 ab 2 s10 fun t60=>
 ag t60 h fun t61=>
 ai .lss t61 (I 1) fun t62=>
 ifB t62 (Q (B false) h) (
 ab 2 s10 fun t65=>
 ag t65 h fun t66=>
 ai .gtr t66 (I 8) fun t67=>
 ifB t67 (Q (B false) h) (
 ab 2 s9 fun t71=>
 ag t71 h fun t72=>
 ak 1 s7 t72 fun t73=>
 ag t73 h fun t74=>
 ab 2 s10 fun t76=>
 ag t76 h fun t77=>
 ak 1 s7 t77 fun t78=>
 ag t78 h fun t79=>
 ai .neq t74 t79 fun t80=>
 ifB t80 (
 Q (B false) h) (
 ab 0 s9 fun t82=>
 ag t82 h fun t83=>
 ab 0 s10 fun t84=>
 ag t84 h fun t85=>
 ai .gtr t83 t85 fun t86=>
 ifB t86 (Q (B false) h) (
 ab 0 s9 fun t88=>
 ag t88 h fun t89=>
 ab 0 s10 fun t90=>
 ag t90 h fun t91=>
 ai .eql t89 t91 fun t92=>
 ifT t92 (ab 1 s9 fun t94=>
 ag t94 h fun t95=>
 ab 1 s10 fun t96=>
 ag t96 h fun t97=>
 ai .gtr t95 t97 fun t98=>
 ifB t98 (
 Q (B false) h) (
 ai .add s8 (I 1) fun t41=>
 next16 [s2,t41] h)) (
 ai .add s8 (I 1) fun t41=>
 next16 [s2,t41] h) (
 ifB (.tup []) (ifB (.tup []) (
 Q (B false) h) (
 ai .add s8 (I 1) fun t41=>
 next16 [s2,t41] h)) (ai .add s8 (I 1) fun t41=>
 next16 [s2,t41] h))))))))
def rq (s7 s6:AV) (Q:QT) (vs16:List AV) (h:ae) (next16:NT):Prop:=
 aW s6 fun t38=>
 ai .lss (ap vs16 1) t38 fun t39=>
 ifB t39 (
 (ai .sub (ap vs16 1) (I 1) fun t44=>
 ak 3 s6 t44 fun t45=>
 aq 3 t45 h fun t46=>
 ak 3 s6 (ap vs16 1) fun t49=>
 aq 3 t49 h fun t50=>
 cP [(S ⟨#[]⟩),(I 0),(I 0)] h fun t9 h17=>
 (aq 3 t49 h17 fun _t=>
 _t=t50)∧
 (aq 3 t45 h17 fun _t=>
 _t=t46)∧
 cP [(S ⟨#[]⟩),(I 0),(I 0)] h17 fun t10 h18=>
 (aq 3 t49 h18 fun _t=>
 _t=t50)∧
 (aq 3 t45 h18 fun _t=>
 _t=t46)∧
 an 3 t9 t46 h18 fun h19=>
 (aq 3 t49 h19 fun _t=>
 _t=t50)∧
 an 3 t10 t50 h19 fun h20=>
 rp t10 t9 (ap vs16 0) (ap vs16 1) s7 h20 next16 Q)∧(
 ai .sub (ap vs16 1) (I 1) fun t44=>
 ak 3 s6 t44 fun t45=>
 aq 3 t45 h fun t46=>
 ak 3 s6 (ap vs16 1) fun t49=>
 aq 3 t49 h fun t50=>
 cP [(S ⟨#[]⟩),(I 0),(I 0)] h fun t10 h22=>
 (aq 3 t49 h22 fun _t=>
 _t=t50)∧
 (aq 3 t45 h22 fun _t=>
 _t=t46)∧
 cP [(S ⟨#[]⟩),(I 0),(I 0)] h22 fun t9 h23=>
 (aq 3 t49 h23 fun _t=>
 _t=t50)∧
 (aq 3 t45 h23 fun _t=>
 _t=t46)∧
 an 3 t9 t46 h23 fun h24=>
 (aq 3 t49 h24 fun _t=>
 _t=t50)∧
 an 3 t10 t50 h24 fun h25=>
 rp t10 t9 (ap vs16 0) (ap vs16 1) s7 h25 next16 Q)) (
 Q (B true) h)
def yb (a0:AV) (h:ae) (Q:QT):Prop:=
 gF a0 h fun t1 h0=>
 C nn [] h0 fun t11 h1=>
 qUn .not t11 fun t12=>
 ifB t12 (
 Q (B false) h1) (
 aq 5 t1 h1 fun t13=>
 C lR [t13] h1 fun t14 h2=>
 qUn .not t14 fun t15=>
 ifB t15 (
 Q (B true) h2) (
 aq 5 t1 h2 fun t17=>
 C kX [t17] h2 fun t18 h3=>
 ao 0 t18 fun t19=>
 ao 1 t18 fun t20=>
 C fp [t19,t20] h3 fun t24 h4=>
 ao 0 t24 fun t25=>
 ao 1 t24 fun t26=>
 aW t26 fun t28=>
 ai .gtr t28 (I 0) fun t29=>
 ifB t29 (aW t25 fun t32=>
 ai .gtr t32 (I 0) fun t33=>
 ifB t33 (
 Q (B false) h4) (
 am 9 1 [(I 0),(I 1),(I 2),(I 3),(I 5),(I 5),(I 5),(I 5),(I 4)] fun t35=>
 bZ [(B false),(I 1)] h4 fun vs5 h next5=>qN t35 t26 Q vs5 h next5)) (
 am 9 1 [(I 0),(I 1),(I 2),(I 3),(I 5),(I 5),(I 5),(I 5),(I 4)] fun t35=>
 bZ [(B false),(I 1)] h4 fun vs16 h next16=>rq t35 t26 Q vs16 h next16)))
theorem B7 (a0:AV) (h:ae) (Q:QT) (k:yb a0 h Q):C mN [a0] h Q:=
 okF (pl:=[(12,[2,8,9,10,36,37,38,39,40,41,42,43,44,45,46,47,48,49,50,51,52,53,54,55,56,57,58,59,60,61,62,63,64,65,66,67,68,69,70,71,72,73,74,75,76,77,78,79,80,81,82,83,84,85,86,87,88,89,90,91,92,93,94,95,96,97,98,99,100],[2,8]),(1000013,[0,1,2,3,4,5,6,7,8,9,10,11,12],[9,10,0,1,2,3,4,5,6,7,8,10,9,11,12]),(1000014,[0,1,2,3,4,5,6,7,8,9,10,11,12,13,14,15,16,17,18,19,20,21,22,23,24,25,26,27,28,29,30],[])]) Tryz.func3 Tryz.ntmps3 (by kernel_rfl) rfl (by kernel_rfl) k
def wS (a0:AV) (h:ae) (Q:QT):Prop:=
 gF a0 h fun t1 h0=>
 ab 0 t1 fun t3=>
 ag t3 h0 fun t4=>
 aW t4 fun t5=>
 ab 1 t1 fun t6=>
 ag t6 h0 fun t7=>
 aW t7 fun t8=>
 ai .add t5 t8 fun t9=>
 ab 2 t1 fun t10=>
 ag t10 h0 fun t11=>
 aW t11 fun t12=>
 ai .add t9 t12 fun t13=>
 ai .leq t13 (I 40) fun t14=>
 ifB t14 (ab 0 t1 fun t16=>
 ag t16 h0 fun t17=>
 C nT [t17] h0 fun t18 h1=>
 ifB t18 (ab 1 t1 fun t21=>
 ag t21 h1 fun t22=>
 C nT [t22] h1 fun t23 h2=>
 ifB t23 (ab 2 t1 fun t26=>
 ag t26 h2 fun t27=>
 C nT [t27] h2 fun t28 h3=>
 ifB t28 (ab 3 t1 fun t31=>
 ag t31 h3 fun t32=>
 aW t32 fun t33=>
 ai .leq t33 (I 60) fun t34=>
 Q t34 h3) (
 Q (B false) h3)) (
 Q (B false) h2)) (
 Q (B false) h1)) (
 Q (B false) h0)
theorem AQ (a0:AV) (h:ae) (Q:QT) (k:wS a0 h Q):C lR [a0] h Q:=
 okF (pl:=[]) Tryz.func7 Tryz.ntmps7 (by kernel_rfl) rfl (by kernel_rfl) k
def vk (a0:AV) (h:ae) (Q:QT):Prop:=
 gF a0 h fun t1 h0=>
 ab 0 t1 fun t5=>
 ag t5 h0 fun t6=>
 ab 3 t1 fun t7=>
 ag t7 h0 fun t8=>
 ab 1 t1 fun t11=>
 ag t11 h0 fun t12=>
 ab 3 t1 fun t13=>
 ag t13 h0 fun t14=>
 ab 2 t1 fun t17=>
 ag t17 h0 fun t18=>
 C mn [t6,t8,(I 600)] h0 fun t9 h1=>
 (ag t17 h1 fun _t=>
 _t=t18)∧
 (ag t13 h1 fun _t=>
 _t=t14)∧
 (ag t11 h1 fun _t=>
 _t=t12)∧
 ax [(S ⟨#[]⟩),(S ⟨#[]⟩)] [(0,1,(S ⟨#[109,97,105,110]⟩)),(1,1,t9)] fun t10=>
 C mn [t12,t14,(I 600)] h1 fun t15 h2=>
 (ag t17 h2 fun _t=>
 _t=t18)∧
 ax [(S ⟨#[]⟩),(S ⟨#[]⟩)] [(0,1,(S ⟨#[109,111,114,101]⟩)),(1,1,t15)] fun t16=>
 C mn [t18,(.full 0 []),(I 600)] h2 fun t19 h3=>
 ax [(S ⟨#[]⟩),(S ⟨#[]⟩)] [(0,1,(S ⟨#[122]⟩)),(1,1,t19)] fun t20=>
 am 3 2 [t10,t16,t20] fun t21=>
 ab 4 t1 fun t23=>
 ag t23 h3 fun t24=>
 C uB [t24] h3 fun t25 h4=>
 Q (.tup [t21,t25]) h4
theorem zt (a0:AV) (h:ae) (Q:QT) (k:vk a0 h Q):C kX [a0] h Q:=
 okF (pl:=[(1000001,[0,1,2,3,6,7,8,9,12,13,4,5,10,11,14,15,16,17],[])]) Tryz.func8 Tryz.ntmps8 (by kernel_rfl) rfl (by kernel_rfl) k
def G4 (h:ae) (Q:QT):Prop:=
 C fp [(.full 0 []),(.full 0 [])] h fun t10 h0=>
 ao 0 t10 fun t11=>
 ao 1 t10 fun t12=>
 ax [(S ⟨#[]⟩),(S ⟨#[]⟩)] [(0,1,(S ⟨#[97]⟩)),(1,1,(S ⟨#[103,111,58,32,98,32,103,111,10,46,98,121,116,101,32,107]⟩))] fun t14=>
 am 1 2 [t14] fun t15=>
 ax [(S ⟨#[]⟩),(I 0)] [(0,1,(S ⟨#[107]⟩)),(1,1,(I 7))] fun t16=>
 am 1 2 [t16] fun t17=>
 C fp [t15,t17] h0 fun t18 h1=>
 ao 0 t18 fun t19=>
 ao 1 t18 fun t20=>
 ax [(S ⟨#[]⟩),(S ⟨#[]⟩)] [(0,1,(S ⟨#[97]⟩)),(1,1,(S ⟨#[110,111,112]⟩))] fun t22=>
 am 1 2 [t22] fun t23=>
 C fp [t23,(.full 0 [])] h1 fun t24 h2=>
 ao 0 t24 fun t25=>
 ao 1 t24 fun t26=>
 ax [(S ⟨#[]⟩),(S ⟨#[]⟩)] [(0,1,(S ⟨#[97]⟩)),(1,1,(S ⟨#[103,111,58,32,98,32,103,111]⟩))] fun t28=>
 am 1 2 [t28] fun t29=>
 C uN [t29,(.full 0 [])] h2 fun t30 h3=>
 ao 0 t30 fun t31=>
 ao 1 t30 fun t32=>
 aW t11 fun t34=>
 ai .eql t34 (I 0) fun t35=>
 ifB t35 (aW t12 fun t38=>
 ai .eql t38 (I 0) fun t39=>
 ifB t39 (aW t20 fun t43=>
 ai .eql t43 (I 0) fun t44=>
 ifB t44 (aW t19 fun t48=>
 ai .eql t48 (I 3) fun t49=>
 ifB t49 (ak 1 t19 (I 0) fun t53=>
 ag t53 h3 fun t54=>
 ai .eql t54 (.lit (.int .u8 232)) fun t55=>
 ifB t55 (ak 1 t19 (I 2) fun t59=>
 ag t59 h3 fun t60=>
 ai .eql t60 (.lit (.int .u8 7)) fun t61=>
 ifB t61 (aW t26 fun t65=>
 ai .eql t65 (I 1) fun t66=>
 ifB t66 (ak 3 t26 (I 0) fun t70=>
 ab 2 t70 fun t71=>
 ag t71 h3 fun t72=>
 ai .eql t72 (I 1) fun t73=>
 ifB t73 (ifB t32 (aW t31 fun t80=>
 ai .eql t80 (I 1) fun t81=>
 ifB t81 (ak 1 t31 (I 0) fun t85=>
 ag t85 h3 fun t86=>
 ai .eql t86 (I 2) fun t87=>
 Q t87 h3) (
 Q (B false) h3)) (
 Q (B false) h3)) (
 Q (B false) h3)) (
 Q (B false) h3)) (
 Q (B false) h3)) (
 Q (B false) h3)) (
 Q (B false) h3)) (
 Q (B false) h3)) (
 Q (B false) h3)) (
 Q (B false) h3)
theorem HE (h:ae) (Q:QT) (k:G4  h Q):C nn [] h Q:=
 okF (pl:=[]) Tryz.func6 Tryz.ntmps6 (by kernel_rfl) rfl (by kernel_rfl) k
def Fw (a0:AV) (h:ae) (Q:QT):Prop:=
 C oY [a0,(S ⟨#[32]⟩)] h fun t8 h0=>
 ao 0 t8 fun t9=>
 ao 1 t8 fun t10=>
 ao 2 t8 fun t11=>
 cP [(S ⟨#[]⟩),(S ⟨#[]⟩),(S ⟨#[]⟩)] h0 fun t3 h1=>
 an 3 t3 t9 h1 fun h2=>
 ab 2 t3 fun t12=>
 ag t12 h2 fun t13=>
 Q t13 h2
theorem H0 (a0:AV) (h:ae) (Q:QT) (k:Fw a0 h Q):C ng [a0] h Q:=
 okF (pl:=[]) Tryz.func45 Tryz.ntmps45 (by kernel_rfl) rfl (by kernel_rfl) k
def Jo (a0:AV) (h:ae) (Q:QT):Prop:=
 C oY [a0,(S ⟨#[32]⟩)] h fun t8 h0=>
 ao 0 t8 fun t9=>
 ao 1 t8 fun t10=>
 ao 2 t8 fun t11=>
 cP [(S ⟨#[]⟩),(S ⟨#[]⟩),(S ⟨#[]⟩)] h0 fun t3 h1=>
 an 3 t3 t9 h1 fun h2=>
 ab 0 t3 fun t12=>
 ag t12 h2 fun t13=>
 Q t13 h2
theorem LB (a0:AV) (h:ae) (Q:QT) (k:Jo a0 h Q):C tL [a0] h Q:=
 okF (pl:=[]) Tryz.func64 Tryz.ntmps64 (by kernel_rfl) rfl (by kernel_rfl) k
def ref2_find_k1:ByteArray:=⟨#[115,101,95,105,108,108,101,103,97,108,58,48,48,48,48,58,124,115,101,95,105,115,121,110,99,58,48,48,48,49,58,124,115,101,95,115,99,58,48,48,48,50,58,124,115,101,95,98,108,114,58,48,48,48,52,58,124,115,101,95,98,99,116,114,58,48,48,48,54,58,124,115,101,95,110,111,116,58,48,48,50,48,58,88,124,115,101,95,110,101,103,58,48,48,51,48,58,88,124,115,101,95,109,102,108,114,58,48,48,56,48,58,88,124,115,101,95,109,116,108,114,58,48,48,57,48,58,88,124,115,101,95,109,102,99,116,114,58,48,48,97,48,58,88,124,115,101,95,109,116,99,116,114,58,48,48,98,48,58,88,124,115,101,95,101,120,116,122,98,58,48,48,99,48,58,88,124,115,101,95,101,120,116,115,98,58,48,48,100,48,58,88,124,115,101,95,101,120,116,122,104,58,48,48,101,48,58,88,124,115,101,95,101,120,116,115,104,58,48,48,102,48,58,88,124,115,101,95,109,114,58,48,49,48,48,58,88,32,89,124,115,101,95,97,100,100,58,48,52,48,48,58,88,32,89,124,115,101,95,109,117,108,108,119,58,48,53,48,48,58,88,32,89,124,115,101,95,115,117,98,58,48,54,48,48,58,88,32,89,124,115,101,95,99,109,112,58,48,99,48,48,58,88,32,89,124,115,101,95,99,109,112,108,58,48,100,48,48,58,88,32,89,124,115,101,95,97,100,100,105,58,50,48,48,48,58,88,32,79,53,124,115,101,95,99,109,112,108,105,58,50,50,48,48,58,88,32,79,53,124,115,101,95,115,117,98,105,58,50,52,48,48,58,88,32,79,53,124,115,101,95,99,109,112,105,58,50,97,48,48,58,88,32,85,53,124,115,101,95,111,114,58,52,52,48,48,58,88,32,89,124,115,101,95,97,110,100,99,58,52,53,48,48,58,88,32,89,124,115,101,95,97,110,100,58,52,54,48,48,58,88,32,89,124,115,101,95,108,105,58,52,56,48,48,58,88,32,85,55,124,115,101,95,98,99,108,114,105,58,54,48,48,48,58,88,32,85,53,124,115,101,95,98,115,101,116,105,58,54,52,48,48,58,88,32,85,53,124,115,101,95,98,116,115,116,105,58,54,54,48,48,58,88,32,85,53,124,115,101,95,115,114,119,105,58,54,56,48,48,58,88,32,85,53,124,115,101,95,115,108,119,105,58,54,99,48,48,58,88,32,85,53,124,115,101,95,108,98,122,58,56,48,48,48,58,89,32,77,49,32,88,124,115,101,95,115,116,98,58,57,48,48,48,58,89,32,77,49,32,88,124,115,101,95,108,104,122,58,97,48,48,48,58,89,32,77,50,32,88,124,115,101,95,115,116,104,58,98,48,48,48,58,89,32,77,50,32,88,124,115,101,95,108,119,122,58,99,48,48,48,58,89,32,77,52,32,88,124,115,101,95,115,116,119,58,100,48,48,48,58,89,32,77,52,32,88,124,115,101,95,98,99,58,101,48,48,48,58,79,49,32,73,50,32,84,56,124,115,101,95,98,58,101,56,48,48,58,84,56,124,115,101,95,98,108,58,101,57,48,48,58,84,56,124,101,95,97,100,100,49,54,105,58,49,99,48,48,48,48,48,48,58,68,32,65,32,83,49,54,124,101,95,97,100,100,105,58,49,56,48,48,56,48,48,48,58,68,32,65,32,67,56,124,101,95,97,110,100,105,58,49,56,48,48,99,48,48,48,58,65,32,68,32,67,56,124,101,95,111,114,105,58,49,56,48,48,100,48,48,48,58,65,32,68,32,67,56,124,101,95,120,111,114,105,58,49,56,48,48,101,48,48,48,58,65,32,68,32,67,56,124,101,95,108,105,58,55,48,48,48,48,48,48,48,58,68,32,76,50,48,124,101,95,108,98,122,58,51,48,48,48,48,48,48,48,58,68,32,83,49,54,32,65,124,101,95,115,116,98,58,51,52,48,48,48,48,48,48,58,68,32,83,49,54,32,65,124,101,95,108,104,97,58,51,56,48,48,48,48,48,48,58,68,32,83,49,54,32,65,124,101,95,108,119,122,58,53,48,48,48,48,48,48,48,58,68,32,83,49,54,32,65,124,101,95,115,116,119,58,53,52,48,48,48,48,48,48,58,68,32,83,49,54,32,65,124,101,95,108,104,122,58,53,56,48,48,48,48,48,48,58,68,32,83,49,54,32,65,124,101,95,115,116,104,58,53,99,48,48,48,48,48,48,58,68,32,83,49,54,32,65,124,101,95,98,58,55,56,48,48,48,48,48,48,58,84,50,52,124,101,95,98,108,58,55,56,48,48,48,48,48,49,58,84,50,52,124,101,95,98,99,58,55,97,48,48,48,48,48,48,58,79,50,32,73,52,32,84,49,53,124,101,95,98,99,108,58,55,97,48,48,48,48,48,49,58,79,50,32,73,52,32,84,49,53,124,97,100,100,58,55,99,48,48,48,50,49,52,58,68,32,65,32,66,124,115,117,98,102,58,55,99,48,48,48,48,53,48,58,68,32,65,32,66,124,109,117,108,108,119,58,55,99,48,48,48,49,100,54,58,68,32,65,32,66,124,97,110,100,58,55,99,48,48,48,48,51,56,58,65,32,68,32,66,124,111,114,58,55,99,48,48,48,51,55,56,58,65,32,68,32,66,124,120,111,114,58,55,99,48,48,48,50,55,56,58,65,32,68,32,66,124]⟩
def oT (s5 s6 s7 s8 s10 s11:AV) (h:ae) (next2:NT):Prop:=
 ai .add s11 (I 1) fun t15=>
 next2 [s5,s6,s7,s8,s10,t15] h
def ju (s5 s6 s7 s8 s10 s11:AV) (h:ae) (next2:NT):Prop:=
 oT s5 s6 s7 s8 s10 s11 h next2
def oW (s9:AV) (h5:ae) (s4:AV) (Q:QT) (vs2:List AV):Prop:=
 ce 3 1 s9 (I 0) fun t45=>
 ag t45 h5 fun t46=>
 ce 3 1 s9 (I 1) fun t47=>
 ag t47 h5 fun t48=>
 ce 3 1 s9 (I 2) fun t49=>
 ag t49 h5 fun t50=>
 ax [(S ⟨#[]⟩),(S ⟨#[]⟩),(S ⟨#[]⟩)] [(0,1,t46),(1,1,t48),(2,1,t50)] fun t51=>
 an 3 s4 t51 h5 fun h6=>
 aq 3 s4 h6 fun r7=>
 Q (.tup [r7,(ap vs2 2),(B true)]) h6
def pj (vs2:List AV) (s9:AV) (h:ae) (s0 s4:AV) (Q:QT) (s1:AV) (next2:NT):Prop:=
 bo (S ref2_find_k1) (some (ap vs2 3)) (some (ap vs2 5)) fun t27=>
 ce 3 1 s9 (ap vs2 4) fun t28=>
 an 1 t28 t27 h fun h5=>
 ai .add (ap vs2 5) (I 1) fun t30=>
 ai .add (ap vs2 4) (I 1) fun t32=>
 bk (S ref2_find_k1) (ap vs2 5) fun t34=>
 ai .eql t34 (.lit (.int .u8 124)) fun t35=>
 ifB t35 (
 ai .eql (ap vs2 2) s0 fun t38=>
 ifB t38 (oW s9 h5 s4 Q vs2) (
 ce 3 1 s9 (I 0) fun t40=>
 ag t40 h5 fun t41=>
 ai .eql t41 s1 fun t43=>
 ifB t43 (
 oW s9 h5 s4 Q vs2) (
 ai .add (ap vs2 2) (I 1) fun t54=>
 ju (ap vs2 0) (ap vs2 1) t54 t30 (I 0) (ap vs2 5) h5 next2))) (
 ju (ap vs2 0) (ap vs2 1) (ap vs2 2) t30 t32 (ap vs2 5) h5 next2)
def kx (s9 s4 s0 s1:AV) (Q:QT) (vs2:List AV) (h:ae) (next2:NT):Prop:=
 ai .lss (ap vs2 5) (I 1212) fun t13=>
 ifB t13 (
 bk (S ref2_find_k1) (ap vs2 5) fun t17=>
 ai .neq t17 (.lit (.int .u8 58)) fun t18=>
 ifB t18 (bk (S ref2_find_k1) (ap vs2 5) fun t21=>
 ai .neq t21 (.lit (.int .u8 124)) fun t22=>
 ifB t22 (
 ju (ap vs2 0) (ap vs2 1) (ap vs2 2) (ap vs2 3) (ap vs2 4) (ap vs2 5) h next2) (
 pj vs2 s9 h s0 s4 Q s1 next2)) (
 pj vs2 s9 h s0 s4 Q s1 next2)) (
 ax [(S ⟨#[]⟩),(S ⟨#[]⟩),(S ⟨#[]⟩)] [] fun t55=>
 an 3 s4 t55 h fun h15=>
 aq 3 s4 h15 fun r16=>
 Q (.tup [r16,(I 0),(B false)]) h15)
def H2 (a0 a1:AV) (h:ae) (Q:QT):Prop:=
 cP [(S ⟨#[]⟩),(S ⟨#[]⟩),(S ⟨#[]⟩)] h fun t4 h0=>
 cP [(S ⟨#[]⟩),(S ⟨#[]⟩),(S ⟨#[]⟩)] h0 fun t9 h1=>
 bZ [(I 0),(B false),(I 0),(I 0),(I 0),(I 0)] h1 fun vs2 h next2=>kx t9 t4 a0 a1 Q vs2 h next2
theorem LN (a0 a1:AV) (h:ae) (Q:QT) (k:H2 a0 a1 h Q):C oY [a0,a1] h Q:=
 okF (pl:=[(6,[5,6,7,8,10,11,12,13,14,15,16,17,18,19,20,21,22,23,24,25,26,27,28,29,30,31,32,33,34,35,36,37,38,39,40,41,42,43,44,45,46,47,48,49,50,51,52,53,54],[5,6,7,8,10,11])]) Tryz.func67 Tryz.ntmps67 (by kernel_rfl) rfl (by kernel_rfl) k
def xe (a0:AV) (h:ae) (Q:QT):Prop:=
 ai .lss a0 (I 0) fun t4=>
 ifB t4 (
 ai .sub (I 0) a0 fun t6=>
 C dk [t6] h fun t7 h0=>
 ai .add (S ⟨#[45]⟩) t7 fun t8=>
 Q t8 h0) (
 ai .geq a0 (I 10) fun t10=>
 ifB t10 (
 ai .quo a0 (I 10) fun t12=>
 C dk [t12] h fun t13 h1=>
 ai .rem a0 (I 10) fun t15=>
 C dk [t15] h1 fun t16 h2=>
 ai .add t13 t16 fun t17=>
 Q t17 h2) (
 ai .add (I 48) a0 fun t19=>
 ci .u8 t19 fun t20=>
 am 1 1 [t20] fun t21=>
 pA t21 h fun t22=>
 Q t22 h))
theorem wr (a0:AV) (h:ae) (Q:QT) (k:xe a0 h Q):C dk [a0] h Q:=
 okF (pl:=[]) Tryz.func13 Tryz.ntmps13 (by kernel_rfl) rfl (by kernel_rfl) k
def yN (t2:AV) (h5:ae) (Q:QT):Prop:=
 ax [(I 0),(I 0),(S ⟨#[]⟩),(.full 0 [])] [] fun t26=>
 an 4 t2 t26 h5 fun h6=>
 aq 4 t2 h6 fun r7=>
 Q (.tup [r7,(B false)]) h6
def ES (a0:AV) (h:ae) (Q:QT):Prop:=
 cP [(I 0),(I 0),(S ⟨#[]⟩),(.full 0 [])] h fun t2 h0=>
 ax [(S ⟨#[]⟩),(I 0),(I 0),(B false)] [(0,1,a0)] fun t7=>
 gF t7 h0 fun t8 h1=>
 C cG [t8,(I 0)] h1 fun t10 h2=>
 cP [(I 0),(I 0),(S ⟨#[]⟩),(.full 0 [])] h2 fun t5 h3=>
 an 4 t5 t10 h3 fun h4=>
 C gd [t8] h4 fun t12 h5=>
 aF t8 fun t14=>
 ab 3 t14 fun t15=>
 ag t15 h5 fun t16=>
 ifB t16 (yN t2 h5 Q) (
 aF t8 fun t19=>
 ab 1 t19 fun t20=>
 ag t20 h5 fun t21=>
 bK a0 fun t23=>
 ai .lss t21 t23 fun t24=>
 ifB t24 (
 yN t2 h5 Q) (
 aq 4 t5 h5 fun t27=>
 an 4 t2 t27 h5 fun h10=>
 aq 4 t2 h10 fun r11=>
 Q (.tup [r11,(B true)]) h10))
theorem HA (a0:AV) (h:ae) (Q:QT) (k:ES a0 h Q):C sa [a0] h Q:=
 okF (pl:=[]) Tryz.func70 Tryz.ntmps70 (by kernel_rfl) rfl (by kernel_rfl) k
def JA (a0:AV) (h:ae) (Q:QT):Prop:=
 gF a0 h fun t1 h0=>
 ab 0 t1 fun t5=>
 ag t5 h0 fun t6=>
 ai .eql t6 (I 1) fun t8=>
 ifB t8 (
 ab 1 t1 fun t9=>
 ag t9 h0 fun t10=>
 C dk [t10] h0 fun t11 h1=>
 Q t11 h1) (
 ai .eql t6 (I 2) fun t13=>
 ifB t13 (
 ab 2 t1 fun t14=>
 ag t14 h0 fun t15=>
 Q t15 h0) (
 ai .eql t6 (I 3) fun t17=>
 ifB t17 (
 Q (S ⟨#[46]⟩) h0) (
 ai .eql t6 (I 4) fun t19=>
 ifB t19 (
 ab 3 t1 fun t20=>
 ag t20 h0 fun t21=>
 ak 4 t21 (I 0) fun t22=>
 aq 4 t22 h0 fun t23=>
 C dq [t23] h0 fun t24 h2=>
 ai .add (S ⟨#[45]⟩) t24 fun t25=>
 Q t25 h2) (
 ab 0 t1 fun t27=>
 ag t27 h0 fun t28=>
 C o8 [t28] h0 fun t29 h3=>
 ao 0 t29 fun t30=>
 ao 1 t29 fun t31=>
 ab 3 t1 fun t32=>
 ag t32 h3 fun t33=>
 ak 4 t33 (I 0) fun t34=>
 aq 4 t34 h3 fun t35=>
 ab 3 t1 fun t41=>
 ag t41 h3 fun t42=>
 ak 4 t42 (I 1) fun t43=>
 aq 4 t43 h3 fun t44=>
 C dq [t35] h3 fun t36 h4=>
 (aq 4 t43 h4 fun _t=>
 _t=t44)∧
 (ag t41 h4 fun _t=>
 _t=t42)∧
 ai .add t36 (S ⟨#[32]⟩) fun t37=>
 ai .add t37 t30 fun t39=>
 ai .add t39 (S ⟨#[32]⟩) fun t40=>
 C dq [t44] h4 fun t45 h5=>
 ai .add t40 t45 fun t46=>
 Q t46 h5))))
theorem Lg (a0:AV) (h:ae) (Q:QT) (k:JA a0 h Q):C lG [a0] h Q:=
 okF (pl:=[(1000011,[0,1,2,3,6,9,10,11,12,4,5,7,8,13,14,15],[])]) Tryz.func43 Tryz.ntmps43 (by kernel_rfl) rfl (by kernel_rfl) k
def o9 (s3 s2 s4:AV) (h:ae) (next0:NT):Prop:=
 ai .add s4 (I 1) fun t28=>
 next0 [s2,s3,t28] h
def hH (s3 s2 s4:AV) (h:ae) (next0:NT):Prop:=
 o9 s3 s2 s4 h next0
def uV (t61:AV) (vs0:List AV) (h:ae) (next0:NT):Prop:=
 ifB t61 (
 hH (B false) (ap vs0 0) (ap vs0 2) h next0) (
 hH (ap vs0 1) (ap vs0 0) (ap vs0 2) h next0)
def pp (vs0:List AV) (h:ae) (next0:NT):Prop:=
 ai .gtr (ap vs0 2) (I 0) fun t58=>
 ifB t58 (qUn .not (B false) fun t61=>
 uV t61 vs0 h next0) (
 hH (ap vs0 1) (ap vs0 0) (ap vs0 2) h next0)
def jq (vs0:List AV) (t36:AV) (h:ae) (next0:NT):Prop:=
 ai .gtr (ap vs0 2) (I 0) fun t58=>
 ifB t58 (qUn .not t36 fun t61=>
 uV t61 vs0 h next0) (
 hH (ap vs0 1) (ap vs0 0) (ap vs0 2) h next0)
def lU (t44 t31:AV) (vs0:List AV) (Q:QT) (h:ae) (t36:AV) (next0:NT):Prop:=
 ifB t44 (ai .neq t31 (.lit (.int .u8 95)) fun t47=>
 ifB t47 (ai .eql (ap vs0 2) (I 0) fun t51=>
 ifT t51 (Q (B false) h) (
 qUn .not t36 fun t54=>
 ifB t54 (
 Q (B false) h) (
 jq vs0 t36 h next0)) (
 ifB (.tup []) (Q (B false) h) (ifB (.tup []) (
 Q (B false) h) (
 jq vs0 t36 h next0)))) (
 jq vs0 t36 h next0)) (
 jq vs0 t36 h next0)
def AI (t44 t31:AV) (vs0:List AV) (Q:QT) (h:ae) (next0:NT):Prop:=
 ifB t44 (ai .neq t31 (.lit (.int .u8 95)) fun t47=>
 ifB t47 (ai .eql (ap vs0 2) (I 0) fun t51=>
 ifT t51 (Q (B false) h) (
 qUn .not (B false) fun t54=>
 ifB t54 (
 Q (B false) h) (
 pp vs0 h next0)) (
 ifB (.tup []) (Q (B false) h) (ifB (.tup []) (
 Q (B false) h) (
 pp vs0 h next0)))) (
 pp vs0 h next0)) (
 pp vs0 h next0)
def g8 (s0:AV) (Q:QT) (vs0:List AV) (h:ae) (next0:NT):Prop:=
 bK s0 fun t25=>
 ai .lss (ap vs0 2) t25 fun t26=>
 ifB t26 (
 bk s0 (ap vs0 2) fun t31=>
 ai .geq t31 (.lit (.int .u8 48)) fun t33=>
 ifB t33 (ai .leq t31 (.lit (.int .u8 57)) fun t36=>
 ai .geq t31 (.lit (.int .u8 97)) fun t39=>
 ifB t39 (ai .leq t31 (.lit (.int .u8 122)) fun t42=>
 qUn .not t42 fun t44=>
 lU t44 t31 vs0 Q h t36 next0) (
 qUn .not (B false) fun t44=>
 lU t44 t31 vs0 Q h t36 next0)) (
 ai .geq t31 (.lit (.int .u8 97)) fun t39=>
 ifB t39 (ai .leq t31 (.lit (.int .u8 122)) fun t42=>
 qUn .not t42 fun t44=>
 AI t44 t31 vs0 Q h next0) (
 qUn .not (B false) fun t44=>
 AI t44 t31 vs0 Q h next0))) (
 qUn .not (ap vs0 1) fun t64=>
 Q t64 h)
def IP (a0:AV) (h:ae) (Q:QT):Prop:=
 bK a0 fun t8=>
 ai .lss t8 (I 1) fun t9=>
 ifB t9 (Q (B false) h) (
 bK a0 fun t12=>
 ai .gtr t12 (I 12) fun t13=>
 ifB t13 (
 Q (B false) h) (
 bk a0 (I 0) fun t16=>
 ai .eql t16 (.lit (.int .u8 114)) fun t17=>
 ifB t17 (bK a0 fun t20=>
 ai .gtr t20 (I 1) fun t21=>
 bZ [(B false),t21,(I 0)] h fun vs0 h next0=>g8 a0 Q vs0 h next0) (
 bZ [(B false),(B false),(I 0)] h fun vs4 h next4=>g8 a0 Q vs4 h next4)))
theorem Ll (a0:AV) (h:ae) (Q:QT) (k:IP a0 h Q):C lO [a0] h Q:=
 okF (pl:=[(6,[2,3,4,5,6,23,24,25,26,27,28,29,30,31,32,33,34,35,36,37,38,39,40,41,42,43,44,45,46,47,48,49,50,51,52,53,54,55,56,57,58,59,60,61,62],[2,3,4])]) Tryz.func182 Tryz.ntmps182 (by kernel_rfl) rfl (by kernel_rfl) k
def vA (a0:AV) (h:ae) (Q:QT):Prop:=
 gF a0 h fun t1 h0=>
 ab 3 t1 fun t3=>
 ag t3 h0 fun t4=>
 aW t4 fun t5=>
 ai .eql t5 (I 2) fun t6=>
 ifB t6 (
 aq 4 t1 h0 fun t7=>
 C lG [t7] h0 fun t8 h1=>
 ai .add (S ⟨#[40]⟩) t8 fun t9=>
 ai .add t9 (S ⟨#[41]⟩) fun t10=>
 Q t10 h1) (
 aq 4 t1 h0 fun t11=>
 C lG [t11] h0 fun t12 h2=>
 Q t12 h2)
theorem AY (a0:AV) (h:ae) (Q:QT) (k:vA a0 h Q):C dq [a0] h Q:=
 okF (pl:=[]) Tryz.func65 Tryz.ntmps65 (by kernel_rfl) rfl (by kernel_rfl) k
def yr (a1 a0:AV) (Q:QT) (h:ae):Prop:=
 ai .eql a1 (I 16) fun t17=>
 ifB t17 (ai .geq a0 (.lit (.int .u8 97)) fun t20=>
 ifB t20 (ai .leq a0 (.lit (.int .u8 102)) fun t24=>
 ifB t24 (
 ai .sub a0 (.lit (.int .u8 97)) fun t27=>
 ci .i64 t27 fun t28=>
 ai .add t28 (I 10) fun t29=>
 Q t29 h) (
 Q (I (-1)) h)) (
 Q (I (-1)) h)) (
 Q (I (-1)) h)
def Gg (a0 a1:AV) (h:ae) (Q:QT):Prop:=
 ai .geq a0 (.lit (.int .u8 48)) fun t7=>
 ifB t7 (ai .leq a0 (.lit (.int .u8 57)) fun t10=>
 ifB t10 (
 ai .sub a0 (.lit (.int .u8 48)) fun t13=>
 ci .i64 t13 fun t14=>
 Q t14 h) (
 yr a1 a0 Q h)) (
 yr a1 a0 Q h)
theorem Hu (a0 a1:AV) (h:ae) (Q:QT) (k:Gg a0 a1 h Q):C j9 [a0,a1] h Q:=
 okF (pl:=[]) Tryz.func163 Tryz.ntmps163 (by kernel_rfl) rfl (by kernel_rfl) k
def dM (s5 s4 s0:AV) (h:ae) (Q:QT):Prop:=
 aF s0 fun t36=>
 ab 2 t36 fun t37=>
 ag t37 h fun t38=>
 ai .sub t38 (I 1) fun t39=>
 aF s0 fun t40=>
 ab 2 t40 fun t41=>
 an 1 t41 t39 h fun h10=>
 aq 4 s5 h10 fun t42=>
 an 4 s4 t42 h10 fun h11=>
 aq 4 s4 h11 fun r12=>
 Q r12 h11
def iw (a0 a1:AV) (h:ae) (Q:QT):Prop:=
 cP [(I 0),(I 0),(S ⟨#[]⟩),(.full 0 [])] h fun t4 h0=>
 aF a0 fun t7=>
 ab 2 t7 fun t8=>
 ag t8 h0 fun t9=>
 ai .geq t9 (I 12) fun t10=>
 ifB t10 (
 aF a0 fun t12=>
 ab 3 t12 fun t13=>
 an 1 t13 (B true) h0 fun h1=>
 ax [(I 0),(I 0),(S ⟨#[]⟩),(.full 0 [])] [] fun t14=>
 an 4 t4 t14 h1 fun h2=>
 aq 4 t4 h2 fun r3=>
 Q r3 h2) (
 aF a0 fun t16=>
 ab 2 t16 fun t17=>
 ag t17 h0 fun t18=>
 ai .add t18 (I 1) fun t19=>
 aF a0 fun t20=>
 ab 2 t20 fun t21=>
 an 1 t21 t19 h0 fun h4=>
 cP [(I 0),(I 0),(S ⟨#[]⟩),(.full 0 [])] h4 fun t5 h5=>
 ifB a1 (
 C cG [a0,(I 0)] h5 fun t24 h6=>
 an 4 t5 t24 h6 fun h7=>
 C cR [a0,(S ⟨#[41]⟩)] h7 fun t26 h8=>
 qUn .not t26 fun t27=>
 ifB t27 (
 aF a0 fun t29=>
 ab 3 t29 fun t30=>
 an 1 t30 (B true) h8 fun h9=>
 dM t5 t4 a0 h9 Q) (
 dM t5 t4 a0 h8 Q)) (
 C c9 [a0] h5 fun t32 h14=>
 am 1 4 [t32] fun t33=>
 ax [(I 0),(I 0),(S ⟨#[]⟩),(.full 0 [])] [(0,1,(I 4)),(3,1,t33)] fun t34=>
 an 4 t5 t34 h14 fun h15=>
 dM t5 t4 a0 h15 Q))
theorem iZ (a0 a1:AV) (h:ae) (Q:QT) (k:iw a0 a1 h Q):C cd [a0,a1] h Q:=
 okF (pl:=[]) Tryz.func161 Tryz.ntmps161 (by kernel_rfl) rfl (by kernel_rfl) k
def wH (a0 a1:AV) (h:ae) (Q:QT):Prop:=
 C gd [a0] h fun t6 h0=>
 aF a0 fun t8=>
 ab 1 t8 fun t9=>
 ag t9 h0 fun t10=>
 bK a1 fun t12=>
 ai .add t10 t12 fun t13=>
 aF a0 fun t15=>
 ab 0 t15 fun t16=>
 ag t16 h0 fun t17=>
 bK t17 fun t18=>
 ai .gtr t13 t18 fun t19=>
 ifB t19 (Q (B false) h0) (
 aF a0 fun t22=>
 ab 0 t22 fun t23=>
 ag t23 h0 fun t24=>
 aF a0 fun t26=>
 ab 1 t26 fun t27=>
 ag t27 h0 fun t28=>
 aF a0 fun t30=>
 ab 1 t30 fun t31=>
 ag t31 h0 fun t32=>
 bK a1 fun t34=>
 ai .add t32 t34 fun t35=>
 bo t24 (some t28) (some t35) fun t36=>
 ai .neq t36 a1 fun t38=>
 ifB t38 (
 Q (B false) h0) (
 aF a0 fun t42=>
 ab 1 t42 fun t43=>
 ag t43 h0 fun t44=>
 bK a1 fun t46=>
 ai .add t44 t46 fun t47=>
 aF a0 fun t48=>
 ab 1 t48 fun t49=>
 an 1 t49 t47 h0 fun h1=>
 Q (B true) h1))
theorem Bu (a0 a1:AV) (h:ae) (Q:QT) (k:wH a0 a1 h Q):C cR [a0,a1] h Q:=
 okF (pl:=[(1000002,[0,1,2,3,4,5,6,7,8,9,10,11,12,13,14,15,16,17,18,19,20,21,22,23,24,25,26,27,28,29,30,31,32],[])]) Tryz.func160 Tryz.ntmps160 (by kernel_rfl) rfl (by kernel_rfl) k
def jL (s0 s1:AV) (Q:QT) (vs0:List AV) (h:ae) (next0:NT):Prop:=
 ai .leq (ap vs0 1) (I 11) fun t9=>
 ifB t9 (
 C o8 [(ap vs0 1)] h fun t14 h1=>
 ao 0 t14 fun t15=>
 ao 1 t14 fun t16=>
 ai .eql t16 s1 fun t19=>
 ifB t19 (aF s0 fun t22=>
 ab 3 t22 fun t23=>
 ag t23 h1 fun t24=>
 qUn .not t24 fun t25=>
 ifB t25 (C cR [s0,t15] h1 fun t30 h2=>
 ifB t30 (
 Q (ap vs0 1) h2) (
 ai .add (ap vs0 1) (I 1) fun t11=>
 next0 [(ap vs0 0),t11] h2)) (
 ai .add (ap vs0 1) (I 1) fun t11=>
 next0 [(ap vs0 0),t11] h1)) (
 ai .add (ap vs0 1) (I 1) fun t11=>
 next0 [(ap vs0 0),t11] h1)) (
 Q (I 0) h)
def mL (a0 a1:AV) (h:ae) (Q:QT):Prop:=
 bZ [(I 0),(I 5)] h fun vs0 h next0=>jL a0 a1 Q vs0 h next0
theorem oF (a0 a1:AV) (h:ae) (Q:QT) (k:mL a0 a1 h Q):C gb [a0,a1] h Q:=
 okF (pl:=[(3,[4,5,6,7,8,9,10,11,12,13,14,15,16,17,18,19,20,21,22,23,24,25,26,27,28,29,30,31,32],[4,5])]) Tryz.func131 Tryz.ntmps131 (by kernel_rfl) rfl (by kernel_rfl) k
def eG (s5 s4:AV) (h:ae) (Q:QT):Prop:=
 ax [(I 0),(I 0),(S ⟨#[]⟩),(.full 0 [])] [(0,1,(I 1)),(1,1,s5)] fun t73=>
 an 4 s4 t73 h fun h9=>
 aq 4 s4 h9 fun r10=>
 Q r10 h9
def fc (s0:AV) (h2:ae) (s6:AV) (vs1:List AV) (s4:AV) (Q:QT):Prop:=
 aF s0 fun t65=>
 ab 1 t65 fun t66=>
 ag t66 h2 fun t67=>
 ai .eql s6 t67 fun t68=>
 ifB t68 (
 aF s0 fun t70=>
 ab 3 t70 fun t71=>
 an 1 t71 (B true) h2 fun h8=>
 eG (ap vs1 0) s4 h8 Q) (
 eG (ap vs1 0) s4 h2 Q)
def mr (s6 s4 s0 s1:AV) (Q:QT) (vs1:List AV) (h:ae) (next1:NT):Prop:=
 aF s0 fun t12=>
 ab 1 t12 fun t13=>
 ag t13 h fun t14=>
 aF s0 fun t16=>
 ab 0 t16 fun t17=>
 ag t17 h fun t18=>
 bK t18 fun t19=>
 ai .lss t14 t19 fun t20=>
 ifB t20 (aF s0 fun t23=>
 ab 0 t23 fun t24=>
 ag t24 h fun t25=>
 aF s0 fun t27=>
 ab 1 t27 fun t28=>
 ag t28 h fun t29=>
 bk t25 t29 fun t30=>
 C j9 [t30,s1] h fun t32 h2=>
 ai .geq t32 (I 0) fun t33=>
 ifB t33 (
 ai .mul s1 (ap vs1 0) fun t37=>
 aF s0 fun t39=>
 ab 0 t39 fun t40=>
 ag t40 h2 fun t41=>
 aF s0 fun t43=>
 ab 1 t43 fun t44=>
 ag t44 h2 fun t45=>
 bk t41 t45 fun t46=>
 C j9 [t46,s1] h2 fun t48 h3=>
 ai .add t37 t48 fun t49=>
 aF s0 fun t51=>
 ab 1 t51 fun t52=>
 ag t52 h3 fun t53=>
 ai .add t53 (I 1) fun t54=>
 aF s0 fun t55=>
 ab 1 t55 fun t56=>
 an 1 t56 t54 h3 fun h4=>
 ai .geq t49 (I 4294967296) fun t58=>
 ifB t58 (
 aF s0 fun t60=>
 ab 3 t60 fun t61=>
 an 1 t61 (B true) h4 fun h5=>
 ax [(I 0),(I 0),(S ⟨#[]⟩),(.full 0 [])] [] fun t62=>
 an 4 s4 t62 h5 fun h6=>
 aq 4 s4 h6 fun r7=>
 Q r7 h6) (
 next1 [t49] h4)) (
 fc s0 h2 s6 vs1 s4 Q)) (
 fc s0 h s6 vs1 s4 Q)
def pP (a0 a1:AV) (h:ae) (Q:QT):Prop:=
 cP [(I 0),(I 0),(S ⟨#[]⟩),(.full 0 [])] h fun t4 h0=>
 aF a0 fun t8=>
 ab 1 t8 fun t9=>
 ag t9 h0 fun t10=>
 bZ [(I 0)] h0 fun vs1 h next1=>mr t10 t4 a0 a1 Q vs1 h next1
theorem vo (a0 a1:AV) (h:ae) (Q:QT) (k:pP a0 a1 h Q):C fb [a0,a1] h Q:=
 okF (pl:=[(1000001,[0,1,2,3,4,5],[]),(3,[5,11,12,13,14,15,16,17,18,19,20,21,22,23,24,25,26,27,28,29,30,31,32,33,34,35,36,37,38,39,40,41,42,43,44,45,46,47,48,49,50,51,52,53,54,55,56,57,58,59,60,61,62],[5]),(1000002,[0,1,2,3,4,5,6,7,8,9,10,11,12,13,14,15,16,17,18,19,20,21,22,23],[]),(1000003,[0,1,2,3,4,5,6,7,8,9,10,11,12,13,14,15],[])]) Tryz.func162 Tryz.ntmps162 (by kernel_rfl) rfl (by kernel_rfl) k
def vj (a0:AV) (h:ae) (Q:QT):Prop:=
 cP [(I 0),(I 0),(S ⟨#[]⟩),(.full 0 [])] h fun t2 h0=>
 aF a0 fun t4=>
 ab 3 t4 fun t5=>
 ag t5 h0 fun t6=>
 ifB t6 (
 ax [(I 0),(I 0),(S ⟨#[]⟩),(.full 0 [])] [] fun t7=>
 an 4 t2 t7 h0 fun h1=>
 aq 4 t2 h1 fun r2=>
 Q r2 h1) (
 C cR [a0,(S ⟨#[40]⟩)] h0 fun t10 h3=>
 ifB t10 (
 C cd [a0,(B true)] h3 fun t12 h4=>
 an 4 t2 t12 h4 fun h5=>
 aq 4 t2 h5 fun r6=>
 Q r6 h5) (
 C cR [a0,(S ⟨#[45]⟩)] h3 fun t15 h7=>
 ifB t15 (
 C cd [a0,(B false)] h7 fun t17 h8=>
 an 4 t2 t17 h8 fun h9=>
 aq 4 t2 h9 fun r10=>
 Q r10 h9) (
 C cR [a0,(S ⟨#[46]⟩)] h7 fun t20 h11=>
 ifB t20 (
 ax [(I 0),(I 0),(S ⟨#[]⟩),(.full 0 [])] [(0,1,(I 3))] fun t21=>
 an 4 t2 t21 h11 fun h12=>
 aq 4 t2 h12 fun r13=>
 Q r13 h12) (
 C cR [a0,(S ⟨#[48,120]⟩)] h11 fun t24 h14=>
 ifB t24 (
 C fb [a0,(I 16)] h14 fun t26 h15=>
 an 4 t2 t26 h15 fun h16=>
 aq 4 t2 h16 fun r17=>
 Q r17 h16) (
 aF a0 fun t29=>
 ab 1 t29 fun t30=>
 ag t30 h14 fun t31=>
 aF a0 fun t33=>
 ab 0 t33 fun t34=>
 ag t34 h14 fun t35=>
 bK t35 fun t36=>
 ai .lss t31 t36 fun t37=>
 ifB t37 (aF a0 fun t40=>
 ab 0 t40 fun t41=>
 ag t41 h14 fun t42=>
 aF a0 fun t44=>
 ab 1 t44 fun t45=>
 ag t45 h14 fun t46=>
 bk t42 t46 fun t47=>
 C j9 [t47,(I 10)] h14 fun t48 h18=>
 ai .geq t48 (I 0) fun t49=>
 ifB t49 (
 C fb [a0,(I 10)] h18 fun t52 h19=>
 an 4 t2 t52 h19 fun h20=>
 aq 4 t2 h20 fun r21=>
 Q r21 h20) (
 C fW [a0] h18 fun t54 h22=>
 an 4 t2 t54 h22 fun h23=>
 aq 4 t2 h23 fun r24=>
 Q r24 h23)) (
 C fW [a0] h14 fun t54 h25=>
 an 4 t2 t54 h25 fun h26=>
 aq 4 t2 h26 fun r27=>
 Q r27 h26))))))
theorem yV (a0:AV) (h:ae) (Q:QT) (k:vj a0 h Q):C c9 [a0] h Q:=
 okF (pl:=[(1000011,[0,1,2,3,4,5,6,7,8,9,10,11,12,13,14,15,16,17,18,19,20,21,22,23],[])]) Tryz.func130 Tryz.ntmps130 (by kernel_rfl) rfl (by kernel_rfl) k
def oE (s0:AV) (Q:QT) (h:ae) (next0:NT):Prop:=
 aF s0 fun t3=>
 ab 1 t3 fun t4=>
 ag t4 h fun t5=>
 aF s0 fun t7=>
 ab 0 t7 fun t8=>
 ag t8 h fun t9=>
 bK t9 fun t10=>
 ai .lss t5 t10 fun t11=>
 ifB t11 (aF s0 fun t14=>
 ab 0 t14 fun t15=>
 ag t15 h fun t16=>
 aF s0 fun t18=>
 ab 1 t18 fun t19=>
 ag t19 h fun t20=>
 bk t16 t20 fun t21=>
 ai .eql t21 (.lit (.int .u8 32)) fun t22=>
 ifB t22 (
 aF s0 fun t25=>
 ab 1 t25 fun t26=>
 ag t26 h fun t27=>
 ai .add t27 (I 1) fun t28=>
 aF s0 fun t29=>
 ab 1 t29 fun t30=>
 an 1 t30 t28 h fun h1=>
 next0 [] h1) (
 Q (.tup []) h)) (
 Q (.tup []) h)
def sQ (a0:AV) (h:ae) (Q:QT):Prop:=
 bZ [] h fun _ h next0=>oE a0 Q h next0
theorem x7 (a0:AV) (h:ae) (Q:QT) (k:sQ a0 h Q):C gd [a0] h Q:=
 okF (pl:=[(1,[2,3,4,5,6,7,8,9,10,11,12,13,14,15,16,17,18,19,20,21,22,23,24,25,26,27,28,29,30],[]),(1000000,[0,1,2,3,4,5,6,7,8,9,10,11,12,13,14,15,16,17,18,19,20,21],[])]) Tryz.func103 Tryz.ntmps103 (by kernel_rfl) rfl (by kernel_rfl) k
def jP (s5 s4 s0 s1:AV) (Q:QT) (h:ae) (next7:NT):Prop:=
 C gb [s0,s1] h fun t17 h8=>
 ai .eql t17 (I 0) fun t19=>
 ifB t19 (
 aq 4 s5 h8 fun t20=>
 an 4 s4 t20 h8 fun h9=>
 aq 4 s4 h9 fun r10=>
 Q r10 h9) (
 aq 4 s5 h8 fun t22=>
 ai .add s1 (I 1) fun t25=>
 C cG [s0,t25] h8 fun t26 h11=>
 (aq 4 s5 h11 fun _t=>
 _t=t22)∧
 am 2 4 [t22,t26] fun t27=>
 ax [(I 0),(I 0),(S ⟨#[]⟩),(.full 0 [])] [(0,1,t17),(3,1,t27)] fun t28=>
 an 4 s5 t28 h11 fun h12=>
 next7 [] h12)
def n8 (a0 a1:AV) (h:ae) (Q:QT):Prop:=
 cP [(I 0),(I 0),(S ⟨#[]⟩),(.full 0 [])] h fun t4 h0=>
 ai .gtr a1 (I 4) fun t8=>
 ifB t8 (
 C c9 [a0] h0 fun t10 h1=>
 an 4 t4 t10 h1 fun h2=>
 aq 4 t4 h2 fun r3=>
 Q r3 h2) (
 ai .add a1 (I 1) fun t13=>
 C cG [a0,t13] h0 fun t14 h4=>
 cP [(I 0),(I 0),(S ⟨#[]⟩),(.full 0 [])] h4 fun t5 h5=>
 an 4 t5 t14 h5 fun h6=>
 bZ [] h6 fun _ h next7=>jP t5 t4 a0 a1 Q h next7)
theorem pL (a0 a1:AV) (h:ae) (Q:QT) (k:n8 a0 a1 h Q):C cG [a0,a1] h Q:=
 okF (pl:=[(5,[6,15,16,17,18,19,20,21,22,23,24,25,26,27,28],[]),(1000007,[0,1,2,3,4,5,6,7,8],[])]) Tryz.func102 Tryz.ntmps102 (by kernel_rfl) rfl (by kernel_rfl) k
def cn (s3 s2 s0:AV) (h:ae) (Q:QT):Prop:=
 aF s0 fun t101=>
 ab 0 t101 fun t102=>
 ag t102 h fun t103=>
 aF s0 fun t106=>
 ab 1 t106 fun t107=>
 ag t107 h fun t108=>
 bo t103 (some s3) (some t108) fun t109=>
 ax [(I 0),(I 0),(S ⟨#[]⟩),(.full 0 [])] [(0,1,(I 2)),(2,1,t109)] fun t110=>
 an 4 s2 t110 h fun h7=>
 aq 4 s2 h7 fun r8=>
 Q r8 h7
def ey (s0:AV) (h:ae) (next1:NT) (s3 s2:AV) (Q:QT):Prop:=
 aF s0 fun t67=>
 ab 0 t67 fun t68=>
 ag t68 h fun t69=>
 aF s0 fun t71=>
 ab 1 t71 fun t72=>
 ag t72 h fun t73=>
 bk t69 t73 fun t74=>
 ai .eql t74 (.lit (.int .u8 95)) fun t75=>
 ifB t75 (
 aF s0 fun t79=>
 ab 1 t79 fun t80=>
 ag t80 h fun t81=>
 ai .add t81 (I 1) fun t82=>
 aF s0 fun t83=>
 ab 1 t83 fun t84=>
 an 1 t84 t82 h fun h4=>
 next1 [] h4) (
 aF s0 fun t86=>
 ab 0 t86 fun t87=>
 ag t87 h fun t88=>
 aF s0 fun t91=>
 ab 1 t91 fun t92=>
 ag t92 h fun t93=>
 bo t88 (some s3) (some t93) fun t94=>
 C lO [t94] h fun t95 h5=>
 qUn .not t95 fun t96=>
 ifB t96 (
 aF s0 fun t98=>
 ab 3 t98 fun t99=>
 an 1 t99 (B true) h5 fun h6=>
 cn s3 s2 s0 h6 Q) (
 cn s3 s2 s0 h5 Q))
def oz (s0:AV) (h:ae) (next1:NT):Prop:=
 aF s0 fun t79=>
 ab 1 t79 fun t80=>
 ag t80 h fun t81=>
 ai .add t81 (I 1) fun t82=>
 aF s0 fun t83=>
 ab 1 t83 fun t84=>
 an 1 t84 t82 h fun h10=>
 next1 [] h10
def oI (s0:AV) (h:ae) (next1:NT) (s3 s2:AV) (Q:QT):Prop:=
 ifB (.tup []) (oz s0 h next1) (ifB (.tup []) (
 oz s0 h next1) (
 aF s0 fun t86=>
 ab 0 t86 fun t87=>
 ag t87 h fun t88=>
 aF s0 fun t91=>
 ab 1 t91 fun t92=>
 ag t92 h fun t93=>
 bo t88 (some s3) (some t93) fun t94=>
 C lO [t94] h fun t95 h12=>
 qUn .not t95 fun t96=>
 ifB t96 (
 aF s0 fun t98=>
 ab 3 t98 fun t99=>
 an 1 t99 (B true) h12 fun h13=>
 cn s3 s2 s0 h13 Q) (
 cn s3 s2 s0 h12 Q)))
def eu (s0:AV) (h:ae) (next1:NT) (s3 s2:AV) (Q:QT):Prop:=
 aF s0 fun t43=>
 ab 0 t43 fun t44=>
 ag t44 h fun t45=>
 aF s0 fun t47=>
 ab 1 t47 fun t48=>
 ag t48 h fun t49=>
 bk t45 t49 fun t50=>
 ai .geq t50 (.lit (.int .u8 48)) fun t51=>
 ifT t51 (aF s0 fun t54=>
 ab 0 t54 fun t55=>
 ag t55 h fun t56=>
 aF s0 fun t58=>
 ab 1 t58 fun t59=>
 ag t59 h fun t60=>
 bk t56 t60 fun t61=>
 ai .leq t61 (.lit (.int .u8 57)) fun t62=>
 ifT t62 (aF s0 fun t79=>
 ab 1 t79 fun t80=>
 ag t80 h fun t81=>
 ai .add t81 (I 1) fun t82=>
 aF s0 fun t83=>
 ab 1 t83 fun t84=>
 an 1 t84 t82 h fun h3=>
 next1 [] h3) (
 ey s0 h next1 s3 s2 Q) (
 oI s0 h next1 s3 s2 Q)) (
 ey s0 h next1 s3 s2 Q) (
 ifB (.tup []) (oI s0 h next1 s3 s2 Q) (ey s0 h next1 s3 s2 Q))
def dD (s0:AV) (h:ae) (next1:NT):Prop:=
 aF s0 fun t79=>
 ab 1 t79 fun t80=>
 ag t80 h fun t81=>
 ai .add t81 (I 1) fun t82=>
 aF s0 fun t83=>
 ab 1 t83 fun t84=>
 an 1 t84 t82 h fun h2=>
 next1 [] h2
def fZ (s0:AV) (h:ae) (s3 s2:AV) (Q:QT):Prop:=
 aF s0 fun t86=>
 ab 0 t86 fun t87=>
 ag t87 h fun t88=>
 aF s0 fun t91=>
 ab 1 t91 fun t92=>
 ag t92 h fun t93=>
 bo t88 (some s3) (some t93) fun t94=>
 C lO [t94] h fun t95 h39=>
 qUn .not t95 fun t96=>
 ifB t96 (
 aF s0 fun t98=>
 ab 3 t98 fun t99=>
 an 1 t99 (B true) h39 fun h40=>
 cn s3 s2 s0 h40 Q) (
 cn s3 s2 s0 h39 Q)
def ox (s0:AV) (h:ae) (next1:NT) (s3 s2:AV) (Q:QT):Prop:=
 ifB (.tup []) (dD s0 h next1) (ifB (.tup []) (dD s0 h next1) (ifB (.tup []) (
 dD s0 h next1) (
 fZ s0 h s3 s2 Q)))
def mG (s3 s2 s0:AV) (Q:QT) (h:ae) (next1:NT):Prop:=
 aF s0 fun t9=>
 ab 1 t9 fun t10=>
 ag t10 h fun t11=>
 aF s0 fun t13=>
 ab 0 t13 fun t14=>
 ag t14 h fun t15=>
 bK t15 fun t16=>
 ai .lss t11 t16 fun t17=>
 ifB t17 (aF s0 fun t20=>
 ab 0 t20 fun t21=>
 ag t21 h fun t22=>
 aF s0 fun t24=>
 ab 1 t24 fun t25=>
 ag t25 h fun t26=>
 bk t22 t26 fun t27=>
 ai .geq t27 (.lit (.int .u8 97)) fun t28=>
 ifT t28 (aF s0 fun t31=>
 ab 0 t31 fun t32=>
 ag t32 h fun t33=>
 aF s0 fun t35=>
 ab 1 t35 fun t36=>
 ag t36 h fun t37=>
 bk t33 t37 fun t38=>
 ai .leq t38 (.lit (.int .u8 122)) fun t39=>
 ifT t39 (dD s0 h next1) (
 eu s0 h next1 s3 s2 Q) (
 ox s0 h next1 s3 s2 Q)) (
 eu s0 h next1 s3 s2 Q) (
 ifB (.tup []) (ox s0 h next1 s3 s2 Q) (eu s0 h next1 s3 s2 Q))) (
 fZ s0 h s3 s2 Q)
def tt (a0:AV) (h:ae) (Q:QT):Prop:=
 cP [(I 0),(I 0),(S ⟨#[]⟩),(.full 0 [])] h fun t2 h0=>
 aF a0 fun t5=>
 ab 1 t5 fun t6=>
 ag t6 h0 fun t7=>
 bZ [] h0 fun _ h next1=>mG t7 t2 a0 Q h next1
theorem xZ (a0:AV) (h:ae) (Q:QT) (k:tt a0 h Q):C fW [a0] h Q:=
 okF (pl:=[(3,[8,9,10,11,12,13,14,15,16,17,18,19,20,21,22,23,24,25,26,27,28,29,30,31,32,33,34,35,36,37,38,39,40,41,42,43,44,45,46,47,48,49,50,51,52,53,54,55,56,57,58,59,60,61,62,63,64,65,66,67,68,69,70,71,72,73,74,75,76,77,78,79,80,81,82,83,84],[]),(1000002,[0,1,2,3,4,5,6,7,8,9,10,11,12,13,14,15,16,17,18,19,20,21,22,23,24,25,26,27,28,29,30,31,32,33,34,35,36,37,38,39,40,41,42,43,44,45,46,47,48,49,50,51,52,53,54,55,56,57,58,59,60,61,62,63,64,65,66,67,68,69],[]),(1000004,[0,1,2,3,4,5,6,7,8,9,10,11],[]),(1000006,[0,1,2,3,4,5,6,7,8,9,10,11],[])]) Tryz.func164 Tryz.ntmps164 (by kernel_rfl) rfl (by kernel_rfl) k
def BX (a0:AV) (h:ae) (Q:QT):Prop:=
 ai .eql a0 (I 5) fun t6=>
 ifB t6 (
 Q (.tup [(S ⟨#[43]⟩),(I 3)]) h) (
 ai .eql a0 (I 6) fun t8=>
 ifB t8 (
 Q (.tup [(S ⟨#[45]⟩),(I 3)]) h) (
 ai .eql a0 (I 7) fun t10=>
 ifB t10 (
 Q (.tup [(S ⟨#[42]⟩),(I 4)]) h) (
 ai .eql a0 (I 8) fun t12=>
 ifB t12 (
 Q (.tup [(S ⟨#[38]⟩),(I 1)]) h) (
 ai .eql a0 (I 9) fun t14=>
 ifB t14 (
 Q (.tup [(S ⟨#[124]⟩),(I 0)]) h) (
 ai .eql a0 (I 10) fun t16=>
 ifB t16 (
 Q (.tup [(S ⟨#[60,60]⟩),(I 2)]) h) (
 Q (.tup [(S ⟨#[62,62]⟩),(I 2)]) h))))))
theorem AO (a0:AV) (h:ae) (Q:QT) (k:BX a0 h Q):C o8 [a0] h Q:=
 okF (pl:=[]) Tryz.func66 Tryz.ntmps66 (by kernel_rfl) rfl (by kernel_rfl) k
def pu (s4 s5:AV) (h:ae) (next4:NT):Prop:=
 ai .add s5 (I 1) fun t49=>
 next4 [s4,t49] h
def gV (s4 s5:AV) (h:ae) (next4:NT):Prop:=
 pu s4 s5 h next4
def pg (s4:AV) (vs11:List AV) (h:ae) (t87:AV) (next11:NT):Prop:=
 ak 1 s4 (ap vs11 1) fun t90=>
 ag t90 h fun t91=>
 ai .add t87 t91 fun t92=>
 gV t92 (ap vs11 1) h next11
def yA (s4:AV) (Q:QT) (vs11:List AV) (h:ae) (next11:NT):Prop:=
 aW s4 fun t80=>
 ai .lss (ap vs11 1) t80 fun t81=>
 ifB t81 (
 ai .eql (ap vs11 1) (I 0) fun t85=>
 ifB t85 (
 ai .add (ap vs11 0) (S ⟨#[32]⟩) fun t87=>
 pg s4 vs11 h t87 next11) (
 ai .add (ap vs11 0) (S ⟨#[44,32]⟩) fun t94=>
 pg s4 vs11 h t94 next11)) (
 Q (ap vs11 0) h)
def yh (s3 s1:AV) (Q:QT) (vs4:List AV) (h:ae) (next4:NT):Prop:=
 ab 5 s1 fun t44=>
 ag t44 h fun t45=>
 aW t45 fun t46=>
 ai .lss (ap vs4 1) t46 fun t47=>
 ifB t47 (
 ab 5 s1 fun t50=>
 ag t50 h fun t51=>
 ak 5 t51 (ap vs4 1) fun t53=>
 ab 0 t53 fun t54=>
 ag t54 h fun t55=>
 ai .geq t55 (I 0) fun t56=>
 ifB t56 (
 ab 5 s1 fun t58=>
 ag t58 h fun t59=>
 ak 5 t59 (ap vs4 1) fun t61=>
 ab 0 t61 fun t62=>
 ag t62 h fun t63=>
 C dk [t63] h fun t64 h5=>
 ai .add (S ⟨#[114]⟩) t64 fun t65=>
 am 1 1 [t65] fun t66=>
 bl 1 16 (ap vs4 0) t66 h5 fun t67 h6=>
 gV t67 (ap vs4 1) h6 next4) (
 ab 5 s1 fun t69=>
 ag t69 h fun t70=>
 ak 5 t70 (ap vs4 1) fun t72=>
 ab 1 t72 fun t73=>
 aq 4 t73 h fun t74=>
 C lG [t74] h fun t75 h9=>
 am 1 1 [t75] fun t76=>
 bl 1 16 (ap vs4 0) t76 h9 fun t77 h10=>
 gV t77 (ap vs4 1) h10 next4)) (
 bZ [s3,(I 0)] h fun vs11 h next11=>yA (ap vs4 0) Q vs11 h next11)
def nw (s4 s3 s1:AV) (h:ae) (Q:QT):Prop:=
 bZ [s4,(I 0)] h fun vs4 h next4=>yh s3 s1 Q vs4 h next4
def nB (s4 s3 s1:AV) (h:ae) (Q:QT):Prop:=
 ab 2 s1 fun t35=>
 ag t35 h fun t36=>
 ai .eql t36 (I 9) fun t37=>
 ifB t37 (
 ab 4 s1 fun t39=>
 ag t39 h fun t40=>
 am 1 1 [t40] fun t41=>
 bl 1 16 s4 t41 h fun t42 h3=>
 nw t42 s3 s1 h3 Q) (
 nw s4 s3 s1 h Q)
def ni (s3 s1:AV) (h:ae) (Q:QT):Prop:=
 aq 6 s1 h fun t22=>
 C uz [t22] h fun t23 h1=>
 ai .add s3 t23 fun t24=>
 ab 2 s1 fun t25=>
 ag t25 h1 fun t26=>
 ai .eql t26 (I 6) fun t27=>
 ifB t27 (
 ab 4 s1 fun t29=>
 ag t29 h1 fun t30=>
 ai .add (S ⟨#[34]⟩) t30 fun t31=>
 ai .add t31 (S ⟨#[34]⟩) fun t32=>
 am 1 1 [t32] fun t33=>
 bl 1 16 (.full 0 []) t33 h1 fun t34 h2=>
 nB t34 t24 s1 h2 Q) (
 nB (.full 0 []) t24 s1 h1 Q)
def nh (s3 s1:AV) (h:ae) (Q:QT):Prop:=
 ab 2 s1 fun t13=>
 ag t13 h fun t14=>
 ai .eql t14 (I 0) fun t15=>
 ifB t15 (
 Q s3 h) (
 ai .neq s3 (S ⟨#[]⟩) fun t18=>
 ifB t18 (
 ai .add s3 (S ⟨#[32]⟩) fun t20=>
 ni t20 s1 h Q) (
 ni s3 s1 h Q))
def Ii (a0:AV) (h:ae) (Q:QT):Prop:=
 gF a0 h fun t1 h0=>
 ab 1 t1 fun t7=>
 ag t7 h0 fun t8=>
 ai .neq t8 (S ⟨#[]⟩) fun t9=>
 ifB t9 (
 ab 1 t1 fun t10=>
 ag t10 h0 fun t11=>
 ai .add t11 (S ⟨#[58]⟩) fun t12=>
 nh t12 t1 h0 Q) (
 nh (S ⟨#[]⟩) t1 h0 Q)
theorem KN (a0:AV) (h:ae) (Q:QT) (k:Ii a0 h Q):C uY [a0] h Q:=
 okF (pl:=[(16,[4,5,43,44,45,46,47,48,49,50,51,52,53,54,55,56,57,58,59,60,61,62,63,64,65,66,67,68,69,70,71,72,73,74,75,76,77],[4,5]),(22,[3,6,78,79,80,81,82,83,84,85,86,87,88,89,90,91,92,93,94,95,96,97,98,99],[3,6])]) Tryz.func26 Tryz.ntmps26 (by kernel_rfl) rfl (by kernel_rfl) k
def IK (a0:AV) (h:ae) (Q:QT):Prop:=
 gF a0 h fun t1 h0=>
 ab 2 t1 fun t3=>
 ag t3 h0 fun t4=>
 ai .eql t4 (I 1) fun t6=>
 ifB t6 (
 ab 3 t1 fun t7=>
 ag t7 h0 fun t8=>
 C tL [t8] h0 fun t9 h1=>
 Q t9 h1) (
 ai .eql t4 (I 2) fun t11=>
 ifB t11 (
 am 3 1 [(S ⟨#[98]⟩),(S ⟨#[98,108]⟩),(S ⟨#[98,99]⟩)] fun t12=>
 ab 3 t1 fun t13=>
 ag t13 h0 fun t14=>
 ak 1 t12 t14 fun t15=>
 ag t15 h0 fun t16=>
 Q t16 h0) (
 ai .eql t4 (I 3) fun t18=>
 ifB t18 (
 Q (S ⟨#[46,98,121,116,101]⟩) h0) (
 ai .eql t4 (I 4) fun t20=>
 ifB t20 (
 Q (S ⟨#[46,104,97,108,102]⟩) h0) (
 ai .eql t4 (I 5) fun t22=>
 ifB t22 (
 Q (S ⟨#[46,108,111,110,103]⟩) h0) (
 ai .eql t4 (I 6) fun t24=>
 ifB t24 (
 Q (S ⟨#[46,97,115,99,105,105]⟩) h0) (
 ai .eql t4 (I 7) fun t26=>
 ifB t26 (
 Q (S ⟨#[46,97,108,105,103,110]⟩) h0) (
 ai .eql t4 (I 8) fun t28=>
 ifB t28 (
 Q (S ⟨#[46,115,112,97,99,101]⟩) h0) (
 Q (S ⟨#[46,101,113,117]⟩) h0))))))))
theorem Ld (a0:AV) (h:ae) (Q:QT) (k:IK a0 h Q):C uz [a0] h Q:=
 okF (pl:=[]) Tryz.func42 Tryz.ntmps42 (by kernel_rfl) rfl (by kernel_rfl) k
end
end Go.Proofs.YtbhphjpgjgigpaaGreatDoor.AL
