import Derived.Test.YtbhphjpgjgigpaaGreatDoorF5
set_option linter.all false
set_option autoImplicit true
set_option relaxedAutoImplicit true
set_option maxRecDepth 100000
namespace Go.Proofs.YtbhphjpgjgigpaaGreatDoor.AL
noncomputable section
open Go.Proofs
variable [Tabs]
abbrev rH:Nat:=12
def yp (h:ab) (Q:QT):Prop:=
 ao 4 1 [(S ⟨#[97]⟩),(S ⟨#[98,49]⟩),(S ⟨#[108,111,111,112]⟩),(S ⟨#[120]⟩)] fun t1=>
 Q t1 h
theorem Al (h:ab) (Q:QT) (k:yp  h Q):C rH [] h Q:=
 okF (pl:=[]) Tryz.func12 Tryz.ntmps12 (by kernel_rfl) rfl (by kernel_rfl) k
def fE (s8:AV) (vs3:List AV) (s7:AV) (h:ab) (Q:QT):Prop:=
 bk s8 none (some (an vs3 0)) fun t48=>
 aq [(S ⟨#[]⟩),(S ⟨#[]⟩)] [(0,1,(S ⟨#[97]⟩)),(1,1,t48)] fun t49=>
 bk s8 (some (an vs3 0)) none fun t52=>
 aq [(S ⟨#[]⟩),(S ⟨#[]⟩)] [(0,1,(S ⟨#[98]⟩)),(1,1,t52)] fun t53=>
 ao 2 2 [t49,t53] fun t54=>
 C dS [s7,(.full 0 [])] h fun t57 h4=>
 aj 0 t57 fun t58=>
 aj 1 t57 fun t59=>
 C dS [t54,(.full 0 [])] h4 fun t62 h5=>
 aj 0 t62 fun t63=>
 aj 1 t62 fun t64=>
 bd t59 fun t66=>
 ag .eql t66 (I 0) fun t67=>
 ifB t67 (bd t64 fun t70=>
 ag .eql t70 (I 0) fun t71=>
 ifB t71 (ia t58 h5 fun t75=>
 ia t63 h5 fun t77=>
 ag .eql t75 t77 fun t78=>
 Q t78 h5) (
 Q (B false) h5)) (
 Q (B false) h5)
def oB (s8 s7:AV) (Q:QT) (vs3:List AV) (h:ab) (next3:NT):Prop:=
 ce s8 fun t31=>
 ag .lss (an vs3 0) t31 fun t32=>
 ifB t32 (ag .gtr (an vs3 0) (I 0) fun t35=>
 ifB t35 (ag .sub (an vs3 0) (I 1) fun t40=>
 bM s8 t40 fun t41=>
 ag .neq t41 (.lit (.int .u8 10)) fun t42=>
 ifB t42 (
 ag .add (an vs3 0) (I 1) fun t45=>
 next3 [t45] h) (
 fE s8 vs3 s7 h Q)) (
 fE s8 vs3 s7 h Q)) (
 fE s8 vs3 s7 h Q)
def u2 (a0 a1 a2:AV) (h:ab) (Q:QT):Prop:=
 C ly [] h fun t15 h0=>
 qUn .not t15 fun t16=>
 ifB t16 (
 Q (B false) h0) (
 C qf [a0,a1] h0 fun t19 h1=>
 am 2 t19 (I 0) fun t21=>
 ae 1 t21 fun t22=>
 ah t22 h1 fun t23=>
 ce t23 fun t26=>
 ag .add t26 (I 1) fun t27=>
 C cp [a2,t27] h1 fun t28 h2=>
 cC [t28] h2 fun vs3 h next3=>oB t23 t19 Q vs3 h next3)
theorem xB (a0 a1 a2:AV) (h:ab) (Q:QT) (k:u2 a0 a1 a2 h Q):C kH [a0,a1,a2] h Q:=
 okF (pl:=[(7,[9,29,30,31,32,33,34,35,36,37,38,39,40,41,42,43,44,45],[9]),(1000008,[0,1,2,3,4,5,6,7,8,9],[])]) Tryz.func4 Tryz.ntmps4 (by kernel_rfl) rfl (by kernel_rfl) k
def mG (t58:AV) (h4:ab) (t53 t54 s6 t55 s8:AV) (next2:NT):Prop:=
 C cp [t58,(I 4)] h4 fun t59 h5=>
 (ah t53 h5 fun _t=>
 _t=t54)∧
 am 1 s6 t59 fun t60=>
 ah t60 h5 fun t61=>
 ag .add t55 t61 fun t62=>
 ag .add t62 (S ⟨#[10]⟩) fun t63=>
 ag .add s8 (I 1) fun t25=>
 next2 [t63,t25] h5
def eW (s45 s44 s9 s5 s8 s6:AV) (h:ab) (next2:NT):Prop:=
 ifB s45 (
 ao 3 1 [(S ⟨#[98,32]⟩),(S ⟨#[98,108,32]⟩),(S ⟨#[98,99,32,49,44,32,50,44,32]⟩)] fun t50=>
 ag .quo s9 (I 8) fun t58=>
 C cp [s9,(I 8)] h fun t52 h4=>
 am 1 t50 t52 fun t53=>
 ah t53 h4 fun t54=>
 ag .add s5 t54 fun t55=>
 mG t58 h4 t53 t54 s6 t55 s8 next2) (
 ag .eql s44 (I 3) fun t65=>
 ifB t65 (
 ag .add s5 (S ⟨#[115,101,95,108,105,32,114,51,44,32]⟩) fun t67=>
 ag .quo s9 (I 8) fun t69=>
 C cp [t69,(I 128)] h fun t70 h6=>
 C ef [t70] h6 fun t71 h7=>
 ag .add t67 t71 fun t72=>
 ag .add t72 (S ⟨#[10]⟩) fun t73=>
 ag .add s8 (I 1) fun t25=>
 next2 [t73,t25] h7) (
 ag .eql s44 (I 4) fun t75=>
 ifB t75 (
 ag .add s5 (S ⟨#[46,104,97,108,102,32]⟩) fun t77=>
 ag .quo s9 (I 8) fun t80=>
 C cp [t80,(I 4)] h fun t81 h8=>
 am 1 s6 t81 fun t82=>
 ah t82 h8 fun t83=>
 ag .add t77 t83 fun t84=>
 ag .add t84 (S ⟨#[44,32,55,10]⟩) fun t85=>
 ag .add s8 (I 1) fun t25=>
 next2 [t85,t25] h8) (
 ag .eql s44 (I 5) fun t87=>
 ifB t87 (
 ag .add s5 (S ⟨#[101,95,108,119,122,32,114,49,44,32]⟩) fun t89=>
 ag .quo s9 (I 8) fun t92=>
 ao 4 1 [(S ⟨#[50]⟩),(S ⟨#[52]⟩),(S ⟨#[56]⟩),(S ⟨#[49,54]⟩)] fun t98=>
 ag .quo s9 (I 32) fun t100=>
 C cp [t92,(I 4)] h fun t93 h9=>
 am 1 s6 t93 fun t94=>
 ah t94 h9 fun t95=>
 ag .add t89 t95 fun t96=>
 ag .add t96 (S ⟨#[44,32,114,50,10,46,97,108,105,103,110,32]⟩) fun t97=>
 mG t100 h9 t94 t95 t98 t97 s8 next2) (
 ag .eql s44 (I 6) fun t107=>
 ifB t107 (
 ag .add s5 (S ⟨#[46,108,111,110,103,32]⟩) fun t109=>
 ag .quo s9 (I 8) fun t112=>
 C cp [t112,(I 4)] h fun t113 h11=>
 am 1 s6 t113 fun t114=>
 ah t114 h11 fun t115=>
 ag .add t109 t115 fun t116=>
 ag .add t116 (S ⟨#[32,45,32,46,10]⟩) fun t117=>
 ag .add s8 (I 1) fun t25=>
 next2 [t117,t25] h11) (
 ag .add s8 (I 1) fun t25=>
 next2 [s5,t25] h)))))
def lu (s9 s5 s8 s6:AV) (h:ab) (next2:NT):Prop:=
 C cp [s9,(I 8)] h fun t44 h3=>
 ag .eql t44 (I 0) fun t46=>
 ifB t46 (
 eW t46 t44 s9 s5 s8 s6 h3 next2) (
 ag .eql t44 (I 1) fun t47=>
 ifB t47 (
 eW t47 t44 s9 s5 s8 s6 h3 next2) (
 ag .eql t44 (I 2) fun t48=>
 eW t48 t44 s9 s5 s8 s6 h3 next2))
def uK (s5 s7:AV) (h:ab) (next1:NT):Prop:=
 ag .add s7 (I 1) fun t14=>
 next1 [s5,t14] h
def lq (s5 s7:AV) (h:ab) (next1:NT):Prop:=
 uK s5 s7 h next1
def uJ (s7 s6 s0 s1:AV) (next1:NT) (vs2:List AV) (h:ab) (next2:NT):Prop:=
 ag .lss (an vs2 1) (I 4) fun t23=>
 ifB t23 (
 ag .add s7 (an vs2 1) fun t28=>
 ag .mul (I 4) s7 fun t30=>
 ag .add t30 (an vs2 1) fun t32=>
 bd s0 fun t34=>
 ag .lss t32 t34 fun t35=>
 ifB t35 (
 ag .mul (I 4) s7 fun t38=>
 ag .add t38 (an vs2 1) fun t40=>
 am 1 s0 t40 fun t41=>
 ah t41 h fun t42=>
 lu t42 (an vs2 0) (an vs2 1) s6 h next2) (
 lu t28 (an vs2 0) (an vs2 1) s6 h next2)) (
 bd s1 fun t120=>
 ag .lss s7 t120 fun t121=>
 ifB t121 (
 ag .add (an vs2 0) (S ⟨#[46,115,112,97,99,101,32]⟩) fun t123=>
 am 1 s1 s7 fun t126=>
 ah t126 h fun t127=>
 C cp [t127,(I 140)] h fun t128 h14=>
 ag .mul (I 2) t128 fun t129=>
 C ef [t129] h14 fun t130 h15=>
 ag .add t123 t130 fun t131=>
 ag .add t131 (S ⟨#[10]⟩) fun t132=>
 lq t132 s7 h15 next1) (
 lq (an vs2 0) s7 h next1))
def uN (s6 s0 s1:AV) (Q:QT) (vs1:List AV) (h:ab) (next1:NT):Prop:=
 ag .lss (an vs1 1) (I 4) fun t12=>
 ifB t12 (
 am 1 s6 (an vs1 1) fun t18=>
 ah t18 h fun t19=>
 ag .add (an vs1 0) t19 fun t20=>
 ag .add t20 (S ⟨#[58,10]⟩) fun t21=>
 cC [t21,(I 0)] h fun vs2 h next2=>uJ (an vs1 1) s6 s0 s1 next1 vs2 h next2) (
 aq [(S ⟨#[]⟩),(S ⟨#[]⟩)] [(0,1,(S ⟨#[102]⟩)),(1,1,(an vs1 0))] fun t134=>
 ao 1 2 [t134] fun t135=>
 Q t135 h)
def DE (a0 a1:AV) (h:ab) (Q:QT):Prop:=
 C rH [] h fun t10 h0=>
 cC [(S ⟨#[]⟩),(I 0)] h0 fun vs1 h next1=>uN t10 a0 a1 Q vs1 h next1
theorem Eo (a0 a1:AV) (h:ab) (Q:QT) (k:DE a0 a1 h Q):C qf [a0,a1] h Q:=
 okF (pl:=[(5,[5,7,8,9,11,12,13,14,15,16,17,18,19,20,21,22,23,24,25,26,27,28,29,30,31,32,33,34,35,36,37,38,39,40,41,42,43,44,45,46,47,48,49,50,51,52,53,54,55,56,57,58,59,60,61,62,63,64,65,66,67,68,69,70,71,72,73,74,75,76,77,78,79,80,81,82,83,84,85,86,87,88,89,90,91,92,93,94,95,96,97,98,99,100,101,102,103,104,105,106,107,108,109,110,111,112,113,114,115,116,117,118,119,120,121,122,123,124,125,126,127,128,129,130,131,132],[5,7]),(9,[5,8,9,22,23,24,25,26,27,28,29,30,31,32,33,34,35,36,37,38,39,40,41,42,43,44,45,46,47,48,49,50,51,52,53,54,55,56,57,58,59,60,61,62,63,64,65,66,67,68,69,70,71,72,73,74,75,76,77,78,79,80,81,82,83,84,85,86,87,88,89,90,91,92,93,94,95,96,97,98,99,100,101,102,103,104,105,106,107,108,109,110,111,112,113,114,115,116,117],[5,8]),(1000017,[0,1,2,7,8,9,3,4,5,6,10,11,12,13,14,15],[]),(1000023,[0,1,2,3,4,10,11,12,5,6,7,8,9,13,14,15,16,17,18],[])]) Tryz.func10 Tryz.ntmps10 (by kernel_rfl) rfl (by kernel_rfl) k
def BE (h:ab) (Q:QT):Prop:=
 C dS [(.full 0 []),(.full 0 [])] h fun t10 h0=>
 aj 0 t10 fun t11=>
 aj 1 t10 fun t12=>
 aq [(S ⟨#[]⟩),(S ⟨#[]⟩)] [(0,1,(S ⟨#[97]⟩)),(1,1,(S ⟨#[103,111,58,32,98,32,103,111,10,46,98,121,116,101,32,107]⟩))] fun t14=>
 ao 1 2 [t14] fun t15=>
 aq [(S ⟨#[]⟩),(I 0)] [(0,1,(S ⟨#[107]⟩)),(1,1,(I 7))] fun t16=>
 ao 1 2 [t16] fun t17=>
 C dS [t15,t17] h0 fun t18 h1=>
 aj 0 t18 fun t19=>
 aj 1 t18 fun t20=>
 aq [(S ⟨#[]⟩),(S ⟨#[]⟩)] [(0,1,(S ⟨#[97]⟩)),(1,1,(S ⟨#[110,111,112]⟩))] fun t22=>
 ao 1 2 [t22] fun t23=>
 C dS [t23,(.full 0 [])] h1 fun t24 h2=>
 aj 0 t24 fun t25=>
 aj 1 t24 fun t26=>
 aq [(S ⟨#[]⟩),(S ⟨#[]⟩)] [(0,1,(S ⟨#[97]⟩)),(1,1,(S ⟨#[103,111,58,32,98,32,103,111]⟩))] fun t28=>
 ao 1 2 [t28] fun t29=>
 C qv [t29,(.full 0 [])] h2 fun t30 h3=>
 aj 0 t30 fun t31=>
 aj 1 t30 fun t32=>
 bd t11 fun t34=>
 ag .eql t34 (I 0) fun t35=>
 ifB t35 (bd t12 fun t38=>
 ag .eql t38 (I 0) fun t39=>
 ifB t39 (bd t20 fun t43=>
 ag .eql t43 (I 0) fun t44=>
 ifB t44 (bd t19 fun t48=>
 ag .eql t48 (I 3) fun t49=>
 ifB t49 (am 1 t19 (I 0) fun t53=>
 ah t53 h3 fun t54=>
 ag .eql t54 (.lit (.int .u8 232)) fun t55=>
 ifB t55 (am 1 t19 (I 2) fun t59=>
 ah t59 h3 fun t60=>
 ag .eql t60 (.lit (.int .u8 7)) fun t61=>
 ifB t61 (bd t26 fun t65=>
 ag .eql t65 (I 1) fun t66=>
 ifB t66 (am 3 t26 (I 0) fun t70=>
 ae 2 t70 fun t71=>
 ah t71 h3 fun t72=>
 ag .eql t72 (I 1) fun t73=>
 ifB t73 (ifB t32 (bd t31 fun t80=>
 ag .eql t80 (I 1) fun t81=>
 ifB t81 (am 1 t31 (I 0) fun t85=>
 ah t85 h3 fun t86=>
 ag .eql t86 (I 2) fun t87=>
 Q t87 h3) (
 Q (B false) h3)) (
 Q (B false) h3)) (
 Q (B false) h3)) (
 Q (B false) h3)) (
 Q (B false) h3)) (
 Q (B false) h3)) (
 Q (B false) h3)) (
 Q (B false) h3)) (
 Q (B false) h3)) (
 Q (B false) h3)
theorem CC (h:ab) (Q:QT) (k:BE  h Q):C ly [] h Q:=
 okF (pl:=[]) Tryz.func6 Tryz.ntmps6 (by kernel_rfl) rfl (by kernel_rfl) k
def tg (s5:AV) (h:ab) (Q:QT):Prop:=
 Q s5 h
def yz (a0 a1:AV) (h:ab) (Q:QT):Prop:=
 ag .rem a0 a1 fun t8=>
 ag .lss t8 (I 0) fun t10=>
 ifB t10 (
 ag .add t8 a1 fun t13=>
 tg t13 h Q) (
 tg t8 h Q)
theorem AH (a0 a1:AV) (h:ab) (Q:QT) (k:yz a0 a1 h Q):C cp [a0,a1] h Q:=
 okF (pl:=[]) Tryz.func11 Tryz.ntmps11 (by kernel_rfl) rfl (by kernel_rfl) k
def yy (a0:AV) (h:ab) (Q:QT):Prop:=
 ag .lss a0 (I 0) fun t4=>
 ifB t4 (
 ag .sub (I 0) a0 fun t6=>
 C ef [t6] h fun t7 h0=>
 ag .add (S ⟨#[45]⟩) t7 fun t8=>
 Q t8 h0) (
 ag .geq a0 (I 10) fun t10=>
 ifB t10 (
 ag .quo a0 (I 10) fun t12=>
 C ef [t12] h fun t13 h1=>
 ag .rem a0 (I 10) fun t15=>
 C ef [t15] h1 fun t16 h2=>
 ag .add t13 t16 fun t17=>
 Q t17 h2) (
 ag .add (I 48) a0 fun t19=>
 ct .u8 t19 fun t20=>
 ao 1 1 [t20] fun t21=>
 ia t21 h fun t22=>
 Q t22 h))
theorem Bu (a0:AV) (h:ab) (Q:QT) (k:yy a0 h Q):C ef [a0] h Q:=
 okF (pl:=[]) Tryz.func13 Tryz.ntmps13 (by kernel_rfl) rfl (by kernel_rfl) k
