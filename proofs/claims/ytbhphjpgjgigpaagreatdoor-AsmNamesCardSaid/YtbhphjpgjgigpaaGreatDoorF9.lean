import Derived.Test.YtbhphjpgjgigpaaGreatDoorF5
set_option linter.all false
set_option autoImplicit true
set_option relaxedAutoImplicit true
set_option maxRecDepth 100000
namespace Go.Proofs.YtbhphjpgjgigpaaGreatDoor.AL
noncomputable section
open Go.Proofs
variable [Tabs]
abbrev nj:Nat:=12
def te (h:ab) (Q:QT):Prop:=
 ap 4 1 [(S ⟨#[97]⟩),(S ⟨#[98,49]⟩),(S ⟨#[108,111,111,112]⟩),(S ⟨#[120]⟩)] fun t1=>
 Q t1 h
theorem tq (h:ab) (Q:QT) (k:te  h Q):C nj [] h Q:=
 okF (pl:=[]) Tryz.func12 Tryz.ntmps12 (by kernel_rfl) rfl (by kernel_rfl) k
def il (s7 s8 s9:AV) (h:ab) (next2:NT):Prop:=
 ah .add s9 (I 1) fun t30=>
 next2 [s7,s8,t30] h
def ak (s7 s8 s9:AV) (h:ab) (next2:NT):Prop:=
 il s7 s8 s9 h next2
def iq (s7 s9:AV) (h:ab) (next2:NT):Prop:=
 ah .add s9 (I 1) fun t103=>
 ak s7 t103 s9 h next2
def p8 (s10 s7 s9 s6:AV) (h:ab) (next2:NT):Prop:=
 ah .add s7 s10 fun t90=>
 bZ s6 fun t93=>
 ah .lss s9 t93 fun t94=>
 ifB t94 (
 ah .add s9 (I 1) fun t99=>
 aM s6 (some s9) (some t99) fun t100=>
 ah .add t90 t100 fun t101=>
 iq t101 s9 h next2) (
 iq t90 s9 h next2)
def gM (s10 s7 s9 s6:AV) (h:ab) (next2:NT):Prop:=
 p8 s10 s7 s9 s6 h next2
def aA (s7 s9 s6:AV) (next2:NT) (vs5:List AV) (h:ab) (next5:NT):Prop:=
 ah .lss (af vs5 1) (I 4) fun t76=>
 ifB t76 (
 C nj [] h fun t80 h6=>
 ao 1 t80 (af vs5 1) fun t82=>
 ai t82 h6 fun t83=>
 ah .eql (af vs5 0) t83 fun t84=>
 ifB t84 (
 C dR [(af vs5 1)] h6 fun t86 h7=>
 ah .add (S ⟨#[111,116,104,101,114,95]⟩) t86 fun t87=>
 gM t87 s7 s9 s6 h7 next2) (
 ah .add (af vs5 1) (I 1) fun t78=>
 next5 [(af vs5 0),t78] h6)) (
 gM (af vs5 0) s7 s9 s6 h next2)
def nG (s6 s5:AV) (Q:QT) (vs2:List AV) (h:ab) (next2:NT):Prop:=
 bZ s6 fun t27=>
 ah .leq (af vs2 2) t27 fun t28=>
 ifB t28 (
 bZ s6 fun t33=>
 ah .lss (af vs2 2) t33 fun t34=>
 ifB t34 (aV s6 (af vs2 2) fun t38=>
 ah .geq t38 (.lit (.int .u8 97)) fun t39=>
 ifT t39 (aV s6 (af vs2 2) fun t43=>
 ah .leq t43 (.lit (.int .u8 122)) fun t44=>
 ifT t44 (ak (af vs2 0) (af vs2 1) (af vs2 2) h next2) (
 aV s6 (af vs2 2) fun t49=>
 ah .geq t49 (.lit (.int .u8 48)) fun t50=>
 ifT t50 (aV s6 (af vs2 2) fun t54=>
 ah .leq t54 (.lit (.int .u8 57)) fun t55=>
 ifT t55 (ak (af vs2 0) (af vs2 1) (af vs2 2) h next2) (
 aV s6 (af vs2 2) fun t61=>
 ah .eql t61 (.lit (.int .u8 95)) fun t62=>
 ifT t62 (ak (af vs2 0) (af vs2 1) (af vs2 2) h next2) (
 aV s6 (af vs2 2) fun t67=>
 ah .eql t67 (.lit (.int .u8 46)) fun t68=>
 ifB t68 (
 ak (af vs2 0) (af vs2 1) (af vs2 2) h next2) (
 aM s6 (some (af vs2 1)) (some (af vs2 2)) fun t74=>
 bG [t74,(I 0)] h fun vs5 h next5=>aA (af vs2 0) (af vs2 2) s6 next2 vs5 h next5)) (
 ifB (.tup []) (ak (af vs2 0) (af vs2 1) (af vs2 2) h next2) (ifB (.tup []) (
 ak (af vs2 0) (af vs2 1) (af vs2 2) h next2) (
 aM s6 (some (af vs2 1)) (some (af vs2 2)) fun t74=>
 bG [t74,(I 0)] h fun vs12 h next12=>aA (af vs2 0) (af vs2 2) s6 next2 vs12 h next12)))) (
 ifB (.tup []) (ak (af vs2 0) (af vs2 1) (af vs2 2) h next2) (ifB (.tup []) (ak (af vs2 0) (af vs2 1) (af vs2 2) h next2) (ifB (.tup []) (
 ak (af vs2 0) (af vs2 1) (af vs2 2) h next2) (
 aM s6 (some (af vs2 1)) (some (af vs2 2)) fun t74=>
 bG [t74,(I 0)] h fun vs19 h next19=>aA (af vs2 0) (af vs2 2) s6 next2 vs19 h next19))))) (
 aV s6 (af vs2 2) fun t61=>
 ah .eql t61 (.lit (.int .u8 95)) fun t62=>
 ifT t62 (ak (af vs2 0) (af vs2 1) (af vs2 2) h next2) (
 aV s6 (af vs2 2) fun t67=>
 ah .eql t67 (.lit (.int .u8 46)) fun t68=>
 ifB t68 (
 ak (af vs2 0) (af vs2 1) (af vs2 2) h next2) (
 aM s6 (some (af vs2 1)) (some (af vs2 2)) fun t74=>
 bG [t74,(I 0)] h fun vs26 h next26=>aA (af vs2 0) (af vs2 2) s6 next2 vs26 h next26)) (
 ifB (.tup []) (ak (af vs2 0) (af vs2 1) (af vs2 2) h next2) (ifB (.tup []) (
 ak (af vs2 0) (af vs2 1) (af vs2 2) h next2) (
 aM s6 (some (af vs2 1)) (some (af vs2 2)) fun t74=>
 bG [t74,(I 0)] h fun vs33 h next33=>aA (af vs2 0) (af vs2 2) s6 next2 vs33 h next33)))) (
 ifB (.tup []) (ifB (.tup []) (ak (af vs2 0) (af vs2 1) (af vs2 2) h next2) (ifB (.tup []) (ak (af vs2 0) (af vs2 1) (af vs2 2) h next2) (ifB (.tup []) (
 ak (af vs2 0) (af vs2 1) (af vs2 2) h next2) (
 aM s6 (some (af vs2 1)) (some (af vs2 2)) fun t74=>
 bG [t74,(I 0)] h fun vs40 h next40=>aA (af vs2 0) (af vs2 2) s6 next2 vs40 h next40)))) (aV s6 (af vs2 2) fun t61=>
 ah .eql t61 (.lit (.int .u8 95)) fun t62=>
 ifT t62 (ak (af vs2 0) (af vs2 1) (af vs2 2) h next2) (
 aV s6 (af vs2 2) fun t67=>
 ah .eql t67 (.lit (.int .u8 46)) fun t68=>
 ifB t68 (
 ak (af vs2 0) (af vs2 1) (af vs2 2) h next2) (
 aM s6 (some (af vs2 1)) (some (af vs2 2)) fun t74=>
 bG [t74,(I 0)] h fun vs47 h next47=>aA (af vs2 0) (af vs2 2) s6 next2 vs47 h next47)) (
 ifB (.tup []) (ak (af vs2 0) (af vs2 1) (af vs2 2) h next2) (ifB (.tup []) (
 ak (af vs2 0) (af vs2 1) (af vs2 2) h next2) (
 aM s6 (some (af vs2 1)) (some (af vs2 2)) fun t74=>
 bG [t74,(I 0)] h fun vs54 h next54=>aA (af vs2 0) (af vs2 2) s6 next2 vs54 h next54)))))) (
 ifB (.tup []) (ak (af vs2 0) (af vs2 1) (af vs2 2) h next2) (ifB (.tup []) (ak (af vs2 0) (af vs2 1) (af vs2 2) h next2) (ifB (.tup []) (ak (af vs2 0) (af vs2 1) (af vs2 2) h next2) (ifB (.tup []) (
 ak (af vs2 0) (af vs2 1) (af vs2 2) h next2) (
 aM s6 (some (af vs2 1)) (some (af vs2 2)) fun t74=>
 bG [t74,(I 0)] h fun vs61 h next61=>aA (af vs2 0) (af vs2 2) s6 next2 vs61 h next61)))))) (
 aV s6 (af vs2 2) fun t49=>
 ah .geq t49 (.lit (.int .u8 48)) fun t50=>
 ifT t50 (aV s6 (af vs2 2) fun t54=>
 ah .leq t54 (.lit (.int .u8 57)) fun t55=>
 ifT t55 (ak (af vs2 0) (af vs2 1) (af vs2 2) h next2) (
 aV s6 (af vs2 2) fun t61=>
 ah .eql t61 (.lit (.int .u8 95)) fun t62=>
 ifT t62 (ak (af vs2 0) (af vs2 1) (af vs2 2) h next2) (
 aV s6 (af vs2 2) fun t67=>
 ah .eql t67 (.lit (.int .u8 46)) fun t68=>
 ifB t68 (
 ak (af vs2 0) (af vs2 1) (af vs2 2) h next2) (
 aM s6 (some (af vs2 1)) (some (af vs2 2)) fun t74=>
 bG [t74,(I 0)] h fun vs68 h next68=>aA (af vs2 0) (af vs2 2) s6 next2 vs68 h next68)) (
 ifB (.tup []) (ak (af vs2 0) (af vs2 1) (af vs2 2) h next2) (ifB (.tup []) (
 ak (af vs2 0) (af vs2 1) (af vs2 2) h next2) (
 aM s6 (some (af vs2 1)) (some (af vs2 2)) fun t74=>
 bG [t74,(I 0)] h fun vs75 h next75=>aA (af vs2 0) (af vs2 2) s6 next2 vs75 h next75)))) (
 ifB (.tup []) (ak (af vs2 0) (af vs2 1) (af vs2 2) h next2) (ifB (.tup []) (ak (af vs2 0) (af vs2 1) (af vs2 2) h next2) (ifB (.tup []) (
 ak (af vs2 0) (af vs2 1) (af vs2 2) h next2) (
 aM s6 (some (af vs2 1)) (some (af vs2 2)) fun t74=>
 bG [t74,(I 0)] h fun vs82 h next82=>aA (af vs2 0) (af vs2 2) s6 next2 vs82 h next82))))) (
 aV s6 (af vs2 2) fun t61=>
 ah .eql t61 (.lit (.int .u8 95)) fun t62=>
 ifT t62 (ak (af vs2 0) (af vs2 1) (af vs2 2) h next2) (
 aV s6 (af vs2 2) fun t67=>
 ah .eql t67 (.lit (.int .u8 46)) fun t68=>
 ifB t68 (
 ak (af vs2 0) (af vs2 1) (af vs2 2) h next2) (
 aM s6 (some (af vs2 1)) (some (af vs2 2)) fun t74=>
 bG [t74,(I 0)] h fun vs89 h next89=>aA (af vs2 0) (af vs2 2) s6 next2 vs89 h next89)) (
 ifB (.tup []) (ak (af vs2 0) (af vs2 1) (af vs2 2) h next2) (ifB (.tup []) (
 ak (af vs2 0) (af vs2 1) (af vs2 2) h next2) (
 aM s6 (some (af vs2 1)) (some (af vs2 2)) fun t74=>
 bG [t74,(I 0)] h fun vs96 h next96=>aA (af vs2 0) (af vs2 2) s6 next2 vs96 h next96)))) (
 ifB (.tup []) (ifB (.tup []) (ak (af vs2 0) (af vs2 1) (af vs2 2) h next2) (ifB (.tup []) (ak (af vs2 0) (af vs2 1) (af vs2 2) h next2) (ifB (.tup []) (
 ak (af vs2 0) (af vs2 1) (af vs2 2) h next2) (
 aM s6 (some (af vs2 1)) (some (af vs2 2)) fun t74=>
 bG [t74,(I 0)] h fun vs103 h next103=>aA (af vs2 0) (af vs2 2) s6 next2 vs103 h next103)))) (aV s6 (af vs2 2) fun t61=>
 ah .eql t61 (.lit (.int .u8 95)) fun t62=>
 ifT t62 (ak (af vs2 0) (af vs2 1) (af vs2 2) h next2) (
 aV s6 (af vs2 2) fun t67=>
 ah .eql t67 (.lit (.int .u8 46)) fun t68=>
 ifB t68 (
 ak (af vs2 0) (af vs2 1) (af vs2 2) h next2) (
 aM s6 (some (af vs2 1)) (some (af vs2 2)) fun t74=>
 bG [t74,(I 0)] h fun vs110 h next110=>aA (af vs2 0) (af vs2 2) s6 next2 vs110 h next110)) (
 ifB (.tup []) (ak (af vs2 0) (af vs2 1) (af vs2 2) h next2) (ifB (.tup []) (
 ak (af vs2 0) (af vs2 1) (af vs2 2) h next2) (
 aM s6 (some (af vs2 1)) (some (af vs2 2)) fun t74=>
 bG [t74,(I 0)] h fun vs117 h next117=>aA (af vs2 0) (af vs2 2) s6 next2 vs117 h next117)))))) (
 ifB (.tup []) (ifB (.tup []) (ak (af vs2 0) (af vs2 1) (af vs2 2) h next2) (ifB (.tup []) (ak (af vs2 0) (af vs2 1) (af vs2 2) h next2) (ifB (.tup []) (ak (af vs2 0) (af vs2 1) (af vs2 2) h next2) (ifB (.tup []) (
 ak (af vs2 0) (af vs2 1) (af vs2 2) h next2) (
 aM s6 (some (af vs2 1)) (some (af vs2 2)) fun t74=>
 bG [t74,(I 0)] h fun vs124 h next124=>aA (af vs2 0) (af vs2 2) s6 next2 vs124 h next124))))) (aV s6 (af vs2 2) fun t49=>
 ah .geq t49 (.lit (.int .u8 48)) fun t50=>
 ifT t50 (aV s6 (af vs2 2) fun t54=>
 ah .leq t54 (.lit (.int .u8 57)) fun t55=>
 ifT t55 (ak (af vs2 0) (af vs2 1) (af vs2 2) h next2) (
 aV s6 (af vs2 2) fun t61=>
 ah .eql t61 (.lit (.int .u8 95)) fun t62=>
 ifT t62 (ak (af vs2 0) (af vs2 1) (af vs2 2) h next2) (
 aV s6 (af vs2 2) fun t67=>
 ah .eql t67 (.lit (.int .u8 46)) fun t68=>
 ifB t68 (
 ak (af vs2 0) (af vs2 1) (af vs2 2) h next2) (
 aM s6 (some (af vs2 1)) (some (af vs2 2)) fun t74=>
 bG [t74,(I 0)] h fun vs131 h next131=>aA (af vs2 0) (af vs2 2) s6 next2 vs131 h next131)) (
 ifB (.tup []) (ak (af vs2 0) (af vs2 1) (af vs2 2) h next2) (ifB (.tup []) (
 ak (af vs2 0) (af vs2 1) (af vs2 2) h next2) (
 aM s6 (some (af vs2 1)) (some (af vs2 2)) fun t74=>
 bG [t74,(I 0)] h fun vs138 h next138=>aA (af vs2 0) (af vs2 2) s6 next2 vs138 h next138)))) (
 ifB (.tup []) (ak (af vs2 0) (af vs2 1) (af vs2 2) h next2) (ifB (.tup []) (ak (af vs2 0) (af vs2 1) (af vs2 2) h next2) (ifB (.tup []) (
 ak (af vs2 0) (af vs2 1) (af vs2 2) h next2) (
 aM s6 (some (af vs2 1)) (some (af vs2 2)) fun t74=>
 bG [t74,(I 0)] h fun vs145 h next145=>aA (af vs2 0) (af vs2 2) s6 next2 vs145 h next145))))) (
 aV s6 (af vs2 2) fun t61=>
 ah .eql t61 (.lit (.int .u8 95)) fun t62=>
 ifT t62 (ak (af vs2 0) (af vs2 1) (af vs2 2) h next2) (
 aV s6 (af vs2 2) fun t67=>
 ah .eql t67 (.lit (.int .u8 46)) fun t68=>
 ifB t68 (
 ak (af vs2 0) (af vs2 1) (af vs2 2) h next2) (
 aM s6 (some (af vs2 1)) (some (af vs2 2)) fun t74=>
 bG [t74,(I 0)] h fun vs152 h next152=>aA (af vs2 0) (af vs2 2) s6 next2 vs152 h next152)) (
 ifB (.tup []) (ak (af vs2 0) (af vs2 1) (af vs2 2) h next2) (ifB (.tup []) (
 ak (af vs2 0) (af vs2 1) (af vs2 2) h next2) (
 aM s6 (some (af vs2 1)) (some (af vs2 2)) fun t74=>
 bG [t74,(I 0)] h fun vs159 h next159=>aA (af vs2 0) (af vs2 2) s6 next2 vs159 h next159)))) (
 ifB (.tup []) (ifB (.tup []) (ak (af vs2 0) (af vs2 1) (af vs2 2) h next2) (ifB (.tup []) (ak (af vs2 0) (af vs2 1) (af vs2 2) h next2) (ifB (.tup []) (
 ak (af vs2 0) (af vs2 1) (af vs2 2) h next2) (
 aM s6 (some (af vs2 1)) (some (af vs2 2)) fun t74=>
 bG [t74,(I 0)] h fun vs166 h next166=>aA (af vs2 0) (af vs2 2) s6 next2 vs166 h next166)))) (aV s6 (af vs2 2) fun t61=>
 ah .eql t61 (.lit (.int .u8 95)) fun t62=>
 ifT t62 (ak (af vs2 0) (af vs2 1) (af vs2 2) h next2) (
 aV s6 (af vs2 2) fun t67=>
 ah .eql t67 (.lit (.int .u8 46)) fun t68=>
 ifB t68 (
 ak (af vs2 0) (af vs2 1) (af vs2 2) h next2) (
 aM s6 (some (af vs2 1)) (some (af vs2 2)) fun t74=>
 bG [t74,(I 0)] h fun vs173 h next173=>aA (af vs2 0) (af vs2 2) s6 next2 vs173 h next173)) (
 ifB (.tup []) (ak (af vs2 0) (af vs2 1) (af vs2 2) h next2) (ifB (.tup []) (
 ak (af vs2 0) (af vs2 1) (af vs2 2) h next2) (
 aM s6 (some (af vs2 1)) (some (af vs2 2)) fun t74=>
 bG [t74,(I 0)] h fun vs180 h next180=>aA (af vs2 0) (af vs2 2) s6 next2 vs180 h next180)))))))) (
 aM s6 (some (af vs2 1)) (some (af vs2 2)) fun t74=>
 bG [t74,(I 0)] h fun vs187 h next187=>aA (af vs2 0) (af vs2 2) s6 next2 vs187 h next187)) (
 C d4 [s5,(.full 0 [])] h fun t106 h194=>
 am 0 t106 fun t107=>
 am 1 t106 fun t108=>
 au [(S ⟨#[]⟩),(S ⟨#[]⟩)] [(0,1,(S ⟨#[102]⟩)),(1,1,(af vs2 0))] fun t111=>
 ap 1 2 [t111] fun t112=>
 C d4 [t112,(.full 0 [])] h194 fun t113 h195=>
 am 0 t113 fun t114=>
 am 1 t113 fun t115=>
 bh t108 fun t117=>
 ah .eql t117 (I 0) fun t118=>
 ifB t118 (bh t115 fun t121=>
 ah .eql t121 (I 0) fun t122=>
 ifB t122 (hZ t107 h195 fun t126=>
 hZ t114 h195 fun t128=>
 ah .eql t126 t128 fun t129=>
 Q t129 h195) (
 Q (B false) h195)) (
 Q (B false) h195))
def uU (a0 a1:AV) (h:ab) (Q:QT):Prop:=
 C lq [] h fun t16 h0=>
 qUn .not t16 fun t17=>
 ifB t17 (
 Q (B false) h0) (
 C qM [a0,a1] h0 fun t20 h1=>
 ao 2 t20 (I 0) fun t22=>
 ae 1 t22 fun t23=>
 ai t23 h1 fun t24=>
 bG [(S ⟨#[]⟩),(I 0),(I 0)] h1 fun vs2 h next2=>nG t24 t20 Q vs2 h next2)
theorem xr (a0 a1:AV) (h:ab) (Q:QT) (k:uU a0 a1 h Q):C kM [a0,a1] h Q:=
 okF (pl:=[(8,[7,8,9,10,11,25,26,27,28,29,30,31,32,33,34,35,36,37,38,39,40,41,42,43,44,45,46,47,48,49,50,51,52,53,54,55,56,57,58,59,60,61,62,63,64,65,66,67,68,69,70,71,72,73,74,75,76,77,78,79,80,81,82,83,84,85,86,87,88,89,90,91,92,93,94,95,96,97,98,99,100,101,102,103],[7,8,9]),(13,[10,11,75,76,77,78,79,80,81,82,83,84,85,86,87],[10,11])]) Tryz.func5 Tryz.ntmps5 (by kernel_rfl) rfl (by kernel_rfl) k
def mS (t58:AV) (h4:ab) (t53 t54 s6 t55 s8:AV) (next2:NT):Prop:=
 C cL [t58,(I 4)] h4 fun t59 h5=>
 (ai t53 h5 fun _t=>
 _t=t54)∧
 ao 1 s6 t59 fun t60=>
 ai t60 h5 fun t61=>
 ah .add t55 t61 fun t62=>
 ah .add t62 (S ⟨#[10]⟩) fun t63=>
 ah .add s8 (I 1) fun t25=>
 next2 [t63,t25] h5
def fj (s45 s44 s9 s5 s8 s6:AV) (h:ab) (next2:NT):Prop:=
 ifB s45 (
 ap 3 1 [(S ⟨#[98,32]⟩),(S ⟨#[98,108,32]⟩),(S ⟨#[98,99,32,49,44,32,50,44,32]⟩)] fun t50=>
 ah .quo s9 (I 8) fun t58=>
 C cL [s9,(I 8)] h fun t52 h4=>
 ao 1 t50 t52 fun t53=>
 ai t53 h4 fun t54=>
 ah .add s5 t54 fun t55=>
 mS t58 h4 t53 t54 s6 t55 s8 next2) (
 ah .eql s44 (I 3) fun t65=>
 ifB t65 (
 ah .add s5 (S ⟨#[115,101,95,108,105,32,114,51,44,32]⟩) fun t67=>
 ah .quo s9 (I 8) fun t69=>
 C cL [t69,(I 128)] h fun t70 h6=>
 C dR [t70] h6 fun t71 h7=>
 ah .add t67 t71 fun t72=>
 ah .add t72 (S ⟨#[10]⟩) fun t73=>
 ah .add s8 (I 1) fun t25=>
 next2 [t73,t25] h7) (
 ah .eql s44 (I 4) fun t75=>
 ifB t75 (
 ah .add s5 (S ⟨#[46,104,97,108,102,32]⟩) fun t77=>
 ah .quo s9 (I 8) fun t80=>
 C cL [t80,(I 4)] h fun t81 h8=>
 ao 1 s6 t81 fun t82=>
 ai t82 h8 fun t83=>
 ah .add t77 t83 fun t84=>
 ah .add t84 (S ⟨#[44,32,55,10]⟩) fun t85=>
 ah .add s8 (I 1) fun t25=>
 next2 [t85,t25] h8) (
 ah .eql s44 (I 5) fun t87=>
 ifB t87 (
 ah .add s5 (S ⟨#[101,95,108,119,122,32,114,49,44,32]⟩) fun t89=>
 ah .quo s9 (I 8) fun t92=>
 ap 4 1 [(S ⟨#[50]⟩),(S ⟨#[52]⟩),(S ⟨#[56]⟩),(S ⟨#[49,54]⟩)] fun t98=>
 ah .quo s9 (I 32) fun t100=>
 C cL [t92,(I 4)] h fun t93 h9=>
 ao 1 s6 t93 fun t94=>
 ai t94 h9 fun t95=>
 ah .add t89 t95 fun t96=>
 ah .add t96 (S ⟨#[44,32,114,50,10,46,97,108,105,103,110,32]⟩) fun t97=>
 mS t100 h9 t94 t95 t98 t97 s8 next2) (
 ah .eql s44 (I 6) fun t107=>
 ifB t107 (
 ah .add s5 (S ⟨#[46,108,111,110,103,32]⟩) fun t109=>
 ah .quo s9 (I 8) fun t112=>
 C cL [t112,(I 4)] h fun t113 h11=>
 ao 1 s6 t113 fun t114=>
 ai t114 h11 fun t115=>
 ah .add t109 t115 fun t116=>
 ah .add t116 (S ⟨#[32,45,32,46,10]⟩) fun t117=>
 ah .add s8 (I 1) fun t25=>
 next2 [t117,t25] h11) (
 ah .add s8 (I 1) fun t25=>
 next2 [s5,t25] h)))))
def lx (s9 s5 s8 s6:AV) (h:ab) (next2:NT):Prop:=
 C cL [s9,(I 8)] h fun t44 h3=>
 ah .eql t44 (I 0) fun t46=>
 ifB t46 (
 fj t46 t44 s9 s5 s8 s6 h3 next2) (
 ah .eql t44 (I 1) fun t47=>
 ifB t47 (
 fj t47 t44 s9 s5 s8 s6 h3 next2) (
 ah .eql t44 (I 2) fun t48=>
 fj t48 t44 s9 s5 s8 s6 h3 next2))
def uM (s5 s7:AV) (h:ab) (next1:NT):Prop:=
 ah .add s7 (I 1) fun t14=>
 next1 [s5,t14] h
def ly (s5 s7:AV) (h:ab) (next1:NT):Prop:=
 uM s5 s7 h next1
def u7 (s7 s6 s0 s1:AV) (next1:NT) (vs2:List AV) (h:ab) (next2:NT):Prop:=
 ah .lss (af vs2 1) (I 4) fun t23=>
 ifB t23 (
 ah .add s7 (af vs2 1) fun t28=>
 ah .mul (I 4) s7 fun t30=>
 ah .add t30 (af vs2 1) fun t32=>
 bh s0 fun t34=>
 ah .lss t32 t34 fun t35=>
 ifB t35 (
 ah .mul (I 4) s7 fun t38=>
 ah .add t38 (af vs2 1) fun t40=>
 ao 1 s0 t40 fun t41=>
 ai t41 h fun t42=>
 lx t42 (af vs2 0) (af vs2 1) s6 h next2) (
 lx t28 (af vs2 0) (af vs2 1) s6 h next2)) (
 bh s1 fun t120=>
 ah .lss s7 t120 fun t121=>
 ifB t121 (
 ah .add (af vs2 0) (S ⟨#[46,115,112,97,99,101,32]⟩) fun t123=>
 ao 1 s1 s7 fun t126=>
 ai t126 h fun t127=>
 C cL [t127,(I 140)] h fun t128 h14=>
 ah .mul (I 2) t128 fun t129=>
 C dR [t129] h14 fun t130 h15=>
 ah .add t123 t130 fun t131=>
 ah .add t131 (S ⟨#[10]⟩) fun t132=>
 ly t132 s7 h15 next1) (
 ly (af vs2 0) s7 h next1))
def uQ (s6 s0 s1:AV) (Q:QT) (vs1:List AV) (h:ab) (next1:NT):Prop:=
 ah .lss (af vs1 1) (I 4) fun t12=>
 ifB t12 (
 ao 1 s6 (af vs1 1) fun t18=>
 ai t18 h fun t19=>
 ah .add (af vs1 0) t19 fun t20=>
 ah .add t20 (S ⟨#[58,10]⟩) fun t21=>
 bG [t21,(I 0)] h fun vs2 h next2=>u7 (af vs1 1) s6 s0 s1 next1 vs2 h next2) (
 au [(S ⟨#[]⟩),(S ⟨#[]⟩)] [(0,1,(S ⟨#[102]⟩)),(1,1,(af vs1 0))] fun t134=>
 ap 1 2 [t134] fun t135=>
 Q t135 h)
def Eo (a0 a1:AV) (h:ab) (Q:QT):Prop:=
 C nj [] h fun t10 h0=>
 bG [(S ⟨#[]⟩),(I 0)] h0 fun vs1 h next1=>uQ t10 a0 a1 Q vs1 h next1
theorem Fc (a0 a1:AV) (h:ab) (Q:QT) (k:Eo a0 a1 h Q):C qM [a0,a1] h Q:=
 okF (pl:=[(5,[5,7,8,9,11,12,13,14,15,16,17,18,19,20,21,22,23,24,25,26,27,28,29,30,31,32,33,34,35,36,37,38,39,40,41,42,43,44,45,46,47,48,49,50,51,52,53,54,55,56,57,58,59,60,61,62,63,64,65,66,67,68,69,70,71,72,73,74,75,76,77,78,79,80,81,82,83,84,85,86,87,88,89,90,91,92,93,94,95,96,97,98,99,100,101,102,103,104,105,106,107,108,109,110,111,112,113,114,115,116,117,118,119,120,121,122,123,124,125,126,127,128,129,130,131,132],[5,7]),(9,[5,8,9,22,23,24,25,26,27,28,29,30,31,32,33,34,35,36,37,38,39,40,41,42,43,44,45,46,47,48,49,50,51,52,53,54,55,56,57,58,59,60,61,62,63,64,65,66,67,68,69,70,71,72,73,74,75,76,77,78,79,80,81,82,83,84,85,86,87,88,89,90,91,92,93,94,95,96,97,98,99,100,101,102,103,104,105,106,107,108,109,110,111,112,113,114,115,116,117],[5,8]),(1000017,[0,1,2,7,8,9,3,4,5,6,10,11,12,13,14,15],[]),(1000023,[0,1,2,3,4,10,11,12,5,6,7,8,9,13,14,15,16,17,18],[])]) Tryz.func10 Tryz.ntmps10 (by kernel_rfl) rfl (by kernel_rfl) k
def A3 (h:ab) (Q:QT):Prop:=
 C d4 [(.full 0 []),(.full 0 [])] h fun t10 h0=>
 am 0 t10 fun t11=>
 am 1 t10 fun t12=>
 au [(S ⟨#[]⟩),(S ⟨#[]⟩)] [(0,1,(S ⟨#[97]⟩)),(1,1,(S ⟨#[103,111,58,32,98,32,103,111,10,46,98,121,116,101,32,107]⟩))] fun t14=>
 ap 1 2 [t14] fun t15=>
 au [(S ⟨#[]⟩),(I 0)] [(0,1,(S ⟨#[107]⟩)),(1,1,(I 7))] fun t16=>
 ap 1 2 [t16] fun t17=>
 C d4 [t15,t17] h0 fun t18 h1=>
 am 0 t18 fun t19=>
 am 1 t18 fun t20=>
 au [(S ⟨#[]⟩),(S ⟨#[]⟩)] [(0,1,(S ⟨#[97]⟩)),(1,1,(S ⟨#[110,111,112]⟩))] fun t22=>
 ap 1 2 [t22] fun t23=>
 C d4 [t23,(.full 0 [])] h1 fun t24 h2=>
 am 0 t24 fun t25=>
 am 1 t24 fun t26=>
 au [(S ⟨#[]⟩),(S ⟨#[]⟩)] [(0,1,(S ⟨#[97]⟩)),(1,1,(S ⟨#[103,111,58,32,98,32,103,111]⟩))] fun t28=>
 ap 1 2 [t28] fun t29=>
 C qn [t29,(.full 0 [])] h2 fun t30 h3=>
 am 0 t30 fun t31=>
 am 1 t30 fun t32=>
 bh t11 fun t34=>
 ah .eql t34 (I 0) fun t35=>
 ifB t35 (bh t12 fun t38=>
 ah .eql t38 (I 0) fun t39=>
 ifB t39 (bh t20 fun t43=>
 ah .eql t43 (I 0) fun t44=>
 ifB t44 (bh t19 fun t48=>
 ah .eql t48 (I 3) fun t49=>
 ifB t49 (ao 1 t19 (I 0) fun t53=>
 ai t53 h3 fun t54=>
 ah .eql t54 (.lit (.int .u8 232)) fun t55=>
 ifB t55 (ao 1 t19 (I 2) fun t59=>
 ai t59 h3 fun t60=>
 ah .eql t60 (.lit (.int .u8 7)) fun t61=>
 ifB t61 (bh t26 fun t65=>
 ah .eql t65 (I 1) fun t66=>
 ifB t66 (ao 3 t26 (I 0) fun t70=>
 ae 2 t70 fun t71=>
 ai t71 h3 fun t72=>
 ah .eql t72 (I 1) fun t73=>
 ifB t73 (ifB t32 (bh t31 fun t80=>
 ah .eql t80 (I 1) fun t81=>
 ifB t81 (ao 1 t31 (I 0) fun t85=>
 ai t85 h3 fun t86=>
 ah .eql t86 (I 2) fun t87=>
 Q t87 h3) (
 Q (B false) h3)) (
 Q (B false) h3)) (
 Q (B false) h3)) (
 Q (B false) h3)) (
 Q (B false) h3)) (
 Q (B false) h3)) (
 Q (B false) h3)) (
 Q (B false) h3)) (
 Q (B false) h3)) (
 Q (B false) h3)
theorem Cs (h:ab) (Q:QT) (k:A3  h Q):C lq [] h Q:=
 okF (pl:=[]) Tryz.func6 Tryz.ntmps6 (by kernel_rfl) rfl (by kernel_rfl) k
def tB (s5:AV) (h:ab) (Q:QT):Prop:=
 Q s5 h
def y2 (a0 a1:AV) (h:ab) (Q:QT):Prop:=
 ah .rem a0 a1 fun t8=>
 ah .lss t8 (I 0) fun t10=>
 ifB t10 (
 ah .add t8 a1 fun t13=>
 tB t13 h Q) (
 tB t8 h Q)
theorem Ao (a0 a1:AV) (h:ab) (Q:QT) (k:y2 a0 a1 h Q):C cL [a0,a1] h Q:=
 okF (pl:=[]) Tryz.func11 Tryz.ntmps11 (by kernel_rfl) rfl (by kernel_rfl) k
def yw (a0:AV) (h:ab) (Q:QT):Prop:=
 ah .lss a0 (I 0) fun t4=>
 ifB t4 (
 ah .sub (I 0) a0 fun t6=>
 C dR [t6] h fun t7 h0=>
 ah .add (S ⟨#[45]⟩) t7 fun t8=>
 Q t8 h0) (
 ah .geq a0 (I 10) fun t10=>
 ifB t10 (
 ah .quo a0 (I 10) fun t12=>
 C dR [t12] h fun t13 h1=>
 ah .rem a0 (I 10) fun t15=>
 C dR [t15] h1 fun t16 h2=>
 ah .add t13 t16 fun t17=>
 Q t17 h2) (
 ah .add (I 48) a0 fun t19=>
 cz .u8 t19 fun t20=>
 ap 1 1 [t20] fun t21=>
 hZ t21 h fun t22=>
 Q t22 h))
theorem BR (a0:AV) (h:ab) (Q:QT) (k:yw a0 h Q):C dR [a0] h Q:=
 okF (pl:=[]) Tryz.func13 Tryz.ntmps13 (by kernel_rfl) rfl (by kernel_rfl) k
