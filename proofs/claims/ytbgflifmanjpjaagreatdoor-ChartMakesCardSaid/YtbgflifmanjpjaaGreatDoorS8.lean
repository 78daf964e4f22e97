/- Part 8. -/
import Derived.Test.YtbgflifmanjpjaaGreatDoorS7
import Derived.Test.YtbgflifmanjpjaaGreatDoorChecked
import Derived.KernelRfl
set_option linter.unusedSimpArgs false
set_option linter.unusedVariables false
namespace Go.Proofs.YtbgflifmanjpjaaGreatDoor
section
set_option maxRecDepth 100000
set_option maxHeartbeats 20000000
def aH:List Nat:= []
noncomputable def yw:ACode:=bK Tryz.prog aH Tryz.f55
noncomputable def yx:AFn:=⟨1,77,yw,[.tmp 2]⟩
theorem rV:ar Tryz.prog aH Tryz.f55=some yx:=kk
theorem rW:ab Tryz.prog 55=true:=kk
noncomputable def rX:ACode:=bK Tryz.prog aH Tryz.f99
noncomputable def rY:AFn:=⟨1,17,rX,[.tmp 2]⟩
theorem nG:ar Tryz.prog aH Tryz.f99=some rY:=kk
theorem nH:ab Tryz.prog 99=true:=kk
noncomputable def uw:ACode:=bK Tryz.prog aH Tryz.f100
noncomputable def ux:AFn:=⟨1,9,uw,[.tmp 2]⟩
theorem oX:ar Tryz.prog aH Tryz.f100=some ux:=kk
theorem oY:ab Tryz.prog 100=true:=kk
noncomputable def v7:ACode:=bK Tryz.prog aH Tryz.f53
noncomputable def v8:AFn:=⟨1,37,v7,[.tmp 2]⟩
theorem qh:ar Tryz.prog aH Tryz.f53=some v8:=kk
theorem qi:ab Tryz.prog 53=true:=kk
noncomputable def uy:ACode:=bK Tryz.prog aH Tryz.f222
noncomputable def uz:AFn:=⟨1,29,uy,[.tmp 2]⟩
theorem oZ:ar Tryz.prog aH Tryz.f222=some uz:=kk
theorem o4:ab Tryz.prog 222=true:=kk
noncomputable def Ar:ACode:=bK Tryz.prog aH Tryz.f151
noncomputable def As:AFn:=⟨1,31,Ar,[.tmp 2]⟩
theorem uA:ar Tryz.prog aH Tryz.f151=some As:=kk
theorem uB:ab Tryz.prog 151=true:=kk
noncomputable def CQ:ACode:=bK Tryz.prog aH Tryz.f45
noncomputable def CR:AFn:=⟨1,5,CQ,[.cell 2 6 true]⟩
theorem wa:ar Tryz.prog aH Tryz.f45=some CR:=kk
theorem wb:ab Tryz.prog 45=true:=kk
noncomputable def Au:ACode:=bK Tryz.prog aH Tryz.f44
noncomputable def Av:AFn:=⟨0,2,Au,[.cell 0 6 true]⟩
theorem uC:ar Tryz.prog aH Tryz.f44=some Av:=kk
theorem uD:ab Tryz.prog 44=true:=kk
noncomputable def Aw:ACode:=bK Tryz.prog aH Tryz.f180
noncomputable def Ax:AFn:=⟨1,5,Aw,[.cell 2 6 true]⟩
theorem uE:ar Tryz.prog aH Tryz.f180=some Ax:=kk
theorem uF:ab Tryz.prog 180=true:=kk
noncomputable def lc:ACode:=bK Tryz.prog aH Tryz.f147
noncomputable def Ay:AFn:=⟨1,22,lc,[.cell 2 6 true]⟩
theorem uG:ar Tryz.prog aH Tryz.f147=some Ay:=kk
theorem uH:ab Tryz.prog 147=true:=kk
noncomputable def lf:ACode:=bK Tryz.prog aH Tryz.f54
noncomputable def lg:AFn:=⟨2,8,lf,[.tmp 4]⟩
theorem iA:ar Tryz.prog aH Tryz.f54=some lg:=kk
theorem iB:ab Tryz.prog 54=true:=kk
noncomputable def g7:ACode:=bK Tryz.prog aH Tryz.f102
noncomputable def g8:AFn:=⟨2,13,g7,[.tmp 4]⟩
theorem fE:ar Tryz.prog aH Tryz.f102=some g8:=kk
theorem fF:ab Tryz.prog 102=true:=kk
noncomputable def rZ:ACode:=bK Tryz.prog aH Tryz.f52
noncomputable def r6:AFn:=⟨2,8,rZ,[.tmp 4]⟩
theorem nI:ar Tryz.prog aH Tryz.f52=some r6:=kk
theorem nL:ab Tryz.prog 52=true:=kk
noncomputable def mn:ACode:=bK Tryz.prog aH Tryz.f42
noncomputable def mq:AFn:=⟨2,8,mn,[.tmp 4]⟩
theorem jv:ar Tryz.prog aH Tryz.f42=some mq:=kk
theorem jw:ab Tryz.prog 42=true:=kk
noncomputable def iC:ACode:=bK Tryz.prog aH Tryz.f86
noncomputable def iD:AFn:=⟨2,18,iC,[.tmp 4]⟩
theorem gg:ar Tryz.prog aH Tryz.f86=some iD:=kk
theorem gh:ab Tryz.prog 86=true:=kk
noncomputable def mr:ACode:=bK Tryz.prog aH Tryz.f161
noncomputable def mv:AFn:=⟨2,11,mr,[.tmp 4,.tmp 5]⟩
theorem jx:ar Tryz.prog aH Tryz.f161=some mv:=kk
theorem jy:ab Tryz.prog 161=true:=kk
noncomputable def iE:ACode:=bK Tryz.prog aH Tryz.f214
noncomputable def iF:AFn:=⟨2,15,iE,[.tmp 4,.tmp 5]⟩
theorem gi:ar Tryz.prog aH Tryz.f214=some iF:=kk
theorem gj:ab Tryz.prog 214=true:=kk
noncomputable def wc:ACode:=bK Tryz.prog aH Tryz.f71
noncomputable def wd:AFn:=⟨2,13,wc,[.tmp 4,.tmp 5,.tmp 6]⟩
theorem qj:ar Tryz.prog aH Tryz.f71=some wd:=kk
theorem qk:ab Tryz.prog 71=true:=kk
noncomputable def o5:ACode:=bK Tryz.prog aH Tryz.f120
noncomputable def o6:AFn:=⟨2,23,o5,[.tmp 4,.tmp 5,.tmp 6]⟩
theorem e9:ar Tryz.prog aH Tryz.f120=some o6:=kk
theorem fa:ab Tryz.prog 120=true:=kk
end
section
set_option maxRecDepth 100000
set_option maxHeartbeats 20000000
def cd:List Nat:= []
noncomputable def yy:ACode:=bK Tryz.prog cd Tryz.f49
noncomputable def yz:AFn:=⟨1,13,yy,[.tmp 2]⟩
theorem r7:ar Tryz.prog cd Tryz.f49=some yz:=kk
theorem r8:ab Tryz.prog 49=true:=kk
noncomputable def Az:ACode:=bK Tryz.prog cd Tryz.f96
noncomputable def AA:AFn:=⟨1,34,Az,[.tmp 2]⟩
theorem uI:ar Tryz.prog cd Tryz.f96=some AA:=kk
theorem uJ:ab Tryz.prog 96=true:=kk
noncomputable def yA:ACode:=bK Tryz.prog cd Tryz.f95
noncomputable def yB:AFn:=⟨1,35,yA,[.tmp 2]⟩
theorem r9:ar Tryz.prog cd Tryz.f95=some yB:=kk
theorem sa:ab Tryz.prog 95=true:=kk
noncomputable def yC:ACode:=bK Tryz.prog cd Tryz.f97
noncomputable def yD:AFn:=⟨1,66,yC,[.tmp 2]⟩
theorem sd:ar Tryz.prog cd Tryz.f97=some yD:=kk
theorem se:ab Tryz.prog 97=true:=kk
noncomputable def CT:ACode:=bK Tryz.prog cd Tryz.f152
noncomputable def CU:AFn:=⟨1,24,CT,[.tmp 2]⟩
theorem we:ar Tryz.prog cd Tryz.f152=some CU:=kk
theorem wf:ab Tryz.prog 152=true:=kk
noncomputable def ql:ACode:=bK Tryz.prog cd Tryz.f124
noncomputable def qm:AFn:=⟨1,23,ql,[.tmp 2,.tmp 3,.tmp 4]⟩
theorem mw:ar Tryz.prog cd Tryz.f124=some qm:=kk
theorem my:ab Tryz.prog 124=true:=kk
theorem nM:ab Tryz.prog 178=true:=kk
theorem nN:ab Tryz.prog 179=true:=kk
noncomputable def uK:ACode:=bK Tryz.prog cd Tryz.f125
noncomputable def uL:AFn:=⟨1,33,uK,[.cell 2 6 true,.tmp 3]⟩
theorem o7:ar Tryz.prog cd Tryz.f125=some uL:=kk
theorem o8:ab Tryz.prog 125=true:=kk
noncomputable def sf:ACode:=bK Tryz.prog cd Tryz.f181
noncomputable def sg:AFn:=⟨1,19,sf,[.tmp 2]⟩
theorem nO:ar Tryz.prog cd Tryz.f181=some sg:=kk
theorem nP:ab Tryz.prog 181=true:=kk
end
end Go.Proofs.YtbgflifmanjpjaaGreatDoor
