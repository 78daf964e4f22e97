/- Part 7. -/
import Derived.Test.YtbgflifmanjpjaaGreatDoorS6
import Derived.Test.YtbgflifmanjpjaaGreatDoorChecked
import Derived.KernelRfl
set_option linter.unusedSimpArgs false
set_option linter.unusedVariables false
namespace Go.Proofs.YtbgflifmanjpjaaGreatDoor
section
set_option maxRecDepth 100000
set_option maxHeartbeats 20000000
def aM:List Nat:= []
noncomputable def zQ:ACode:=bK Tryz.prog aM Tryz.f55
noncomputable def zR:AFn:=⟨1,77,zQ,[.tmp 2]⟩
theorem sX:aq Tryz.prog aM Tryz.f55=some zR:=kk
theorem sY:ab Tryz.prog 55=true:=kk
noncomputable def sZ:ACode:=bK Tryz.prog aM Tryz.f99
noncomputable def s5:AFn:=⟨1,17,sZ,[.tmp 2]⟩
theorem oo:aq Tryz.prog aM Tryz.f99=some s5:=kk
theorem oq:ab Tryz.prog 99=true:=kk
noncomputable def vH:ACode:=bK Tryz.prog aM Tryz.f100
noncomputable def vI:AFn:=⟨1,9,vH,[.tmp 2]⟩
theorem pD:aq Tryz.prog aM Tryz.f100=some vI:=kk
theorem pE:ab Tryz.prog 100=true:=kk
noncomputable def xA:ACode:=bK Tryz.prog aM Tryz.f53
noncomputable def xB:AFn:=⟨1,37,xA,[.tmp 2]⟩
theorem qL:aq Tryz.prog aM Tryz.f53=some xB:=kk
theorem qM:ab Tryz.prog 53=true:=kk
noncomputable def BM:ACode:=bK Tryz.prog aM Tryz.f151
noncomputable def BN:AFn:=⟨1,31,BM,[.tmp 2]⟩
theorem vJ:aq Tryz.prog aM Tryz.f151=some BN:=kk
theorem vK:ab Tryz.prog 151=true:=kk
noncomputable def Ea:ACode:=bK Tryz.prog aM Tryz.f45
noncomputable def Eb:AFn:=⟨1,5,Ea,[.cell 2 6 true]⟩
theorem xC:aq Tryz.prog aM Tryz.f45=some Eb:=kk
theorem xD:ab Tryz.prog 45=true:=kk
noncomputable def BO:ACode:=bK Tryz.prog aM Tryz.f44
noncomputable def BP:AFn:=⟨0,2,BO,[.cell 0 6 true]⟩
theorem vL:aq Tryz.prog aM Tryz.f44=some BP:=kk
theorem vM:ab Tryz.prog 44=true:=kk
noncomputable def BQ:ACode:=bK Tryz.prog aM Tryz.f180
noncomputable def BR:AFn:=⟨1,5,BQ,[.cell 2 6 true]⟩
theorem vN:aq Tryz.prog aM Tryz.f180=some BR:=kk
theorem vO:ab Tryz.prog 180=true:=kk
noncomputable def lM:ACode:=bK Tryz.prog aM Tryz.f147
noncomputable def BS:AFn:=⟨1,22,lM,[.cell 2 6 true]⟩
theorem vP:aq Tryz.prog aM Tryz.f147=some BS:=kk
theorem vQ:ab Tryz.prog 147=true:=kk
noncomputable def lN:ACode:=bK Tryz.prog aM Tryz.f54
noncomputable def lO:AFn:=⟨2,8,lN,[.tmp 4]⟩
theorem i6:aq Tryz.prog aM Tryz.f54=some lO:=kk
theorem i7:ab Tryz.prog 54=true:=kk
noncomputable def iD:ACode:=bK Tryz.prog aM Tryz.f102
noncomputable def iE:AFn:=⟨2,13,iD,[.tmp 4]⟩
theorem fZ:aq Tryz.prog aM Tryz.f102=some iE:=kk
theorem f7:ab Tryz.prog 102=true:=kk
noncomputable def s6:ACode:=bK Tryz.prog aM Tryz.f52
noncomputable def s7:AFn:=⟨2,8,s6,[.tmp 4]⟩
theorem ot:aq Tryz.prog aM Tryz.f52=some s7:=kk
theorem ov:ab Tryz.prog 52=true:=kk
noncomputable def mR:ACode:=bK Tryz.prog aM Tryz.f42
noncomputable def mT:AFn:=⟨2,8,mR,[.tmp 4]⟩
theorem jY:aq Tryz.prog aM Tryz.f42=some mT:=kk
theorem jZ:ab Tryz.prog 42=true:=kk
noncomputable def i8:ACode:=bK Tryz.prog aM Tryz.f86
noncomputable def ja:AFn:=⟨2,18,i8,[.tmp 4]⟩
theorem gH:aq Tryz.prog aM Tryz.f86=some ja:=kk
theorem gI:ab Tryz.prog 86=true:=kk
noncomputable def mU:ACode:=bK Tryz.prog aM Tryz.f161
noncomputable def mV:AFn:=⟨2,11,mU,[.tmp 4,.tmp 5]⟩
theorem j0:aq Tryz.prog aM Tryz.f161=some mV:=kk
theorem j2:ab Tryz.prog 161=true:=kk
noncomputable def jb:ACode:=bK Tryz.prog aM Tryz.f214
noncomputable def jc:AFn:=⟨2,15,jb,[.tmp 4,.tmp 5]⟩
theorem gJ:aq Tryz.prog aM Tryz.f214=some jc:=kk
theorem gK:ab Tryz.prog 214=true:=kk
noncomputable def xE:ACode:=bK Tryz.prog aM Tryz.f71
noncomputable def xF:AFn:=⟨2,13,xE,[.tmp 4,.tmp 5,.tmp 6]⟩
theorem qN:aq Tryz.prog aM Tryz.f71=some xF:=kk
theorem qO:ab Tryz.prog 71=true:=kk
noncomputable def pF:ACode:=bK Tryz.prog aM Tryz.f120
noncomputable def pG:AFn:=⟨2,23,pF,[.tmp 4,.tmp 5,.tmp 6]⟩
theorem fw:aq Tryz.prog aM Tryz.f120=some pG:=kk
theorem fx:ab Tryz.prog 120=true:=kk
end
section
set_option maxRecDepth 100000
set_option maxHeartbeats 20000000
def cv:List Nat:= []
noncomputable def zS:ACode:=bK Tryz.prog cv Tryz.f49
noncomputable def zT:AFn:=⟨1,13,zS,[.tmp 2]⟩
theorem s8:aq Tryz.prog cv Tryz.f49=some zT:=kk
theorem ta:ab Tryz.prog 49=true:=kk
noncomputable def BT:ACode:=bK Tryz.prog cv Tryz.f96
noncomputable def BU:AFn:=⟨1,34,BT,[.tmp 2]⟩
theorem vR:aq Tryz.prog cv Tryz.f96=some BU:=kk
theorem vS:ab Tryz.prog 96=true:=kk
noncomputable def zU:ACode:=bK Tryz.prog cv Tryz.f95
noncomputable def zV:AFn:=⟨1,35,zU,[.tmp 2]⟩
theorem tc:aq Tryz.prog cv Tryz.f95=some zV:=kk
theorem td:ab Tryz.prog 95=true:=kk
noncomputable def zW:ACode:=bK Tryz.prog cv Tryz.f97
noncomputable def zX:AFn:=⟨1,66,zW,[.tmp 2]⟩
theorem tf:aq Tryz.prog cv Tryz.f97=some zX:=kk
theorem th:ab Tryz.prog 97=true:=kk
noncomputable def Ec:ACode:=bK Tryz.prog cv Tryz.f152
noncomputable def Ed:AFn:=⟨1,24,Ec,[.tmp 2]⟩
theorem xG:aq Tryz.prog cv Tryz.f152=some Ed:=kk
theorem xH:ab Tryz.prog 152=true:=kk
noncomputable def qP:ACode:=bK Tryz.prog cv Tryz.f124
noncomputable def qQ:AFn:=⟨1,23,qP,[.tmp 2,.tmp 3,.tmp 4]⟩
theorem mW:aq Tryz.prog cv Tryz.f124=some qQ:=kk
theorem mY:ab Tryz.prog 124=true:=kk
theorem ow:ab Tryz.prog 178=true:=kk
theorem ox:ab Tryz.prog 179=true:=kk
noncomputable def vT:ACode:=bK Tryz.prog cv Tryz.f125
noncomputable def vU:AFn:=⟨1,33,vT,[.cell 2 6 true,.tmp 3]⟩
theorem pH:aq Tryz.prog cv Tryz.f125=some vU:=kk
theorem pI:ab Tryz.prog 125=true:=kk
noncomputable def ti:ACode:=bK Tryz.prog cv Tryz.f181
noncomputable def tj:AFn:=⟨1,19,ti,[.tmp 2]⟩
theorem oy:aq Tryz.prog cv Tryz.f181=some tj:=kk
theorem oz:ab Tryz.prog 181=true:=kk
end
end Go.Proofs.YtbgflifmanjpjaaGreatDoor
