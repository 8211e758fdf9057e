/-
The functions that are written out are the program's.
Conditions: none.
-/
import Derived.KernelRfl
import Derived.Test.YtekknahndoonjaaGreatDoorLit01
import Derived.Test.YtekknahndoonjaaGreatDoorHsCx
import Derived.Test.YtekknahndoonjaaGreatDoorRun04
import Derived.Test.YtekknahndoonjaaGreatDoorRun02
set_option linter.all false
set_option maxRecDepth 100000
noncomputable section
namespace Go
namespace Abs
def tc:R1 41=Vg:=by kernel_rfl
def rn:R1 68=WU:=by kernel_rfl
def A1s:R1 70=jm:=by kernel_rfl
def A31:R1 67=ig:=by kernel_rfl
def A0F:R1 71=iC:=by kernel_rfl
def A8Y:R1 20=lZ:=by kernel_rfl
def A2y:R1 157=iM:=by kernel_rfl
def A3h:R1 72=jS:=by kernel_rfl
def A8N:R1 40=qf:=by kernel_rfl
def AA1:R1 73=xX:=by kernel_rfl
def A0J:R1 22=iI:=by kernel_rfl
def A4R:R1 206=Kg:=by kernel_rfl
def A8j:R1 114=nu:=by kernel_rfl
def A21:R1 21=gP:=by kernel_rfl
def A9e:R1 39=mf:=by kernel_rfl
def kC:R1 113=Kg:=by kernel_rfl
def vE:R1 23=bu:=by kernel_rfl
def A98:R1 25=rW:=by kernel_rfl
def rp:R1 103=WY:=by kernel_rfl
def A1T:R1 37=jo:=by kernel_rfl
def ABV:R1 9=A0o:=by kernel_rfl
def A8s:R1 5=ng:=by kernel_rfl
def kY:R1 13=TG:=by kernel_rfl
def ZP:R1 44=OJ:=by kernel_rfl
def wh:R1 45=aE:=by kernel_rfl
def A4G:R1 10=qV:=by kernel_rfl
def A1j:R1 75=jX:=by kernel_rfl
def A2V:R1 200=gN:=by kernel_rfl
def uw:R1 106=Yy:=by kernel_rfl
def uk:R1 6=ZZ:=by kernel_rfl
def A1Z:R1 274=gk:=by kernel_rfl
def ABK:R1 201=xY:=by kernel_rfl
def AHB:R1 107=A93:=by kernel_rfl
def A3b:R1 110=iP:=by kernel_rfl
def A6y:R1 108=tU:=by kernel_rfl
def A3Y:R1 109=gX:=by kernel_rfl
def uq:R1 204=Zy:=by kernel_rfl
def A4J:R1 203=ua:=by kernel_rfl
def A9q:R1 202=rK:=by kernel_rfl
def A4L:R1 111=mg:=by kernel_rfl
def ve:R1 42=ZE:=by kernel_rfl
def ABN:R1 24=yB:=by kernel_rfl
def A97:R1 43=qd:=by kernel_rfl
def mD:R1 151=WE:=by kernel_rfl
def ADK:R1 156=zE:=by kernel_rfl
def A9K:R1 250=A0r:=by kernel_rfl
def A2T:R1 154=iR:=by kernel_rfl
def kL:R1 152=SP:=by kernel_rfl
def Sn:R1 153=NH:=by kernel_rfl
def A1A:R1 69=iY:=by kernel_rfl
def oT:R1 251=Wi:=by kernel_rfl
def A25:R1 252=ga:=by kernel_rfl
def A1u:R1 155=jR:=by kernel_rfl
def A3y:R1 102=jO:=by kernel_rfl
def AO8:R1 3=ALS:=by kernel_rfl
def A7i:R1 112=qa:=by kernel_rfl
def AHw:R1 74=A5H:=by kernel_rfl
def qP:R1 7=WA:=by kernel_rfl
def nP:R1 158=WI:=by kernel_rfl
def sZ:R1 199=wc:=by kernel_rfl
def AH2:R1 176=A6i:=by kernel_rfl
def oZ:R1 249=Vo:=by kernel_rfl
def A49:R1 150=gM:=by kernel_rfl
def A1I:R1 66=jQ:=by kernel_rfl
def uz:R1 166=cD:=by kernel_rfl
def qn:R1 81=Vj:=by kernel_rfl
def AAB:R1 84=A0a:=by kernel_rfl
def A39:R1 28=gu:=by kernel_rfl
def A1h:R1 19=jn:=by kernel_rfl
def A4k:R1 205=rO:=by kernel_rfl
def A7h:R1 164=tD:=by kernel_rfl
def A6d:R1 160=oO:=by kernel_rfl
def AB9:R1 163=zW:=by kernel_rfl
def A4X:R1 161=mT:=by kernel_rfl
def wz:R1 162=aS:=by kernel_rfl
def AH4:R1 77=ah:=by kernel_rfl
def A3d:R1 159=iS:=by kernel_rfl
def A8n:R1 78=oR:=by kernel_rfl
def oM:R1 26=WX:=by kernel_rfl
def A4O:R1 197=pT:=by kernel_rfl
def A7w:R1 198=oH:=by kernel_rfl
def A1E:R1 104=gz:=by kernel_rfl
def A20:R1 38=jC:=by kernel_rfl
def dr:R1 165=RT:=by kernel_rfl
def A2X:R1 79=iF:=by kernel_rfl
def wO:R1 80=bT:=by kernel_rfl
def qe:R1 27=Wd:=by kernel_rfl
def A5M:R1 76=uY:=by kernel_rfl
def A3L:R1 105=gT:=by kernel_rfl
def kc:R1 119=SM:=by kernel_rfl
def A6u:R1 50=pQ:=by kernel_rfl
def A2e:R1 291=A9j:=by kernel_rfl
def A2O:R1 292=gh:=by kernel_rfl
def A88:R1 191=sN:=by kernel_rfl
def A1D:R1 96=gY:=by kernel_rfl
def A5Z:R1 223=lz:=by kernel_rfl
def AHW:R1 126=AJ6:=by kernel_rfl
def A8P:R1 125=sP:=by kernel_rfl
def AL1:R1 53=AFm:=by kernel_rfl
def AIH:R1 31=AJk:=by kernel_rfl
def ABg:R1 34=zb:=by kernel_rfl
def A4p:R1 35=sg:=by kernel_rfl
def vd:R1 33=bU:=by kernel_rfl
def A9P:R1 48=yF:=by kernel_rfl
def A6J:R1 87=oy:=by kernel_rfl
def ACv:R1 30=A05:=by kernel_rfl
def AJH:R1 8=AEy:=by kernel_rfl
def A9V:R1 46=yV:=by kernel_rfl
def vI:R1 49=Yd:=by kernel_rfl
def A0G:R1 12=jI:=by kernel_rfl
def AHn:R1 47=A7Z:=by kernel_rfl
def ABq:R1 11=xf:=by kernel_rfl
def ACF:R1 100=A02:=by kernel_rfl
def AHb:R1 182=A5g:=by kernel_rfl
def ADO:R1 266=xN:=by kernel_rfl
def AIF:R1 183=A5P:=by kernel_rfl
def ACP:R1 91=A0i:=by kernel_rfl
def A4a:R1 92=iw:=by kernel_rfl
def ADT:R1 32=xg:=by kernel_rfl
def A53:R1 186=pE:=by kernel_rfl
def ACi:R1 95=A0t:=by kernel_rfl
def ANr:R1 196=AG6:=by kernel_rfl
def A6j:R1 195=qc:=by kernel_rfl
def AHL:R1 98=A7C:=by kernel_rfl
def AGI:R1 99=A8G:=by kernel_rfl
def Vp:R1 101=QU:=by kernel_rfl
def A8F:R1 36=mJ:=by kernel_rfl
def yg:R1 330=mu:=by kernel_rfl
def zY:R1 329=mc:=by kernel_rfl
def AJN:R1 276=AF3:=by kernel_rfl
def pB:R1 277=yO:=by kernel_rfl
def A6n:R1 332=mI:=by kernel_rfl
def ACN:R1 278=yP:=by kernel_rfl
def AIB:R1 207=A96:=by kernel_rfl
def AHs:R1 115=A9f:=by kernel_rfl
def A9Q:R1 118=xd:=by kernel_rfl
def ACp:R1 331=yu:=by kernel_rfl
def ABE:R1 143=A0u:=by kernel_rfl
def A6o:R1 97=tu:=by kernel_rfl
def vF:R1 184=Zq:=by kernel_rfl
def A4N:R1 336=mL:=by kernel_rfl
def wa:R1 90=Yf:=by kernel_rfl
def AAU:R1 185=AHd:=by kernel_rfl
def A6C:R1 94=my:=by kernel_rfl
def ABk:R1 370=za:=by kernel_rfl
def ABA:R1 323=xz:=by kernel_rfl
def A62:R1 267=qU:=by kernel_rfl
def A78:R1 269=qC:=by kernel_rfl
def A6X:R1 187=nj:=by kernel_rfl
def A46:R1 190=gR:=by kernel_rfl
def AIr:R1 117=A6m:=by kernel_rfl
def A4o:R1 337=sD:=by kernel_rfl
def qY:R1 282=Vv:=by kernel_rfl
def A6k:R1 213=sF:=by kernel_rfl
def AGH:R1 273=A5o:=by kernel_rfl
def ALi:R1 193=AG7:=by kernel_rfl
def US:R1 328=Gx:=by kernel_rfl
def xF:R1 333=aO:=by kernel_rfl
def A8v:R1 379=me:=by kernel_rfl
def A6I:R1 334=rH:=by kernel_rfl
def A7b:R1 280=mN:=by kernel_rfl
def ACL:R1 212=zg:=by kernel_rfl
def A7H:R1 386=pC:=by kernel_rfl
def AMj:R1 344=AE8:=by kernel_rfl
def AAZ:R1 268=zX:=by kernel_rfl
def A9v:ACH Proofs.Tryz.prog Ap 29=A6N:=by kernel_rfl
def Zc:ACH Proofs.Tryz.prog Ap 375=bD:=by kernel_rfl
def oG:R1 192=AX7 5:=by kernel_rfl
def A9R:R1 224=AX7 24:=by kernel_rfl
def AAT:R1 225=AX7 3:=by kernel_rfl
def AAf:R1 226=AX7 4:=by kernel_rfl
def AGw:R1 179=AMr 3 i0:=by kernel_rfl
def A7P:R1 88=A2R 3 179:=by kernel_rfl
def AHr:R1 208=AMr 5 (bN 0):=by kernel_rfl
def A4A:R1 116=A2R 5 208:=by kernel_rfl
end Abs
end Go
end
