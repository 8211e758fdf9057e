/-
The functions that are written out are the program's.
Conditions: none.
-/
import Derived.Test.YtefdgihgbhbibaaGreatDoorRunLit
import Derived.Test.YtefdgihgbhbibaaGreatDoorEvalX
set_option linter.unusedVariables false
set_option linter.unusedSimpArgs false
set_option maxRecDepth 100000
namespace Go
namespace cG
theorem aME:cF Proofs.Tryz.prog dN 171=Sf:=by kernel_rfl
theorem aGU:cF Proofs.Tryz.prog dN 106=Ee:=by kernel_rfl
theorem aMF:cF Proofs.Tryz.prog dN 107=Jf:=by kernel_rfl
theorem aCD:cF Proofs.Tryz.prog dN 56=Gd:=by kernel_rfl
theorem aCE:cF Proofs.Tryz.prog dN 104=Ge:=by kernel_rfl
theorem aMG:cF Proofs.Tryz.prog dN 170=Sg:=by kernel_rfl
theorem Ud:cF Proofs.Tryz.prog dN 555=sR:=by kernel_rfl
theorem aGV:cF Proofs.Tryz.prog dN 556=Lh:=by kernel_rfl
theorem Ue:cF Proofs.Tryz.prog dN 557=yN:=by kernel_rfl
theorem aGW:cF Proofs.Tryz.prog dN 558=Li:=by kernel_rfl
theorem aGX:cF Proofs.Tryz.prog dN 559=Lj:=by kernel_rfl
theorem aGY:cF Proofs.Tryz.prog dN 172=Ef:=by kernel_rfl
theorem aMH:cF Proofs.Tryz.prog dN 108=Jh:=by kernel_rfl
theorem aPZ:cF Proofs.Tryz.prog dN 68=Sr:=by kernel_rfl
theorem aCF:cF Proofs.Tryz.prog dN 26=Gh:=by kernel_rfl
theorem aCG:cF Proofs.Tryz.prog dN 105=Gi:=by kernel_rfl
theorem Zx:cF Proofs.Tryz.prog dN 48=Bh:=by kernel_rfl
theorem aMI:cF Proofs.Tryz.prog dN 27=Ss:=by kernel_rfl
theorem aGZ:cF Proofs.Tryz.prog dN 55=Lw:=by kernel_rfl
theorem aMJ:cF Proofs.Tryz.prog dN 29=Su:=by kernel_rfl
theorem aMK:cF Proofs.Tryz.prog dN 50=Sv:=by kernel_rfl
theorem aCH:cF Proofs.Tryz.prog dN 51=Gj:=by kernel_rfl
theorem Zy:cF Proofs.Tryz.prog dN 52=Bj:=by kernel_rfl
theorem aP0:cF Proofs.Tryz.prog dN 53=Bk:=by kernel_rfl
theorem aG0:cF Proofs.Tryz.prog dN 28=Lx:=by kernel_rfl
theorem aCI:cF Proofs.Tryz.prog dN 10=Gk:=by kernel_rfl
theorem aTz:cF Proofs.Tryz.prog dN 30=aKk:=by kernel_rfl
theorem aG2:cF Proofs.Tryz.prog dN 54=Mj:=by kernel_rfl
theorem Zz:cF Proofs.Tryz.prog dN 31=Bp:=by kernel_rfl
theorem aP1:cF Proofs.Tryz.prog dN 34=aBI:=by kernel_rfl
theorem aG3:cF Proofs.Tryz.prog dN 13=Ml:=by kernel_rfl
theorem aML:cF Proofs.Tryz.prog dN 11=Tc:=by kernel_rfl
theorem aCJ:cF Proofs.Tryz.prog dN 539=Gn:=by kernel_rfl
theorem aCK:cF Proofs.Tryz.prog dN 536=Gp:=by kernel_rfl
theorem aAa:cF Proofs.Tryz.prog dN 537=Br:=by kernel_rfl
theorem aG4:cF Proofs.Tryz.prog dN 538=Mm:=by kernel_rfl
theorem aCL:cF Proofs.Tryz.prog dN 540=Gq:=by kernel_rfl
theorem aAb:cF Proofs.Tryz.prog dN 541=Bs:=by kernel_rfl
theorem aG5:cF Proofs.Tryz.prog dN 542=Mn:=by kernel_rfl
theorem aCM:cF Proofs.Tryz.prog dN 543=Gr:=by kernel_rfl
theorem aAc:cF Proofs.Tryz.prog dN 544=Bt:=by kernel_rfl
theorem aG6:cF Proofs.Tryz.prog dN 545=Mo:=by kernel_rfl
theorem aCN:cF Proofs.Tryz.prog dN 546=Gs:=by kernel_rfl
theorem aAd:cF Proofs.Tryz.prog dN 547=Bu:=by kernel_rfl
theorem aG7:cF Proofs.Tryz.prog dN 548=Mp:=by kernel_rfl
theorem aAe:cF Proofs.Tryz.prog dN 254=Bv:=by kernel_rfl
theorem aAf:cF Proofs.Tryz.prog dN 168=Bw:=by kernel_rfl
theorem Uf:cF Proofs.Tryz.prog dN 255=y8:=by kernel_rfl
theorem aAg:cF Proofs.Tryz.prog dN 332=Bx:=by kernel_rfl
theorem aAh:cF Proofs.Tryz.prog dN 333=By:=by kernel_rfl
theorem aCO:cF Proofs.Tryz.prog dN 412=Gt:=by kernel_rfl
theorem aG8:cF Proofs.Tryz.prog dN 334=Mu:=by kernel_rfl
theorem Oy:cF Proofs.Tryz.prog dN 335=wN:=by kernel_rfl
theorem aMM:cF Proofs.Tryz.prog dN 413=Te:=by kernel_rfl
theorem aP2:cF Proofs.Tryz.prog dN 414=aBT:=by kernel_rfl
theorem aMN:cF Proofs.Tryz.prog dN 415=Tf:=by kernel_rfl
theorem aMO:cF Proofs.Tryz.prog dN 416=Tg:=by kernel_rfl
theorem aCP:cF Proofs.Tryz.prog dN 417=Gu:=by kernel_rfl
theorem aMP:cF Proofs.Tryz.prog dN 468=Th:=by kernel_rfl
theorem aMQ:cF Proofs.Tryz.prog dN 158=El:=by kernel_rfl
theorem aCQ:cF Proofs.Tryz.prog dN 167=Gv:=by kernel_rfl
theorem Nx:cF Proofs.Tryz.prog dN 101=pC:=by kernel_rfl
theorem aCR:cF Proofs.Tryz.prog dN 47=Gw:=by kernel_rfl
theorem aTA:cF Proofs.Tryz.prog dN 24=aKv:=by kernel_rfl
theorem Oz:cF Proofs.Tryz.prog dN 46=wO:=by kernel_rfl
theorem aP3:cF Proofs.Tryz.prog dN 8=aBU:=by kernel_rfl
theorem aP4:cF Proofs.Tryz.prog dN 3=aB7:=by kernel_rfl
theorem aG9:cF Proofs.Tryz.prog dN 5=Nn:=by kernel_rfl
theorem aCS:cF Proofs.Tryz.prog dN 6=Ha:=by kernel_rfl
theorem aP5:cF Proofs.Tryz.prog dN 18=aB8:=by kernel_rfl
theorem aCT:cF Proofs.Tryz.prog dN 19=Hb:=by kernel_rfl
theorem aCU:cF Proofs.Tryz.prog dN 39=Hc:=by kernel_rfl
theorem Ug:cF Proofs.Tryz.prog dN 74=zC:=by kernel_rfl
theorem aP6:cF Proofs.Tryz.prog dN 73=aB9:=by kernel_rfl
theorem aCV:cF Proofs.Tryz.prog dN 12=Hd:=by kernel_rfl
theorem aHa:cF Proofs.Tryz.prog dN 7=No:=by kernel_rfl
theorem aHb:cF Proofs.Tryz.prog dN 20=Np:=by kernel_rfl
theorem aAi:cF Proofs.Tryz.prog dN 22=Cf:=by kernel_rfl
theorem aMR:cF Proofs.Tryz.prog dN 23=Tt:=by kernel_rfl
theorem aAj:cF Proofs.Tryz.prog dN 21=Ch:=by kernel_rfl
theorem aCW:cF Proofs.Tryz.prog dN 40=He:=by kernel_rfl
theorem aCX:cF Proofs.Tryz.prog dN 75=Hf:=by kernel_rfl
theorem aAk:cF Proofs.Tryz.prog dN 76=Ci:=by kernel_rfl
theorem aMS:cF Proofs.Tryz.prog dN 41=Tu:=by kernel_rfl
theorem aMT:cF Proofs.Tryz.prog dN 42=Tv:=by kernel_rfl
theorem aCY:cF Proofs.Tryz.prog dN 43=Hg:=by kernel_rfl
theorem aHc:cF Proofs.Tryz.prog dN 78=Nr:=by kernel_rfl
theorem aCZ:cF Proofs.Tryz.prog dN 77=Hh:=by kernel_rfl
theorem aHd:cF Proofs.Tryz.prog dN 14=Ns:=by kernel_rfl
theorem aC0:cF Proofs.Tryz.prog dN 9=Hi:=by kernel_rfl
theorem aC1:cF Proofs.Tryz.prog dN 25=Hj:=by kernel_rfl
end cG
end Go
