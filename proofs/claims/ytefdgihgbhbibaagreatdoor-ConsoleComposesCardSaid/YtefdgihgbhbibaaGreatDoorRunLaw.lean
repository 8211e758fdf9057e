/-
The contracts, by the bodies.
Conditions: none.
-/
import Derived.Test.YtefdgihgbhbibaaGreatDoorRun08
set_option linter.unusedVariables false
set_option linter.unusedSimpArgs false
set_option maxRecDepth 10000
namespace Go
namespace cG
structure aWf (P:Program) (cx:Cx):Prop where
 aTc:cF P cx 171=Sf
 aEG:cF P cx 106=Ee
 aTd:cF P cx 107=Jf
 Zk:cF P cx 56=Gd
 Zl:cF P cx 104=Ge
 aTe:cF P cx 170=Sg
 aCr:cF P cx 555=sR
 aPn:cF P cx 556=Lh
 aCs:cF P cx 557=yN
 aPo:cF P cx 558=Li
 aPp:cF P cx 559=Lj
 aPq:cF P cx 172=Ef
 aTf:cF P cx 108=Jh
 aWg:cF P cx 68=Sr
 aLL:cF P cx 26=Gh
 aLM:cF P cx 105=Gi
 aGw:cF P cx 48=Bh
 aTg:cF P cx 27=Ss
 aPr:cF P cx 55=Lw
 aTh:cF P cx 29=Su
 aLN:cF P cx 50=Sv
 Zm:cF P cx 51=Gj
 Qj:cF P cx 52=Bj
 aWh:cF P cx 53=Bk
 aPs:cF P cx 28=Lx
 aLO:cF P cx 10=Gk
 aYY:cF P cx 30=aKk
 aPt:cF P cx 54=Mj
 aGx:cF P cx 31=Bp
 aWi:cF P cx 34=aBI
 aPu:cF P cx 13=Ml
 aTi:cF P cx 11=Tc
 aLP:cF P cx 539=Gn
 aLQ:cF P cx 536=Gp
 aGy:cF P cx 537=Br
 aPv:cF P cx 538=Mm
 aLR:cF P cx 540=Gq
 aGz:cF P cx 541=Bs
 aPw:cF P cx 542=Mn
 aLS:cF P cx 543=Gr
 aGA:cF P cx 544=Bt
 aPx:cF P cx 545=Mo
 aLT:cF P cx 546=Gs
 aGB:cF P cx 547=Bu
 aPy:cF P cx 548=Mp
 aGC:cF P cx 254=Bv
 aGD:cF P cx 168=Bw
 aCt:cF P cx 255=y8
 aGE:cF P cx 332=Bx
 aGF:cF P cx 333=By
 aLU:cF P cx 412=Gt
 aPz:cF P cx 334=Mu
 Zn:cF P cx 335=wN
 aTj:cF P cx 413=Te
 aWj:cF P cx 414=aBT
 aTk:cF P cx 415=Tf
 aTl:cF P cx 416=Tg
 aLV:cF P cx 417=Gu
 aTm:cF P cx 468=Th
 aLW:cF P cx 158=El
 aLX:cF P cx 167=Gv
 Ew:cF P cx 101=pC
 aLY:cF P cx 47=Gw
 aYZ:cF P cx 24=aKv
 Zo:cF P cx 46=wO
 aWk:cF P cx 8=aBU
 aWl:cF P cx 3=aB7
 aPA:cF P cx 5=Nn
 aLZ:cF P cx 6=Ha
 aWm:cF P cx 18=aB8
 aL0:cF P cx 19=Hb
 aL1:cF P cx 39=Hc
 aCu:cF P cx 74=zC
 aWn:cF P cx 73=aB9
 aL3:cF P cx 12=Hd
 aPB:cF P cx 7=No
 aPC:cF P cx 20=Np
 aGG:cF P cx 22=Cf
 aTn:cF P cx 23=Tt
 aGH:cF P cx 21=Ch
 aL4:cF P cx 40=He
 aL5:cF P cx 75=Hf
 aGI:cF P cx 76=Ci
 aTo:cF P cx 41=Tu
 aTp:cF P cx 42=Tv
 aL6:cF P cx 43=Hg
 aPD:cF P cx 78=Nr
 aL7:cF P cx 77=Hh
 aPE:cF P cx 14=Ns
 aL8:cF P cx 9=Hi
 aL9:cF P cx 25=Hj
 aGJ:Uz P cx 103=zB
 aGK:∀ (call:Call) (b:Nat) (H:Hp),yB (Uz P cx 103) call [bE b 0] .ret H=.ok .ret H
 aMa:∀ (call:Call) (b:Nat) (H:Hp),yB (Uz P cx 49) call [bE b 0] .ret H=.ok .ret H
def bV:List Nat:=[539,536,537,538,540,541,542,543,544,545,546,547,548,54,11,468,415,417,413,416,332,74,39,19,25,9]
section
def Ov4 (ov:FuncId→List Value→Hp→Option fV):Prop:=∀ g args H,Nat.beq g 4=false→ov g args H=none
variable {P:Program} {cx:Cx} {ov:FuncId→List Value→Hp→Option fV}
theorem kY {n:Nat} {g:FuncId} {args:List Value} {H:Hp} {c:CF} (hov:∀ g args H,Nat.beq g 4=false→ov g args H=none) (hc:cF P cx g=c) (h1:Nat.beq g 4=false) (h2:bV.any (Nat.beq g)=false):cH P cx ov bV (n+1) g args H=dD c (cH P cx ov bV n) (fun g=>yB (Uz P cx g) (cH P cx ov bV n)) args H:=by
 subst hc
 show Option.rec (motive:=fun _=>fV) (bif bV.any (Nat.beq g) then _ else _) (fun r=>r) (ov g args H)=_
 rw [hov g args H h1,h2];rfl
theorem Ij {n:Nat} {g:FuncId} {args:List Value} {H:Hp} {c:CF} (hov:∀ g args H,Nat.beq g 4=false→ov g args H=none) (hc:cF P cx g=c) (h1:Nat.beq g 4=false) (h2:bV.any (Nat.beq g)=true) {v:Value} (hy:Yields (dD c (cH P cx ov bV n) (fun g=>yB (Uz P cx g) (cH P cx ov bV n)) args (aS H H.next [])) (QR v (aS H H.next []))) (ho:aBE H.next v=true):cH P cx ov bV (n+1) g args H=.val v H:=by
 subst hc
 show Option.rec (motive:=fun _=>fV) (bif bV.any (Nat.beq g) then _ else _) (fun r=>r) (ov g args H)=_
 rw [hov g args H h1,h2]
 exact aFY hy ho
theorem aMb (L:aWf P cx) (hov:Ov4 ov) (k:Nat):aJW (cH P cx ov bV (k+1)):=fun H hw=>by
 obtain ⟨r,H1,e,rfl,w,f⟩:=(aJS (call:=cH P cx ov bV k) (cd:=fun g=>yB (Uz P cx g) (cH P cx ov bV k)) hw).get
 exact ⟨H1,(kY hov L.aTc rfl rfl).trans e,w,f⟩
theorem Nu (L:aWf P cx) (hov:Ov4 ov) (k:Nat):aOz (cH P cx ov bV (k+1)):=fun H b t hr=>by
 rw [kY hov L.aCr rfl rfl]
 exact Sk  hr
theorem aEH (L:aWf P cx) (hov:Ov4 ov) (k:Nat):aOA (cH P cx ov bV (k+1)):=fun H b x t h1 h2 h3 h4 h5=>by
 rw [kY hov L.aPn rfl rfl]
 exact aFG  h1 h2 h3 h4 h5
theorem aEI (L:aWf P cx) (hov:Ov4 ov) (k:Nat):aRT (cH P cx ov bV (k+2)):=fun H a mb l p hs h1 h2 h3=>by
 rw [kY hov L.aPp rfl rfl]
 exact aFI (aMb L hov k) h1 h2 h3
theorem aCv (L:aWf P cx) (hov:Ov4 ov) (k:Nat):aRU (cH P cx ov bV (k+3)):=fun H a mb l p hs h1 h2 h3=>by
 rw [kY hov L.aCs rfl rfl]
 exact So (aEI L hov k) (Nu L hov (k+1)) h1 h2 h3
theorem aPF (L:aWf P cx) (hov:Ov4 ov) (k:Nat):aRV (cH P cx ov bV (k+3)):=fun H a mb l p hs x h1 h2 h3 h4 h5 h6 h7=>by
 rw [kY hov L.aPo rfl rfl]
 exact aFJ (aEI L hov k) (aEH L hov (k+1)) h1 h2 h3 h4 h5 h6 h7
theorem aEJ (L:aWf P cx) (hov:Ov4 ov) (k:Nat):aJX (cH P cx ov bV (k+3)):=⟨Nu L hov (k+2),aCv L hov k,aEH L hov (k+2),aPF L hov k,fun H b n t h1 h2 h3=>by
 rw [kY hov L.aTd rfl rfl]
 exact aJU h1 h2 h3⟩
theorem aPG (L:aWf P cx) (hov:Ov4 ov) (k:Nat):aJ1 (cH P cx ov bV (k+1)):=fun H b L0 vs h1 h2 h3=>by
 rw [kY hov L.aPq rfl rfl]
 exact aFM  h1 h2 h3
theorem aMc (L:aWf P cx) (hov:Ov4 ov) (k:Nat):aQQ (cH P cx ov bV (k+2)):=fun H b L0 vs h1 h2 h3=>by
 rw [kY hov L.aTf rfl rfl]
 exact aJ2 (aPG L hov k) h1 h2 h3
theorem Zp (L:aWf P cx) (hov:Ov4 ov) (k:Nat):Sq (cH P cx ov bV (k+2)) 1:=fun H h1=>by
 rw [kY hov L.aEG rfl rfl]
 exact aBz (aMb L hov k) h1
theorem Zq (L:aWf P cx) (hov:Ov4 ov) (k:Nat):Sq (cH P cx ov bV (k+2)) 2:=fun H h1=>by
 rw [kY hov L.aEG rfl rfl]
 exact aBA  h1
theorem Qk (L:aWf P cx) (hov:Ov4 ov) (k:Nat):aR3 (cH P cx ov bV (k+4)) 1:=fun H tv text h1 h2 h3 h4=>by
 rw [kY hov L.Zk rfl rfl]
 exact Lv (aEJ L hov k) (Zp L hov (k+1)) (aMc L hov (k+1)) h1 h2 h3 h4
theorem Ql (L:aWf P cx) (hov:Ov4 ov) (k:Nat):aR3 (cH P cx ov bV (k+4)) 2:=fun H tv text h1 h2 h3 h4=>by
 rw [kY hov L.Zk rfl rfl]
 exact Lv (aEJ L hov k) (Zq L hov (k+1)) (aMc L hov (k+1)) h1 h2 h3 h4
theorem aMd (L:aWf P cx) (hov:Ov4 ov) (k:Nat):Pz (cH P cx ov bV (k+1)):=fun H bx v xs h1 h2 h3 h4 h5 h6=>by
 rw [kY hov L.aTe rfl rfl]
 exact aJ3  h1 h2 h3 h4 h5 h6
theorem aRb (L:aWf P cx) (hov:Ov4 ov) (k:Nat):aVc (cH P cx ov bV (k+1)):=fun H a b xs h1 h2 h3 h4=>by
 rw [kY hov L.aWg rfl rfl]
 exact aOG  h1 h2 h3 h4
theorem aGL (L:aWf P cx) (hov:Ov4 ov) (k:Nat):aSa (cH P cx ov bV (k+5)) 1:=fun H cv text h1 h2 h3 h4=>by
 rw [kY hov L.Zl rfl rfl]
 exact Ma (aEJ L hov (k+1)) (aMd L hov (k+3)) (Zp L hov (k+2)) (Qk L hov k) (aRb L hov (k+3)) h1 h2 h3 h4
theorem aGM (L:aWf P cx) (hov:Ov4 ov) (k:Nat):aSa (cH P cx ov bV (k+5)) 2:=fun H cv text h1 h2 h3 h4=>by
 rw [kY hov L.Zl rfl rfl]
 exact Ma (aEJ L hov (k+1)) (aMd L hov (k+3)) (Zq L hov (k+2)) (Ql L hov k) (aRb L hov (k+3)) h1 h2 h3 h4
theorem aCw (L:aWf P cx) (hov:Ov4 ov) (k:Nat):aEk (cH P cx ov bV (k+6)) 1:=fun H cv text h1 h2 h3 h4=>by
 rw [kY hov L.Qj rfl rfl]
 exact Ia (aGL L hov k) h1 h2 h3 h4
theorem aCx (L:aWf P cx) (hov:Ov4 ov) (k:Nat):aEk (cH P cx ov bV (k+6)) 2:=fun H cv text h1 h2 h3 h4=>by
 rw [kY hov L.Qj rfl rfl]
 exact Ia (aGM L hov k) h1 h2 h3 h4
theorem Hk (L:aWf P cx) (hov:Ov4 ov) (k:Nat):Xp (cH P cx ov bV (k+1)):=fun H Q wb w lv ns l h1 h2 h3 h4 h5 h6 h7 h8 h9 h10 h11 h12=>by
 rw [kY hov L.aGw rfl rfl]
 exact aOH  h1 h2 h3 h4 h5 h6 h7 h8 h9 h10 h11 h12
theorem aMe (L:aWf P cx) (hov:Ov4 ov) (k:Nat):aKZ (cH P cx ov bV (k+2)):=fun H v l h1 h2 h3 h4=>by
 rw [kY hov L.aTg rfl rfl]
 exact aJ5 (Hk L hov k) h1 h2 h3 h4
theorem aMf (L:aWf P cx) (hov:Ov4 ov) (k:Nat):Sx (cH P cx ov bV (k+1)):=fun h v xs h1 h2 h3=>by
 rw [kY hov L.aLM rfl rfl]
 exact aBD  h1 h2 h3
theorem aEK (L:aWf P cx) (hov:Ov4 ov) (k:Nat):Ao (cH P cx ov bV (k+1)) RC:=fun h bx n v v1 v2 xs h1 h2 h3 h4=>by
 rw [kY hov L.aLN rfl rfl]
 exact Xr (K:=RC)  (fun h H v xs hr e=>RC.bT hr e) h1 h2 h3 h4
theorem aEL (L:aWf P cx) (hov:Ov4 ov) (k:Nat):Ao (cH P cx ov bV (k+1)) RO:=fun h bx n v v1 v2 xs h1 h2 h3 h4=>by
 rw [kY hov L.aLN rfl rfl]
 exact Xr (K:=RO)  (fun h H v xs hr e=>RO.bT hr e) h1 h2 h3 h4
theorem aGN (L:aWf P cx) (hov:Ov4 ov) (k:Nat):Me (cH P cx ov bV (k+2)):=fun h bx n v xs h1 h2 h3 h4 h5 h6 h7=>by
 rw [kY hov L.Zm rfl rfl]
 obtain ⟨v1,v2,hc⟩:=h4.cut h5
 exact Mb (aEK L hov k) h1 h2 h3 hc h6 h7
theorem aGO (L:aWf P cx) (hov:Ov4 ov) (k:Nat):aEj (cH P cx ov bV (k+2)):=fun h bx n v xs h1 h2 h3 h4 h5 h6 h7=>by
 rw [kY hov L.Zm rfl rfl]
 obtain ⟨v1,v2,hc⟩:=h4.cut h5
 exact Mb (aEL L hov k) h1 h2 h3 hc h6 h7
theorem aWo (L:aWf P cx) (hov:Ov4 ov) (k:Nat):aSV (cH P cx ov bV (k+3)):=fun h o b1 b2 sC tR xs ys h1 h2 h3 h4 h5 h6 h7 h8 h9 h10 h11=>by
 rw [kY hov L.aWh rfl rfl]
 exact aOI (aGN L hov k) (aEK L hov (k+1)) (aMf L hov (k+1)) h2 h1 h3 h4 h5 h6 h7 h8 h9 h10 h11
theorem aPH (L:aWf P cx) (hov:Ov4 ov) (k:Nat):aLc (cH P cx ov bV (k+7)):=fun h n m ops v h1 h2 h3=>by
 rw [kY hov L.aPs rfl rfl]
 exact aGd (aGO L hov (k+4)) (aEL L hov (k+5)) (aCw L hov k) (aCx L hov k) (aWo L hov (k+3)) (fun b H=>L.aMa _ b H) h1 h2 h3
theorem aMg (L:aWf P cx) (hov:Ov4 ov) (k:Nat):Td (cH P cx ov bV (k+1)):=fun H k f l b size dv h1 h2=>Ij hov L.aLP rfl rfl (aBK  h1 h2) rfl
theorem aTq (L:aWf P cx) (hov:Ov4 ov) (k:Nat):OfC (cH P cx ov bV (k+1)):=fun H k f l b dv h1=>by
 rw [kY hov L.aYY rfl rfl]
 exact of_run  h1
theorem aPI (L:aWf P cx) (hov:Ov4 ov) (k:Nat):aKp (cH P cx ov bV (k+2)):=fun H o size dv h1 h2 h3=>by
 have hi:=aMg L hov k
 have hk:=h1.ok.kind
 have hin:=h1.ins
 obtain ⟨kind,from_,len,b,data⟩:=o
 simp only at hk hin h3
 rcases hk with ⟨rfl,rfl,rfl⟩|⟨rfl,rfl,hd⟩|⟨rfl,rfl,rfl⟩|⟨rfl,rfl,rfl,hd⟩
 · exact Ij hov L.aGy rfl rfl (Xy hi h2 (hin (by omega)) h3) rfl
 · exact Ij hov L.aGz rfl rfl (Xz hi h2 (hin (by omega)) (by rw [← hd];exact h3)) rfl
 · exact Ij hov L.aGA rfl rfl (Ya h3) rfl
 · exact Ij hov L.aGB rfl rfl (Yb (by rw [← hd];exact h3)) rfl
theorem aWp (L:aWf P cx) (hov:Ov4 ov) (k:Nat):aSF (cH P cx ov bV (k+1)):=fun H o size dv i hw h1 h2 h3 h4 h5=>by
 have hk:=h1.ok.kind
 have hin:=h1.ins
 have hby:=h1.ok.byte
 have hw':Wf (aS H H.next []):=hw.sb []
 have h5':Sl 1 (aS H H.next []) dv o.data.length (dR o.data):=h5
 obtain ⟨kind,from_,len,b,data⟩:=o
 simp only at hk hin h3 h4 h5 h5'
 rcases hk with ⟨rfl,rfl,rfl⟩|⟨rfl,rfl,hd⟩|⟨rfl,rfl,rfl⟩|⟨rfl,rfl,rfl,hd⟩
 · have hin':from_+len≤size:=hin (by omega)
   have h3':i<len:=h3
   exact Ij hov L.aPv rfl rfl (aFZ hw' (f:=from_) (by omega)) rfl
 · have hin':from_+len≤size:=hin (by omega)
   have h3':i<len:=h3
   have hx:data[i]?=some (data.getD i 0):=by rw [List.getD_eq_getElem?_getD,List.getElem?_eq_getElem (by omega)];rfl
   exact Ij hov L.aPw rfl rfl (aF2 hw' (f:=from_) (by omega) h5' hx) rfl
 · exact Ij hov L.aPx rfl rfl (aF0 hw') rfl
 · have hx:data[i]?=some (data.getD i 0):=by rw [List.getD_eq_getElem?_getD,List.getElem?_eq_getElem (by omega)];rfl
   exact Ij hov L.aPy rfl rfl (aF1 hw' h5' hx) rfl
theorem aPJ (L:aWf P cx) (hov:Ov4 ov) (k:Nat):aQX (cH P cx ov bV (k+1)):=fun H o size dv h1 h2=>by
 have hk:=h1.ok.kind
 obtain ⟨kind,from_,len,b,data⟩:=o
 simp only at hk h2
 rcases hk with ⟨rfl,rfl,rfl⟩|⟨rfl,rfl,hd⟩|⟨rfl,rfl,rfl⟩|⟨rfl,rfl,rfl,hd⟩
 · exact Ij hov L.aLQ rfl rfl (aBL _ rfl) rfl
 · exact Ij hov L.aLR rfl rfl (aBN (l:=len) (by have h:len<1000:=h2;omega)) rfl
 · exact Ij hov L.aLS rfl rfl (aBM _ rfl) rfl
 · exact Ij hov L.aLT rfl rfl (aBO (l:=len) (by have h:len<1000:=h2;omega)) rfl
theorem aEM (L:aWf P cx) (hov:Ov4 ov) (k:Nat):aBQ (cH P cx ov bV (k+3)):=fun H n m ops ov P0 li h1 h2 h3=>Ij hov L.aPt rfl rfl (aF3 (P:=P0) (h1.sb []) (aTq L hov (k+1)) (aPI L hov k) h2 h3) rfl
theorem aMh (L:aWf P cx) (hov:Ov4 ov) (k:Nat):aBS (cH P cx ov bV (k+2)):=fun H n m ops ov P0 li h1 h2 h3=>Ij hov L.aTi rfl rfl (aKr (P:=P0) (h1.sb []) (aTq L hov k) (aPJ L hov k) h2 h3) rfl
theorem Qm (L:aWf P cx) (hov:Ov4 ov) (k:Nat):Mv (cH P cx ov bV (k+4)):=fun h n m ops ov P0 li h1 h2 h3 h4=>by
 rw [kY hov L.aGx rfl rfl]
 exact Yc h1 (aEM L hov k) (aTq L hov (k+2)) (aWp L hov (k+2)) h2 h3 h4
theorem aWq (L:aWf P cx) (hov:Ov4 ov) (k:Nat):aVD (cH P cx ov bV (k+1)):=fun h dL lv xs l h1 h2 h3 h4 h5 h6 h7=>by
 rw [kY hov L.aWi rfl rfl]
 exact aOU  h1 h2 h3 h4 h5 h6 h7
theorem aPK (L:aWf P cx) (hov:Ov4 ov) (k:Nat):aKw (cH P cx ov bV (k+5)):=fun h dL ov xs n m ops P0 h1 h2 h3 h4 h5 h6 h7=>by
 rw [kY hov L.aPu rfl rfl]
 exact aF4 h1 (Qm L hov k) (aWq L hov (k+3)) h2 h3 h4 h5 h6 h7
theorem aGP (L:aWf P cx) (hov:Ov4 ov) (k:Nat):Ye (cH P cx ov bV (k+1)):=fun h av bv a b h1 h2 h3 h4 h5 h6=>by
 rw [kY hov L.aGC rfl rfl]
 exact Yd  h1 h2 h3 h4 h5 h6
theorem aMi (L:aWf P cx) (hov:Ov4 ov) (k:Nat):aKy (cH P cx ov bV (k+1)):=fun H c o d p=>Ij hov L.aTm rfl rfl (aKx  ) rfl
theorem aMj (L:aWf P cx) (hov:Ov4 ov) (k:Nat):Ic (cH P cx ov bV (k+1)):=fun H c o d e h1=>Ij hov L.aTk rfl rfl (aKz (Nat.le_refl _)  h1) rfl
theorem Zr (L:aWf P cx) (hov:Ov4 ov) (k:Nat):Yh (cH P cx ov bV (k+1)):=fun H s t h1=>Ij hov L.aLV rfl rfl (aBW  h1) rfl
theorem aTr (L:aWf P cx) (hov:Ov4 ov) (k:Nat):aKC (cH P cx ov bV (k+2)):=fun H s t r last h1 h2 h3=>Ij hov L.aTj rfl rfl (aKB (Zr L hov k) h1 h2 h3) rfl
theorem aTs (L:aWf P cx) (hov:Ov4 ov) (k:Nat):aEa (cH P cx ov bV (k+2)):=fun H r mc mo n on h1 h2 h3=>Ij hov L.aTl rfl rfl (aKD (Nat.le_refl _) (aMj L hov k) (aMi L hov k) h1 h2 h3) (by split<;>rfl)
theorem aWr (L:aWf P cx) (hov:Ov4 ov) (k:Nat):aBY (cH P cx ov bV (k+2)):=fun h tb n i kind len o c f h1 h2 h3 h4=>by
 rw [kY hov L.aWj rfl rfl]
 exact aOV (aMi L hov k) h1 h2 h3 h4
theorem aPL (L:aWf P cx) (hov:Ov4 ov) (k:Nat):aKQ (cH P cx ov bV (k+3)):=fun h lv l h1 h2 h3 h4=>by
 rw [kY hov L.aPz rfl rfl]
 exact aF6 (aTr L hov k) (aMj L hov (k+1)) (aWr L hov k) (aTs L hov k) (Zr L hov (k+1)) h1 h2 h3 h4
theorem aGQ (L:aWf P cx) (hov:Ov4 ov) (k:Nat):Yr (cH P cx ov bV (k+1)):=fun H s bx size h1 h2 h3=>Ij hov L.aGE rfl rfl (Yq  h1 h2 h3) rfl
theorem aMk (L:aWf P cx) (hov:Ov4 ov) (k:Nat):aVM (cH P cx ov bV (k+2)):=fun h lv l bx size h1 h2 h3 h4 h5=>by
 rw [kY hov L.aLU rfl rfl]
 exact aBZ (aGQ L hov k) h1 h2 h3 h4 h5
theorem aGR (L:aWf P cx) (hov:Ov4 ov) (k:Nat):aQZ (cH P cx ov bV (k+3)):=fun h lv l bx size h1 h2 h3 h4 h5=>by
 rw [kY hov L.aGF rfl rfl]
 exact Ys (aMk L hov k) h1 h2 h3 h4 h5
theorem Zs (L:aWf P cx) (hov:Ov4 ov) (k:Nat):aKR (cH P cx ov bV (k+1)):=fun h kk sv seg h1 h2 h3 h4 h5=>by
 rw [kY hov L.Zn rfl rfl]
 exact Ov  h1 h2 h3 h4 h5
theorem aCy (L:aWf P cx) (hov:Ov4 ov) (k:Nat):Qf (cH P cx ov bV (k+4)):=fun h bl n in_ l h1 h2 h3 h4 h5 h6=>by
 rw [kY hov L.aCt rfl rfl]
 exact Tr (aGR L hov k) (aPL L hov k) (Zs L hov (k+2)) h1 h2 h3 h4 h5 h6
theorem Qn (L:aWf P cx) (hov:Ov4 ov) (k:Nat):Ng (cH P cx ov bV (k+5)):=fun h n m n2 m2 ov1 ov2 ops1 ops2 P1 P2 h1 h2 h3 h4 h5 h6 h7=>by
 rw [kY hov L.aGD rfl rfl]
 exact Yw (Qm L hov k) (aGP L hov (k+3)) (aCy L hov k) h1 h2 h3 h4 h5 h6 h7
theorem aPM (L:aWf P cx) (hov:Ov4 ov) (k:Nat):aKY (cH P cx ov bV (k+2)):=fun h n m ops ov P0 li h1 h2 h3=>by
 rw [kY hov L.aPr rfl rfl]
 exact aGa (Hk L hov k) h1 h2 h3
theorem aMl (L:aWf P cx) (hov:Ov4 ov) (k:Nat):aK4 (cH P cx ov bV (k+5)):=fun h n m ops ov P0 h1 h2 h3=>by
 rw [kY hov L.aTh rfl rfl]
 exact aK0 (aEM L hov (k+1)) (aPM L hov (k+2)) (Qk L hov k) (Ql L hov k) (Hk L hov (k+3)) (aMe L hov (k+2)) h1 h2 h3
theorem aMm (L:aWf P cx) (hov:Ov4 ov) (k:Nat):aVX (cH P cx ov bV (k+1)):=fun H a b xs h1 h2 h3=>by
 rw [kY hov L.aLL rfl rfl]
 exact aB2  h1 h2 h3
theorem Nw (L:aWf P cx) (hov:Ov4 ov) (k:Nat):Jn (cH P cx ov bV (k+8)):=fun h n m ops v h1 h2 h3=>by
 rw [kY hov L.aLO rfl rfl]
 exact aB3 (aMe L hov (k+5)) (aMm L hov (k+6)) (aPH L hov k) (aMl L hov (k+2)) h1 h2 h3
theorem aCz (L:aWf P cx) (hov:Ov4 ov) (k:Nat):aEl (cH P cx ov bV (k+1)):=fun H=>by
 rw [kY hov L.aLW rfl rfl]
 exact aLe
theorem aPN (L:aWf P cx) (hov:Ov4 ov) (k:Nat):aQ5 (cH P cx ov bV (k+1)):=fun H e he=>by
 rw [kY hov L.aLW rfl rfl]
 exact aGe  he
theorem aMn (L:aWf P cx) (hov:Ov4 ov) (k:Nat):aEm (cH P cx ov bV (k+6)):=fun h n m ops ov P0 h1 h2 h3=>by
 rw [kY hov L.aLX rfl rfl]
 exact aB5 (aMl L hov k) (aCz L hov (k+4)) (aMh L hov (k+3)) h1 h2 h3
theorem aTt (L:aWf P cx) (hov:Ov4 ov) (k:Nat):aV6 (cH P cx ov bV (k+9)):=fun h v1 v2 n1 m1 n2 m2 ops1 ops2 hq=>⟨fun hmn=>by
 rw [kY hov L.Ew rfl rfl]
 exact Nk (Nw L hov k) (aCz L hov (k+7)) (Qn L hov (k+3)) (aMn L hov (k+2)) hq hmn,fun hmn=>by
 rw [kY hov L.Ew rfl rfl]
 exact Nl (Nw L hov k) (aCz L hov (k+7)) (aPN L hov (k+7)) (Qn L hov (k+3)) hq hmn⟩
theorem aMo (L:aWf P cx) (hov:Ov4 ov) (k:Nat):aEp (cH P cx ov bV (k+10)):=fun h v1 v2 n1 m1 n2 m2 ops1 ops2 hq=>by
 rw [kY hov L.aLY rfl rfl]
 exact aB6 (aTt L hov k) (fun b H=>L.aGK _ b H) (fun b H c e h1 h2 h3=>by rw [L.aGJ];exact Za h1 h2 h3) hq
theorem Zt (L:aWf P cx) (hov:Ov4 ov) (k:Nat):QsC (cH P cx ov bV (k+1)):=fun H h1=>by
 rw [kY hov L.Zo rfl rfl]
 exact Ox  h1
theorem aY0 (L:aWf P cx) (hov:Ov4 ov) (k:Nat):DoC (cH P cx ov bV (k+11)):=fun h v1 v2 n1 m1 n2 m2 ops1 ops2 hq=>by
 rw [kY hov L.aYZ rfl rfl]
 exact aS4 (Zt L hov (k+9)) (aMo L hov k) hq
theorem aWs (L:aWf P cx) (hov:Ov4 ov) (k:Nat):aQ6 (cH P cx ov bV (k+12)):=fun h v1 v2 n1 m1 n2 m2 ops1 ops2 hq=>by
 rw [kY hov L.aWk rfl rfl]
 exact aPa (aY0 L hov k) hq
theorem aMp (L:aWf P cx) (hov:Ov4 ov) (k:Nat):aLo (cH P cx ov bV (k+1)):=fun H h1=>by
 rw [kY hov L.aL5 rfl rfl]
 exact aCd  h1
theorem aGS (L:aWf P cx) (hov:Ov4 ov) (k:Nat):aEt (cH P cx ov bV (k+1)):=fun H b c t h1 h2 h3=>by
 rw [kY hov L.aGI rfl rfl]
 exact Zf  h1 h2 h3
theorem aPO (L:aWf P cx) (hov:Ov4 ov) (k:Nat):aLp (cH P cx ov bV (k+1)):=fun H b x t h1 h2 h3 h4 h5=>by
 rw [kY hov L.aPD rfl rfl]
 exact aGj  h1 h2 h3 h4 h5
theorem aMq (L:aWf P cx) (hov:Ov4 ov) (k:Nat):aEw (cH P cx ov bV (k+2)):=fun H n h1 h2=>by
 rw [kY hov L.aL4 rfl rfl]
 exact aCe (aMp L hov k) h2 h1
theorem aMr (L:aWf P cx) (hov:Ov4 ov) (k:Nat):aLs (cH P cx ov bV (k+1)):=fun H a n w h1 h2 h3=>by
 rw [kY hov L.aTp rfl rfl]
 exact aLr  h1 h2 h3
theorem aMs (L:aWf P cx) (hov:Ov4 ov) (k:Nat):aEy (cH P cx ov bV (k+2)):=fun H a n x w h1 h2 h3 h4 h5 h6 h7=>by
 rw [kY hov L.aL6 rfl rfl]
 exact aCf (aMr L hov k) (aPO L hov k) h1 h2 h3 h4 h5 h6 h7
theorem aMt (L:aWf P cx) (hov:Ov4 ov) (k:Nat):aWa (cH P cx ov bV (k+1)):=fun H a bo j q low rg h1 h2 h3 h4 h5 h6=>by
 rw [kY hov L.aL7 rfl rfl]
 exact aCg  h1 h2 h3 h4 h5 h6
theorem aTu (L:aWf P cx) (hov:Ov4 ov) (k:Nat):aWd (cH P cx ov bV (k+2)):=fun h a b x tb P0 e hq=>by
 rw [kY hov L.aTo rfl rfl]
 exact aLy (aGS L hov k) (aMt L hov k) hq
theorem aGT (L:aWf P cx) (hov:Ov4 ov) (k:Nat):aQ8 (cH P cx ov bV (k+3)):=fun H n tv text h1 h2 h3 h4 h5=>by
 rw [kY hov L.aGH rfl rfl]
 exact Zg (aMq L hov k) (aMr L hov (k+1)) (aTu L hov k) (aMs L hov k) h2 h1 h3 h4 h5
theorem Hl (L:aWf P cx) (hov:Ov4 ov) (k:Nat):Qh (cH P cx ov bV (k+1)):=fun H x w h1 h2 h3 h4=>by
 rw [kY hov L.aGG rfl rfl]
 exact Zh  h1 h2 h3 h4
theorem aTv (L:aWf P cx) (hov:Ov4 ov) (k:Nat):aQ9 (cH P cx ov bV (k+2)):=fun H v l h1 h2 h3 h4=>by
 rw [kY hov L.aTn rfl rfl]
 exact aLz (Hl L hov k) h1 h2 h3 h4
theorem aPP (L:aWf P cx) (hov:Ov4 ov) (k:Nat):aLA (cH P cx ov bV (k+2)):=fun h n m ops ov P0 h1 h2 h3=>by
 rw [kY hov L.aPC rfl rfl]
 exact aGn (Hl L hov k) h1 h2 h3
theorem aRc (L:aWf P cx) (hov:Ov4 ov) (k:Nat):aS9 (cH P cx ov bV (k+1)):=fun H a b c=>by
 rw [kY hov L.aWn rfl rfl]
 exact aPg  a b c
theorem aCA (L:aWf P cx) (hov:Ov4 ov) (k:Nat):Qi (cH P cx ov bV (k+2)):=fun H o size dv h1 h2 h3 h4=>Ij hov L.aCu rfl rfl (Tx (aRc L hov k) h1 h2 h3 h4) rfl
theorem aMu (L:aWf P cx) (hov:Ov4 ov) (k:Nat):aEz (cH P cx ov bV (k+3)):=fun H n m ops ov P0 h1 h2 h3=>Ij hov L.aL1 rfl rfl (aCj (P:=P0) (h1.sb []) (aRc L hov (k+1)) (aCA L hov k) h2 h3) rfl
theorem aMv (L:aWf P cx) (hov:Ov4 ov) (k:Nat):aEA (cH P cx ov bV (k+4)):=fun H n m ops ov P0 h1 h2 h3=>Ij hov L.aL0 rfl rfl (aCk (aMu L hov k) (h1.sb []) h2 (P:=P0) h3) rfl
theorem aPQ (L:aWf P cx) (hov:Ov4 ov) (k:Nat):aLC (cH P cx ov bV (k+5)):=fun h n m ops ov P0 h1 h2 h3=>by
 rw [kY hov L.aPB rfl rfl]
 exact aGp (Hl L hov (k+3)) (aMv L hov k) (aPP L hov (k+2)) (aGT L hov (k+1)) (aTv L hov (k+2)) h1 h2 h3
theorem aWt (L:aWf P cx) (hov:Ov4 ov) (k:Nat):aTa (cH P cx ov bV (k+1)):=fun h r0 r1 r2 r3 size h1 h2 h3 h4 h5 h6=>by
 rw [kY hov L.aWm rfl rfl]
 exact aPk  h1 h2 h3 h4 h5 h6
theorem Zu (L:aWf P cx) (hov:Ov4 ov) (k:Nat):Ty (cH P cx ov bV (k+2)):=fun h inb size sv qs h1 h2 h3 h4=>by
 rw [kY hov L.aLZ rfl rfl]
 exact aCn (aWt L hov k) h1 h2 h3 h4
theorem aPR (L:aWf P cx) (hov:Ov4 ov) (k:Nat):aLH (cH P cx ov bV (k+3)):=fun h inb sv qs h1 h2 h3 h4=>by
 rw [kY hov L.aPA rfl rfl]
 exact aGt (Zu L hov k) h1 h2 h3 h4
theorem aMw (L:aWf P cx) (hov:Ov4 ov) (k:Nat):aED (cH P cx ov bV (k+1)):=fun h v xs n h1 h2 h3=>by
 rw [kY hov L.aL3 rfl rfl]
 exact aCo  h1 h2 h3
theorem aPS (L:aWf P cx) (hov:Ov4 ov) (k:Nat):aLK (cH P cx ov bV (k+1)):=fun H a b xs h1 h2 h3=>by
 rw [kY hov L.aPE rfl rfl]
 exact aGu  h1 h2 h3
theorem aMx (L:aWf P cx) (hov:Ov4 ov) (k:Nat):aEE (cH P cx ov bV (k+1)):=fun H e=>Ij hov L.aL9 rfl rfl (aCp  ) rfl
theorem aMy (L:aWf P cx) (hov:Ov4 ov) (k:Nat):aEF (cH P cx ov bV (k+2)):=fun H e=>Ij hov L.aL8 rfl rfl (aCq (aMx L hov k) ) rfl
theorem aWu (L:aWf P cx) (hov:Ov4 ov) (k:Nat) {h:Hp} (hs:∀ H,Fr (fun _=>False) h H→cH P cx ov bV (k+12) 4 [] H=.val (.bool true) H):aTb (cH P cx ov bV (k+12)) h:=⟨hs,(aPR L hov (k+9)),(Zu L hov (k+10)),(aPQ L hov (k+7)),(aWs L hov k),(aMy L hov (k+10)),(Nw L hov (k+4)),(aMh L hov (k+10)),(aMw L hov (k+11)),(aPK L hov (k+7)),(aPS L hov (k+11))⟩
end
end cG
end Go
