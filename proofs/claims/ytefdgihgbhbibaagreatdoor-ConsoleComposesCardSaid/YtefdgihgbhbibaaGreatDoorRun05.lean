/-
Symbolic runs of the law's functions and of the program's, part 5.
Conditions: none.
-/
import Derived.Test.YtefdgihgbhbibaaGreatDoorRun04
set_option linter.unusedVariables false
set_option linter.unusedSimpArgs false
set_option linter.defProp false
set_option maxRecDepth 10000
namespace Go
namespace cG
theorem aSQ (a b c d e x:Value):over [a,b,c,d,e] 0 [x]=[x,b,c,d,e]:=rfl
theorem aSR (a b c d e x:Value):over [a,b,c,d,e] 2 [x]=[a,b,x,d,e]:=rfl
theorem aVN:Nat.ble (0+1) 5=true:=rfl
theorem aVO:Nat.ble (2+1) 5=true:=rfl
def nO (k:Nat) (seg:List SymM):List Nat:=if k=2∨k=4 then seg.map (·.b) else []
noncomputable def mM (k:Nat) (seg:List SymM):Nat:=if k≤2 then (sg seg 0).at_ else 0
noncomputable def nP (k:Nat) (seg:List SymM):Nat:=if k=3 then (sg seg 0).b else 0
def aQ0 (k:Nat) (seg:List SymM) (h:Hp) (r:Value) (H:Hp):Prop:=∃ dv,r=.agg ⟨fW k (mM k seg) seg.length (nP k seg) dv⟩∧Sl 1 H dv (nO k seg).length (dR (nO k seg))∧(∀ c,0<(nO k seg).length→gY dv c→h.next≤c∧c<H.next)∧Wf H∧Fr (fun _=>False) h H
structure OpA (k:Nat) (sv:Value) (b4 b5:Nat) (vs:List Value) (h:Hp) (tm:T Value) (df:Df) (H:Hp):Prop where
 df:df=[]
 t0:tm.get []=some (A0 k)
 t1:tm.get [true]=some sv
 t4:tm.get [false,true]=some (bE b4 0)
 t5:tm.get [true,false]=some (bE b5 0)
 r4:∃ c,H.at b4=some (.row c 5 68 true false)
 r5:p8 H b5 5 68 vs
 ne:b4≠b5∧h.next≤b4∧h.next≤b5
 wf:Wf H
 fr:Fr (fun _=>False) h H
theorem Has.aYR {h:Hp} {b o:Nat} {l:List SymM} (hh:Has h b o (gH l)) {i:Nat} {s:SymM} (hs:l[i]?=some s):∃ c m e cl ro,h.at b=some (.row c m e cl ro)∧o+i*3+3≤m∧c.get (path (o+i*3+1))=some (A0 s.at_)∧c.get (path (o+i*3+2))=some (A1 s.b):=by
 obtain ⟨c,m,e,cl,ro,hat,hm,hc⟩:=hh
 have hi:=(List.getElem?_eq_some_iff.1 hs).1
 rw [nI] at hm hc
 refine ⟨c,m,e,cl,ro,hat,by omega,?_,?_⟩
 · rw [Nat.add_assoc,hc _ (by omega),Mi hs (by decide)];rfl
 · rw [Nat.add_assoc,hc _ (by omega),Mi hs (by decide)];rfl
structure OpS (k f len b:Nat) (sv:Value) (seg:List SymM) (b4 b5:Nat) (h:Hp) (i:Nat) (tm:T Value) (df:Df) (H:Hp):Prop where
 st:∃ dv,OpA k sv b4 b5 (fW k f len b dv) h tm df H∧Out 5 1 (fun c=>h.next≤c∧c≠b4∧c≠b5) H dv i (dR ((seg.take i).map (·.b)))
 t34:tm.get [false,false,true,true,true]=some sv
 t35:tm.get [true,true,false,true,true]=some (A0 seg.length)
 t36:tm.get [false,true,false,true,true]=some (A0 i)
theorem aO4 {call:Call} {k f len b b4 b5:Nat} {sv:Value} {seg:List SymM} {h:Hp} (hw:Wf h) (hsv:Sl 3 h sv seg.length (gH seg)) (hl:seg.length≤100) {tm:T Value} {df:Df} {H:Hp} (hst:OpS k f len b sv seg b4 b5 h 0 tm df H) :
 bC (iP (.loop kH) call tm df H) (fun ex tm df H=>ex=.exit 1∧OpS k f len b sv seg b4 b5 h seg.length tm df H):=by
 refine cT (n:=seg.length) (by omega) (OpS k f len b sv seg b4 b5 h) (fun i tm df H hi hI=>?_) (fun tm df H hI=>?_) hst
 · obtain ⟨⟨dv,⟨rfl,t0,t1,t4,t5,⟨c4,r4⟩,⟨hvl,c5,r5,hc5⟩,ne,wf,fr⟩,hout⟩,t34,t35,t36⟩:=hI
   obtain ⟨s,hs⟩:∃ s,seg[i]?=some s:=⟨seg[i],List.getElem?_eq_getElem hi⟩
   have hsvH:=hsv.gV hw fr fun _ h=>h.elim
   obtain ⟨bs,o,cp,rfl,hhas⟩:=hsvH.pos (by omega)
   obtain ⟨cc,mm,e,cl,ro,hat,hmm,hld⟩:=hhas.sym hs
   have l5:=wf.lt r5
   have l4:=wf.lt r4
   have hwb:=hw.base
   have e1:Nat.blt i seg.length=true:=bU hi
   have e2:Nat.ble (o+i*3+3) mm=true:=cX hmm
   have w1:aR .i64 (.ofNat (i+1))=.ofNat (i+1):=bF (by omega)
   obtain ⟨X,hX,wX,fX,aX,nX⟩:=eP wf R6 (fF s) 3 143
   have aX5:X.at b5=some (.row c5 5 68 true false):=by rw [fX.at_ _ l5 fun h=>h];exact r5
   have g4:c5.get (path (0+4))=some dv:=by rw [Nat.zero_add,hc5 4 (by decide)];rfl
   have nx:=fr.next
   have hsl:Sl 1 (X.new (aT [A1 s.b] 1 5 true)) (cB X.next 0 1 1) 1 (dR [s.b]):=⟨rfl,.inr ⟨_,_,_,rfl,by omega,fS (vs:=[A1 s.b]) (n:=1) (e:=5) (cl:=true) (by rw [aM,if_pos rfl]) (Nat.le_refl _)⟩⟩
   have hout':Out 5 1 (fun c=>h.next≤c∧c≠b4∧c≠b5) (X.new (aT [A1 s.b] 1 5 true)) dv i (dR ((seg.take i).map (·.b))):=hout.Py wf fun c _ _ hP hlt=>⟨hP,by rw [aM,if_neg (by omega),fX.at_ c hlt fun h=>h]⟩
   obtain ⟨v',Y,ea,ho2,wY,nY,fY,hv'⟩:=vO (wX.new _) hout' hsl (jJ _) (by omega) (by omega) (fun c hc=>by rw [dX,fX.base,fr.base];omega) ⟨by rw [aF,nX];omega,by rw [aF,nX];omega,by rw [aF,nX];omega⟩
   rw [nX] at ea
   have aY5:Y.at b5=some (.row c5 5 68 true false):=by
    rw [fY.at_ _ (by rw [aF];omega) fun h=>(hout.fE h.1 h.2).2.2 rfl,aM,if_neg (by omega)];exact aX5
   have aY4:Y.at b4=some (.row c4 5 68 true false):=by
    rw [fY.at_ _ (by rw [aF];omega) fun h=>(hout.fE h.1 h.2).2.1 rfl,aM,if_neg (by omega),fX.at_ _ l4 fun h=>h];exact r4
   have hfY:Fr (fun _=>False) h Y:=((fr.trans fX fun _ _ h=>h).dE _).trans fY fun c hc hb=>by have:=(hout.fE hb.1 hb.2).1;omega
   have hv1:bY [v']=true:=by obtain ⟨k,rfl⟩:=hv';rfl
   have l5Y:=wY.lt aY5
   have m1:(H.next=b5)=False:=by simp;omega
   have fin:∀ tm',tm'.get []=some (A0 k)→tm'.get [true]=some (cB bs o seg.length cp)→tm'.get [false,true]=some (bE b4 0)→tm'.get [true,false]=some (bE b5 0)→tm'.get [false,false,true,true,true]=some (cB bs o seg.length cp)→tm'.get [true,true,false,true,true]=some (A0 seg.length)→tm'.get [false,true,false,true,true]=some (A0 (i+1))→OpS k f len b (cB bs o seg.length cp) seg b4 b5 h (i+1) tm' [] (Y.put b5 (some (.row (aL [v'] (0+4) c5 fun t=>t) 5 68 true false))):=by
    intro tm' q0 q1 q4 q5 q34 q35 q36
    refine ⟨⟨v',⟨rfl,q0,q1,q4,q5,⟨c4,by rw [aJ,if_neg (fun e=>ne.1 e.symm)];exact aY4⟩,uR (i:=4) hvl hc5 (by decide) (by rw [aJ,if_pos rfl]),ne,wY.put l5Y _,hfY.cJ _ (fun h=>by omega) (by omega)⟩,?_⟩,q34,q35,q36⟩
    rw [qC hs,List.map_append]
    have ho3:=ho2.bT (H:=Y.put b5 (some (.row (aL [v'] (0+4) c5 fun t=>t) 5 68 true false))) fun c hP _=>by rw [aJ,if_neg (fun e=>hP.2.2 e.symm)]
    rw [← lO] at ho3
    exact ho3
   unfold fF at hld hX aX
   unfold kH
   simp only [↓aQ,NV,reduceCtorEq,yX,oS,t0,t1,t4,t5,t34,t35,t36,e1,e2,w1,hat,hld,hX,aX,nX,aX5,g4,m1,gE,ea,aY5,hv1]
   exact .go (fin _ (by simp [t0]) (by simp [t1]) (by simp [t4]) (by simp [t5]) (by simp [t34]) (by simp [t35]) (by simp))
 · obtain ⟨⟨dv,⟨rfl,t0,t1,t4,t5,r4,r5,ne,wf,fr⟩,hout⟩,t34,t35,t36⟩:=hI
   have e1:Nat.blt seg.length seg.length=false:=cI (Nat.le_refl _)
   unfold kH
   simp only [↓aQ,NV,reduceCtorEq,t35,t36,e1]
   exact .ex ⟨rfl,⟨dv,⟨rfl,by simp [t0],by simp [t1],by simp [t4],by simp [t5],r4,r5,ne,wf,fr⟩,hout⟩,by simp [t34],by simp [t35],by simp [t36]⟩
theorem Ov {call:Call} {cd:cE} {k:Nat} {sv:Value} {seg:List SymM} {h:Hp} (hw:Wf h) (hk:k=1∨k=2∨k=3∨k=4) (hsv:Sl 3 h sv seg.length (gH seg)) (hpos:0<seg.length) (hl:seg.length≤100) :
 Yields (dD wN call cd [A0 k,sv] h) (aQ0 k seg h):=by
 have hlen:=hsv.len
 have hwb:=hw.base
 have hw1:Wf (h.new (aT M3 5 68 true)):=hw.new _
 obtain ⟨X,hX,wX,fX,aX,nX⟩:=eP hw1 M3 (fW k 0 seg.length 0 (.slice none 0 0)) 5 68
 have f1:Fr (fun _=>False) h (h.new (aT M3 5 68 true)):=Fr.new _
 have n1:(h.new (aT M3 5 68 true)).next=h.next+1:=rfl
 rw [n1] at hX aX nX
 have fhX:=f1.trans (P:=fun _=>False) fX fun _ _ h=>h
 have aX4:X.at h.next=some (aT M3 5 68 true):=by rw [fX.at_ _ (by rw [n1];omega) fun h=>h,aM,if_pos rfl]
 have hsvX:=hsv.gV hw fhX fun _ h=>h.elim
 obtain ⟨bs,o,cp,rfl,hhas⟩:=hsvX.pos hpos
 have hs0:seg[0]?=some (sg seg 0):=Mw hpos
 obtain ⟨cc,mm,e,cl,ro,hat,hmm,ga,gb⟩:=hhas.aYR hs0
 generalize hs:sg seg 0=s at *
 have e1:Nat.blt 0 seg.length=true:=bU hpos
 have e2:Nat.blt (o+0*3+1) mm=true:=bU (by omega)
 have e3:Nat.blt (o+0*3+2) mm=true:=bU (by omega)
 have hbs:=hhas.lt wX
 have row0:p8 X (h.next+1) 5 68 (fW k 0 seg.length 0 (.slice none 0 0)):=Jk rfl aX
 refine aP rfl ?_
 refine bC.seq (φ:=fun tm' df' H'=>df'=[]∧H'=h.new (aT M3 5 68 true)∧tm'.get []=some (A0 k)∧tm'.get [true]=some (cB bs o seg.length cp)∧tm'.get [false,true]=some (bE h.next 0)) ?_ ?_
 · simp only [↓aQ,NV,reduceCtorEq]
   exact ⟨rfl,rfl,rfl,by simp [cN],by simp [cP],by simp⟩
 rintro tm1 Vw H1 ⟨rfl,rfl,t0,t1,t4⟩
 refine bC.seq (φ:=fun tm' df' H'=>H'=X∧OpA k (cB bs o seg.length cp) h.next (h.next+1) (fW k 0 seg.length 0 (.slice none 0 0)) h tm' df' H') ?_ ?_
 · have fin:∀ tm',tm'.get []=some (A0 k)→tm'.get [true]=some (cB bs o seg.length cp)→tm'.get [false,true]=some (bE h.next 0)→tm'.get [true,false]=some (bE (h.next+1) 0)→OpA k (cB bs o seg.length cp) h.next (h.next+1) (fW k 0 seg.length 0 (.slice none 0 0)) h tm' [] X:=fun tm' q0 q1 q4 q5=>⟨rfl,q0,q1,q4,q5,⟨_,aX4⟩,row0,⟨by omega,by omega,by omega⟩,wX,fhX⟩
   unfold fW at hX
   simp only [↓aQ,NV,reduceCtorEq,oS,t0,t1,hlen,aSQ,aSR,aVN,aVO,hX]
   exact ⟨rfl,rfl,fin _ (by simp [t0]) (by simp [t1]) (by simp [t4]) (by simp)⟩
 clear t0 t1 t4
 rintro tm2 df2 H2 ⟨rfl,rfl,t0,t1,t4,t5,r4,r5,ne,wf,fr⟩
 have hrow5:=r5
 obtain ⟨hvl,c5,a5,hc5⟩:=r5
 have hl5:=wf.lt a5
 have hput:∀ (j:Nat) (v:Value),j<5→∀ tm',tm'.get []=some (A0 k)→tm'.get [true]=some (cB bs o seg.length cp)→tm'.get [false,true]=some (bE h.next 0)→tm'.get [true,false]=some (bE (h.next+1) 0)→OpA k (cB bs o seg.length cp) h.next (h.next+1) ((fW k 0 seg.length 0 (.slice none 0 0)).set j v) h tm' [] (H2.put (h.next+1) (some (.row (aL [v] (0+j) c5 fun t=>t) 5 68 true false))):=by
  intro j v hj tm' q0 q1 q4 q5
  obtain ⟨c4,r4⟩:=r4
  exact ⟨rfl,q0,q1,q4,q5,⟨c4,by rw [aJ,if_neg (by omega)];exact r4⟩,uR hvl hc5 hj (by rw [aJ,if_pos rfl]),ne,wf.put hl5 _,fr.cJ _ (fun h=>by omega) (by omega)⟩
 refine bC.seq (φ:=fun tm' df' H'=>OpA k (cB bs o seg.length cp) h.next (h.next+1) (fW k (mM k seg) seg.length (nP k seg) (.slice none 0 0)) h tm' df' H') ?_ ?_
 · have hp1:=hput 1 (A0 s.at_) (by decide)
   have hp3:=hput 3 (A1 s.b) (by decide)
   rcases hk with rfl|rfl|rfl|rfl
   · have ef:mM 1 seg=s.at_:=by unfold mM;rw [if_pos (by decide),hs]
     have eb:nP 1 seg=0:=if_neg (by decide)
     simp only [↓aQ,NV,reduceCtorEq,oS,t0,t1,t5,e1,e2,hat,ga,a5]
     rw [ef,eb]
     exact ⟨rfl,hp1 _ (by simp [t0]) (by simp [t1]) (by simp [t4]) (by simp [t5])⟩
   · have q1:Nat.beq 2 1=false:=rfl
     have ef:mM 2 seg=s.at_:=by unfold mM;rw [if_pos (by decide),hs]
     have eb:nP 2 seg=0:=if_neg (by decide)
     simp only [↓aQ,NV,reduceCtorEq,oS,t0,t1,t5,e1,e2,hat,ga,a5,q1]
     rw [ef,eb]
     exact ⟨rfl,hp1 _ (by simp [t0]) (by simp [t1]) (by simp [t4]) (by simp [t5])⟩
   · have q1:Nat.beq 3 1=false:=rfl
     have q2:Nat.beq 3 2=false:=rfl
     have ef:mM 3 seg=0:=if_neg (by decide)
     have eb:nP 3 seg=s.b:=by unfold nP;rw [if_pos rfl,hs]
     simp only [↓aQ,NV,reduceCtorEq,oS,t0,t1,t5,e1,e3,hat,gb,a5,q1,q2]
     rw [ef,eb]
     exact ⟨rfl,hp3 _ (by simp [t0]) (by simp [t1]) (by simp [t4]) (by simp [t5])⟩
   · have q1:Nat.beq 4 1=false:=rfl
     have q2:Nat.beq 4 2=false:=rfl
     have q3:Nat.beq 4 3=false:=rfl
     have ef:mM 4 seg=0:=if_neg (by decide)
     have eb:nP 4 seg=0:=if_neg (by decide)
     simp only [↓aQ,NV,reduceCtorEq,oS,t0,t1,t5,q1,q2,q3]
     rw [ef,eb]
     exact ⟨rfl,rfl,by simp [t0],by simp [t1],by simp [t4],by simp [t5],r4,hrow5,ne,wf,fr⟩
 clear t0 t1 t4 t5 r4 hrow5 hput a5 hc5
 rintro tm3 df3 H3 hA
 refine bC.seq (φ:=fun tm' df' H'=>∃ dv,OpA k (cB bs o seg.length cp) h.next (h.next+1) (fW k (mM k seg) seg.length (nP k seg) dv) h tm' df' H'∧Sl 1 H' dv (nO k seg).length (dR (nO k seg))∧(∀ c,0<(nO k seg).length→gY dv c→h.next≤c∧c≠h.next∧c≠h.next+1)∧bY [dv]=true) ?_ ?_
 · obtain ⟨rfl,t0,t1,t4,t5,r4,r5,ne,wf,fr⟩:=hA
   have lo:tT (cB bs o seg.length cp) seg.length:=rfl
   unfold tT at lo
   have noloop:(k=1∨k=3)→∀ tm',tm'.get []=some (A0 k)→tm'.get [true]=some (cB bs o seg.length cp)→tm'.get [false,true]=some (bE h.next 0)→tm'.get [true,false]=some (bE (h.next+1) 0)→∃ dv,OpA k (cB bs o seg.length cp) h.next (h.next+1) (fW k (mM k seg) seg.length (nP k seg) dv) h tm' [] H3∧Sl 1 H3 dv (nO k seg).length (dR (nO k seg))∧(∀ c,0<(nO k seg).length→gY dv c→h.next≤c∧c≠h.next∧c≠h.next+1)∧bY [dv]=true:=by
    intro hk' tm' q0 q1 q4 q5
    have ed:nO k seg=[]:=by unfold nO;rw [if_neg (by omega)]
    rw [ed]
    exact ⟨_,⟨rfl,q0,q1,q4,q5,r4,r5,ne,wf,fr⟩,⟨rfl,.inl ⟨rfl,.inl rfl⟩⟩,fun c h0=>absurd h0 (by decide),rfl⟩
   have loopd:(k=2∨k=4)→∀ tm0,OpS k (mM k seg) seg.length (nP k seg) (cB bs o seg.length cp) seg h.next (h.next+1) h 0 tm0 [] H3→bC (iP (.block 1 (.loop kH)) call tm0 [] H3) (Nm fun tm' df' H'=>∃ dv,OpA k (cB bs o seg.length cp) h.next (h.next+1) (fW k (mM k seg) seg.length (nP k seg) dv) h tm' df' H'∧Sl 1 H' dv (nO k seg).length (dR (nO k seg))∧(∀ c,0<(nO k seg).length→gY dv c→h.next≤c∧c≠h.next∧c≠h.next+1)∧bY [dv]=true):=by
    intro hk' tm0 h0
    have ed:nO k seg=seg.map (·.b):=by unfold nO;rw [if_pos hk']
    refine bC.Be ((aO4 hw hsv hl h0).mono ?_)
    rintro ex tm' df' H' ⟨rfl,⟨dv,hA,hout⟩,_,_,_⟩
    rw [List.take_length] at hout
    rw [ed,List.length_map]
    refine ⟨rfl,dv,hA,hout.sl,fun c h0 hc=>hout.fE h0 hc,?_⟩
    obtain ⟨_,_,⟨_,⟨b,rfl⟩|rfl⟩|⟨b,rfl,_⟩⟩:=hout<;>rfl
   rcases hk with rfl|rfl|rfl|rfl
   · have q1:Nat.beq 1 2=false:=rfl
     have q2:Nat.beq 1 4=false:=rfl
     simp only [↓aQ,NV,reduceCtorEq,t0,q1,q2]
     exact ⟨rfl,noloop (.inl rfl) _ (by simp [t0]) (by simp [t1]) (by simp [t4]) (by simp [t5])⟩
   · refine bC.seq (φ:=fun tm' df' H'=>df'=[]∧H'=H3∧tm'.get []=some (A0 2)∧tm'.get [true]=some (cB bs o seg.length cp)∧tm'.get [false,true]=some (bE h.next 0)∧tm'.get [true,false]=some (bE (h.next+1) 0)∧tm'.get [true,false,true,true,true]=some (.bool true)) ?_ ?_
     · simp only [↓aQ,NV,reduceCtorEq,t0]
       exact ⟨rfl,rfl,rfl,by simp [t0],by simp [t1],by simp [t4],by simp [t5],by simp⟩
     rintro tm4 df4 H4 ⟨rfl,rfl,u0,u1,u4,u5,u33⟩
     rw [Gb,z_t,u33,z_o,zN,aIK]
     refine bC.seq (φ:=fun tm' df' H'=>df'=[]∧H'=H4∧tm'.get []=some (A0 2)∧tm'.get [true]=some (cB bs o seg.length cp)∧tm'.get [false,true]=some (bE h.next 0)∧tm'.get [true,false]=some (bE (h.next+1) 0)∧tm'.get [false,false,true,true,true]=some (cB bs o seg.length cp)∧tm'.get [true,true,false,true,true]=some (A0 seg.length)∧tm'.get [false,true,false,true,true]=some (A0 0)) ?_ ?_
     · simp only [↓aQ,NV,reduceCtorEq,u1,lo]
       exact ⟨rfl,rfl,rfl,by simp [u0],by simp [u1],by simp [u4],by simp [u5],by simp,by simp,by simp⟩
     rintro tm5 df5 H5 ⟨rfl,rfl,v0,v1,v4,v5,v34,v35,v36⟩
     exact loopd (.inl rfl) _ ⟨⟨_,⟨rfl,v0,v1,v4,v5,r4,r5,ne,wf,fr⟩,Out.nil⟩,v34,v35,v36⟩
   · have q1:Nat.beq 3 2=false:=rfl
     have q2:Nat.beq 3 4=false:=rfl
     simp only [↓aQ,NV,reduceCtorEq,t0,q1,q2]
     exact ⟨rfl,noloop (.inr rfl) _ (by simp [t0]) (by simp [t1]) (by simp [t4]) (by simp [t5])⟩
   · refine bC.seq (φ:=fun tm' df' H'=>df'=[]∧H'=H3∧tm'.get []=some (A0 4)∧tm'.get [true]=some (cB bs o seg.length cp)∧tm'.get [false,true]=some (bE h.next 0)∧tm'.get [true,false]=some (bE (h.next+1) 0)∧tm'.get [true,false,true,true,true]=some (.bool true)) ?_ ?_
     · have q1:Nat.beq 4 2=false:=rfl
       simp only [↓aQ,NV,reduceCtorEq,t0,q1]
       exact ⟨rfl,rfl,rfl,by simp [t0],by simp [t1],by simp [t4],by simp [t5],by simp⟩
     rintro tm4 df4 H4 ⟨rfl,rfl,u0,u1,u4,u5,u33⟩
     rw [Gb,z_t,u33,z_o,zN,aIK]
     refine bC.seq (φ:=fun tm' df' H'=>df'=[]∧H'=H4∧tm'.get []=some (A0 4)∧tm'.get [true]=some (cB bs o seg.length cp)∧tm'.get [false,true]=some (bE h.next 0)∧tm'.get [true,false]=some (bE (h.next+1) 0)∧tm'.get [false,false,true,true,true]=some (cB bs o seg.length cp)∧tm'.get [true,true,false,true,true]=some (A0 seg.length)∧tm'.get [false,true,false,true,true]=some (A0 0)) ?_ ?_
     · simp only [↓aQ,NV,reduceCtorEq,u1,lo]
       exact ⟨rfl,rfl,rfl,by simp [u0],by simp [u1],by simp [u4],by simp [u5],by simp,by simp,by simp⟩
     rintro tm5 df5 H5 ⟨rfl,rfl,v0,v1,v4,v5,v34,v35,v36⟩
     exact loopd (.inr rfl) _ ⟨⟨_,⟨rfl,v0,v1,v4,v5,r4,r5,ne,wf,fr⟩,Out.nil⟩,v34,v35,v36⟩
 rintro tm4 df4 H4 ⟨dv,⟨rfl,t0,t1,t4,t5,⟨c4,r4⟩,⟨hvl',c5',a5',hc5'⟩,ne',wf4,fr4⟩,hdv,hbl,hone⟩
 have hld:=Ep hvl' hc5'
 have hal:bY (fW k (mM k seg) seg.length (nP k seg) dv)=true:=by
  have:bY (fW k (mM k seg) seg.length (nP k seg) dv)=bY [dv]:=rfl
  rw [this];exact hone
 have hl5:(fW k (mM k seg) seg.length (nP k seg) dv).length=5:=rfl
 have l4:=wf4.lt r4
 simp only [↓aQ,NV,reduceCtorEq,oS,t4,t5,a5',hld,r4,hal,hl5]
 refine .ret ?_
 have hfin:cR (aL (fW k (mM k seg) seg.length (nP k seg) dv) 0 c4 fun t=>t) 0 5 []=some (fW k (mM k seg) seg.length (nP k seg) dv):=aKl _ _ _ _ _ _
 rw [fI (b:=h.next) (by simp [t4]) (by rw [aJ,if_pos rfl]) (Nat.le_refl _) hfin]
 refine ⟨dv,rfl,hdv.bT fun c h0 hc=>by rw [aJ,if_neg (fun e=>(hbl c h0 hc).2.1 e.symm)],fun c h0 hc=>⟨(hbl c h0 hc).1,by rw [aV];exact hdv.lt wf4 h0 hc⟩,wf4.put l4 _,fr4.cJ _ (fun h=>absurd h (Nat.lt_irrefl _)) hwb⟩
def aKR (call:Call):Prop:=∀ h k sv seg,Wf h→k=1∨k=2∨k=3∨k=4→Sl 3 h sv seg.length (gH seg)→0<seg.length→seg.length≤100→Yields (call 335 [A0 k,sv] h) (aQ0 k seg h)
def Qe (I:Nat→T Value→Df→Hp→Prop) (φ:Ex→T Value→Df→Hp→Prop) (m:Nat) (e:Ex) (tm:T Value) (df:Df) (H:Hp):Prop:=(e=.normal∧∃ m',m'<m∧I m' tm df H)∨(e≠.normal∧φ e tm df H)
theorem Qe.go {I:Nat→T Value→Df→Hp→Prop} {φ:Ex→T Value→Df→Hp→Prop} {m m':Nat} {tm:T Value} {df:Df} {h:Hp} (h0:m'<m) (hI:I m' tm df h):Qe I φ m .normal tm df h:=.inl ⟨rfl,m',h0,hI⟩
theorem Qe.ex {I:Nat→T Value→Df→Hp→Prop} {φ:Ex→T Value→Df→Hp→Prop} {m k:Nat} {tm:T Value} {df:Df} {h:Hp} (hI:φ (.exit k) tm df h):Qe I φ m (.exit k) tm df h:=.inr ⟨by simp,hI⟩
theorem aKS {b:CC} {call:Call} (I:Nat→T Value→Df→Hp→Prop) {φ:Ex→T Value→Df→Hp→Prop} (hstep:∀ m tm df H,I m tm df H→bC (iP b call tm df H) (Qe I φ m)) {m:Nat} {tm:T Value} {df:Df} {H:Hp} (hm:m<1000000) (h0:I m tm df H):bC (iP (.loop b) call tm df H) φ:=by
 rw [aIP]
 have key:∀ (fuel m:Nat) (tm:T Value) (df:Df) (H:Hp),m<fuel→I m tm df H→bC (Hq (iP b) fuel call tm df H) φ:=by
  intro fuel
  induction fuel with
  | zero=>intro m tm df H h;omega
  | succ fuel ih =>
   intro m tm df H hm hI
   rw [aDD]
   refine (hstep m tm df H hI).mT fun e tm' df' H' hh=>?_
   rcases hh with ⟨rfl,m',hm',hI'⟩|⟨hn,hp⟩
   · rw [Ry];exact ih m' tm' df' H' (by omega) hI'
   · cases e with
     | normal=>exact absurd rfl hn
     | exit i=>exact hp
     | ret=>exact hp
     | panic c=>exact hp
 exact key 1000000 m tm df H hm h0
noncomputable def Tq (ps:List (eJ×Value)):List Value:=ps.flatMap fun x=>fW x.1.kind x.1.from_ x.1.len x.1.b x.2
theorem Yt (ps:List (eJ×Value)) (x:eJ×Value):Tq (ps++[x])=Tq ps++fW x.1.kind x.1.from_ x.1.len x.1.b x.2:=by simp [Tq]
theorem Jl (ps:List (eJ×Value)):(Tq ps).length=ps.length*5:=by
 unfold Tq
 induction ps with
 | nil=>rfl
 | cons x ps ih=>rw [List.flatMap_cons,List.length_append,ih,List.length_cons];show 5+_=_;omega
theorem aO5 {ps:List (eJ×Value)} {i k:Nat} {x:eJ×Value} (h:ps[i]?=some x) (hk:k<5):(Tq ps)[i*5+k]?=(fW x.1.kind x.1.from_ x.1.len x.1.b x.2)[k]?:=by
 have hi:=(List.getElem?_eq_some_iff.1 h).1
 have e:=(List.getElem?_eq_some_iff.1 h).2
 have h1:ps=ps.take i++x::ps.drop (i+1):=by
  conv=>lhs;rw [← List.take_append_drop i ps,List.drop_eq_getElem_cons hi,e]
 have hl:(Tq (ps.take i)).length=i*5:=by rw [Jl,List.length_take];congr 1;omega
 have e3:Tq ps=Tq (ps.take i)++(fW x.1.kind x.1.from_ x.1.len x.1.b x.2++Tq (ps.drop (i+1))):=by
  conv=>lhs;rw [h1]
  simp [Tq]
 rw [e3,List.getElem?_append_right (by omega),hl,Nat.add_sub_cancel_left,List.getElem?_append_left (by show k<5;exact hk)]
def oT (H:Hp) (ov:Value) (ps:List (eJ×Value)) (lo:Nat):Prop:=∃ bo,lo≤bo∧Out 68 5 (fun c=>c=bo) H ov ps.length (Tq ps)∧∀ x∈ps,Sl 1 H x.2 x.1.data.length (dR x.1.data)∧∀ c,0<x.1.data.length→gY x.2 c→lo≤c∧c≠bo
theorem oT.nil {H:Hp} {lo:Nat}:oT H (.slice none 0 0) [] lo:=⟨lo,Nat.le_refl _,Out.nil,fun x hx=>by cases hx⟩
theorem oT.one {H:Hp} {ov:Value} {ps:List (eJ×Value)} {lo:Nat} (ho:oT H ov ps lo):bY [ov]=true:=by
 obtain ⟨bo,_,⟨_,_,⟨_,⟨b,rfl⟩|rfl⟩|⟨b,rfl,_⟩⟩,_⟩:=ho<;>rfl
theorem oT.lt {h:Hp} {ov:Value} {ps:List (eJ×Value)} {lo:Nat} (ho:oT h ov ps lo) (hw:Wf h) (h0:0<ps.length) {c:Nat} (hc:gY ov c):c<h.next:=by
 obtain ⟨bo,h1,⟨_,_,⟨h2,_⟩|⟨b,rfl,_,h3,_⟩⟩,_⟩:=ho
 · omega
 · rw [fB hc];exact h3.lt hw
theorem oT.bT {h H:Hp} {ov:Value} {ps:List (eJ×Value)} {lo:Nat} (ho:oT h ov ps lo) (hw:Wf h) (e:∀ c,lo≤c→c<h.next→H.at c=h.at c):oT H ov ps lo:=by
 obtain ⟨bo,h1,h2,h3⟩:=ho
 refine ⟨bo,h1,h2.Py hw fun c _ _ hc hlt=>⟨hc,e c (by omega) hlt⟩,fun x hx=>?_⟩
 obtain ⟨h4,h5⟩:=h3 x hx
 exact ⟨h4.bT fun c h0 hc=>e c (h5 c h0 hc).1 (h4.lt hw h0 hc),h5⟩
theorem oT.toR {H:Hp} {ov:Value} {ps:List (eJ×Value)} {lo:Nat} (ho:oT H ov ps lo):gD H ov (ps.map (·.1)) (fun c=>lo≤c):=by
 obtain ⟨bo,h1,⟨h2,h3,h4⟩,h5⟩:=ho
 rcases h4 with ⟨hn,hx⟩|⟨b,rfl,hn,⟨c,hat,hc⟩,rfl⟩
 · have:ps=[]:=List.eq_nil_of_length_eq_zero hn
   subst this
   refine .inl ⟨rfl,?_⟩
   rcases hx with ⟨b,rfl⟩|rfl
   · exact .inr ⟨b,0,0,rfl⟩
   · exact .inl rfl
 · refine .inr ⟨b,0,_,by rw [List.length_map],h1,c,_,_,_,_,hat,by rw [List.length_map,Jl];omega,fun i x hx=>?_⟩
   rw [List.getElem?_map,Option.map_eq_some_iff] at hx
   obtain ⟨y,hy,rfl⟩:=hx
   have hi:=(List.getElem?_eq_some_iff.1 hy).1
   obtain ⟨h6,h7⟩:=h5 y (List.mem_of_getElem? hy)
   refine ⟨y.2,fun k hk=>?_,h6,fun c h0 hc=>(h7 c h0 hc).1⟩
   rw [Nat.zero_add,hc _ (by rw [Jl];omega),aO5 hy hk];rfl
theorem zA (a b c d e x y z u v:Value):over [a,b,c,d,e] 0 [x,y,z,u,v]=[x,y,z,u,v]:=rfl
theorem Nf {H:Hp} {ov dv:Value} {ps:List (eJ×Value)} {lo:Nat} {x:eJ} (hw:Wf H) (ho:oT H ov ps lo) (hlo:lo≤H.next) (hb:H.base≤lo) (hn:ps.length≤10000) (hd:Sl 1 H dv x.data.length (dR x.data)) (hdb:∀ c,0<x.data.length→gY dv c→lo≤c∧(0<ps.length→¬ gY ov c)) :
 ∃ v' Z,((∀ n g,mQ 68 5 ov (cB H.next 0 1 1) (aS (H.new (aT (fW x.kind x.from_ x.len x.b dv) 5 68 true)) n g)=.val v' (aS Z n g))∨(∃ bo,lo≤bo∧bo<H.next∧(0<ps.length∧gY ov bo)∧∀ n g,mQ 68 5 ov (cB H.next 0 1 1) (aS (H.new (aT (fW x.kind x.from_ x.len x.b dv) 5 68 true)) n g)=.val v' (aS Z n (jN n g bo)))) ∧
  oT Z v' (ps++[(x,dv)]) lo∧Wf Z∧Fr (fun c=>lo≤c) H Z∧Z.next=H.next+2∧bY [v']=true:=by
 obtain ⟨bo,h1,⟨hl,hone,hcase⟩,hdat⟩:=ho
 have hone5:bY (fW x.kind x.from_ x.len x.b dv)=true:=s6 hd
 have hcells:∀ n g,cellsOf (aS (H.new (aT (fW x.kind x.from_ x.len x.b dv) 5 68 true)) n g) H.next 0 (1*5)=some (fW x.kind x.from_ x.len x.b dv):=fun n g=>Has.cells (fS (n:=5) (e:=68) (cl:=true) (by rw [dM,aM,if_pos rfl]) (Nat.le_refl _)) rfl
 rcases hcase with ⟨h0,hx⟩|⟨b,rfl,h0,hown,rfl⟩
 · have hnil:ps=[]:=List.eq_nil_of_length_eq_zero h0
   subst hnil
   refine ⟨cB (H.next+1) 0 1 (cM 5 1),(H.new (aT (fW x.kind x.from_ x.len x.b dv) 5 68 true)).new (aT (fW x.kind x.from_ x.len x.b dv) 5 68 false),.inl fun n g=>?_,?_,(hw.new _).new _,(Fr.new _).dE _,rfl,rfl⟩
   · rw [zQ hx (by omega) (by omega) (hcells n g)];rfl
   · refine ⟨H.next+1,by omega,⟨rfl,hone5,.inr ⟨_,rfl,by show 0<1;omega,?_,rfl⟩⟩,fun y hy=>?_⟩
     · exact nE (vs:=fW x.kind x.from_ x.len x.b dv) rfl
     · rw [List.nil_append,List.mem_singleton] at hy
       subst hy
       refine ⟨hd.bT fun c hc0 hc=>?_,fun c hc0 hc=>⟨(hdb c hc0 hc).1,?_⟩⟩
       · have:=hd.lt hw hc0 hc
         rw [aM,if_neg (by rw [aF];omega),aM,if_neg (by omega)]
       · have:=hd.lt hw hc0 hc
         omega
 · have hbl:=hown.lt hw
   refine ⟨cB (H.next+1) 0 (ps.length+1) (cM 5 (ps.length+1)),((H.new (aT (fW x.kind x.from_ x.len x.b dv) 5 68 true)).put b none).new (aT (Tq ps++fW x.kind x.from_ x.len x.b dv) (Tq ps++fW x.kind x.from_ x.len x.b dv).length 68 false),.inr ⟨b,h1,hbl,⟨h0,_,_,_,rfl⟩,fun n g=>?_⟩,?_,((hw.new _).put (by rw [aF];omega) _).new _,?_,rfl,rfl⟩
   · rw [Ed (e:=68) (vs:=Tq ps) (by omega) (by omega) h0 hl hone5 (hcells n g) (hown.bT (by rw [dM,aM,if_neg (by omega)]))];rfl
   · refine ⟨H.next+1,by omega,⟨by rw [Jl],?_,.inr ⟨_,by rw [List.length_append];rfl,by rw [List.length_append];exact Nat.succ_pos _,?_,rfl⟩⟩,fun y hy=>?_⟩
     · rw [Yt];exact Ba hone5 _ hone
     · rw [Yt]
       exact nE (vs:=Tq ps++fW x.kind x.from_ x.len x.b dv) rfl
     · have hkp:∀ c,c<H.next→c≠b→(((H.new (aT (fW x.kind x.from_ x.len x.b dv) 5 68 true)).put b none).new (aT (Tq ps++fW x.kind x.from_ x.len x.b dv) (Tq ps++fW x.kind x.from_ x.len x.b dv).length 68 false)).at c=H.at c:=fun c hc hne=>by
        rw [aM,if_neg (by rw [aV,aF];omega),aJ,if_neg (fun e=>hne e.symm),aM,if_neg (by omega)]
       rcases List.mem_append.1 hy with hy|hy
       · obtain ⟨k1,k2⟩:=hdat y hy
         exact ⟨k1.bT fun c hc0 hc=>hkp c (k1.lt hw hc0 hc) (k2 c hc0 hc).2,fun c hc0 hc=>⟨(k2 c hc0 hc).1,by have:=k1.lt hw hc0 hc;omega⟩⟩
       · rw [List.mem_singleton] at hy
         subst hy
         have hdn:∀ c,0<x.data.length→gY dv c→c≠b:=fun c hc0 hc e=>(hdb c hc0 hc).2 h0 (by rw [e];exact ⟨_,_,_,rfl⟩)
         exact ⟨hd.bT fun c hc0 hc=>hkp c (hd.lt hw hc0 hc) (hdn c hc0 hc),fun c hc0 hc=>⟨(hdb c hc0 hc).1,by have:=hd.lt hw hc0 hc;omega⟩⟩
   · exact ((Fr.new _).cJ none (fun _=>h1) (by omega)).dE _
def aF7 (li:Bool) (n m:Nat) (S:List eJ→Prop) (h:Hp) (r:Value) (H:Hp):Prop:=∃ ov ops,r=.tuple ⟨[.agg ⟨cQ li n m ov⟩,A0 0]⟩∧kF.Ok n m ops∧S ops∧gD H ov ops (fun c=>h.next≤c)∧Wf H∧Fr (fun _=>False) h H
noncomputable def sl4 (v a b c:Value):Option Value:=qY 3 (.val v) (some (.val a)) (some (.val b)) (some (.val c)) [] .nil
theorem aQ2 (x y z w:OD) (lo:List Value) (tm:T Value):qY 3 x (some y) (some z) (some w) lo tm=sl4 (bW x lo tm) (bW y lo tm) (bW z lo tm) (bW w lo tm):=rfl
theorem aSS {b o n i e:Nat} (h1:i<e) (h2:e≤n) (h3:n<1000000):sl4 (cB b o n n) (A0 i) (A0 e) (A0 e)=some (cB b (o+i*3) (e - i) (e - i)):=by
 have e1:eU n=false:=eN (by unfold eY;omega)
 have e2:sure n=n:=by unfold sure;rw [e1];rfl
 have h:sl4 (cB b o n n) (A0 i) (A0 e) (A0 e)=(bif eU n && Nat.beq (sure n) 0 then none else gQ (some (.val (A0 e))) [] .nil 0 (sure n) (fun m=>gQ (some (.val (A0 e))) [] .nil 0 m (fun hi=>gQ (some (.val (A0 i))) [] .nil 0 hi (fun lw=>qW b o 3 lw hi m) none) none) none):=rfl
 rw [h,e1,Bool.false_and,cond_false,e2,pX,z_v,tM,cX h2,cond_true,pX,z_v,tM,cX (Nat.le_refl _),cond_true,pX,z_v,tM,cX (Nat.le_of_lt h1),cond_true]
 unfold qW
 rw [dO (by omega),cond_false]
 unfold xV
 rw [bD,bD,bD];rfl
structure aF8 (bl n tb b4 b7 lo:Nat) (l:List SymM) (in_:Nat) (f:Nat→kI) (h:Hp) (m:Nat) (tm:T Value) (df:Df) (H:Hp):Prop where
 df:df=[]
 t0:tm.get []=some (cB bl 0 n n)
 t4:tm.get [false,true]=some (bE b4 0)
 t7:tm.get [true,true,true]=some (bE b7 0)
 t8:tm.get [false,true,true]=some (cB tb 0 (n+1) (n+1))
 t9:tm.get [true,false,true]=some (A0 (n - m))
 mle:m≤n
 wf:Wf H
 fr:Fr (fun _=>False) h H
 r4:∃ c,H.at b4=some (.row c 4 30 true false)
 jE:rT H tb n f
 st:∃ ov ps,p8 H b7 4 30 (cQ false in_ n ov)∧oT H ov ps lo∧eO (ps.map (·.1))=l.take (n - m)∧∀ o∈ps.map (·.1),o.Rt in_
theorem aF9 {l:List SymM} {i len:Nat}:l.take (i+len)=l.take i++(l.drop i).take len:=List.take_add
theorem Yu {call:Call} (hoper:aKR call) {bl n tb b4 b7 lo in_:Nat} {l:List SymM} {f:Nat→kI} {h:Hp} (hw:Wf h) (hn:n=l.length) (hn1:n≤100) (hin:in_≤1000) (hok:∀ s∈l,s.Ok in_) (hlv:Sl 3 h (cB bl 0 n n) n (gH l)) (htab:∀ j,j≤n→xJ l j (f j)) (hlo:h.next≤b4∧b4<lo∧h.next≤b7∧b7<lo∧tb<lo∧h.next≤tb∧b4≠b7∧tb≠b7∧tb≠b4) {tm:T Value} {df:Df} {H:Hp} (hst:aF8 bl n tb b4 b7 lo l in_ f h n tm df H) (hl0:lo≤H.next) :
 bC (iP (.loop nM) call tm df H) (fun ex tm df H=>ex=.exit 0∧aF8 bl n tb b4 b7 lo l in_ f h 0 tm df H):=by
 refine aKS (fun m tm df H=>aF8 bl n tb b4 b7 lo l in_ f h m tm df H∧lo≤H.next) (fun m tm df H hI=>?_) (by omega) ⟨hst,hl0⟩
 obtain ⟨⟨rfl,t0,t4,t7,t8,t9,hm,wf,fr,⟨c4,r4⟩,jE,⟨ov,ps,⟨hvl,c7,a7,hc7⟩,hops,hsy,hrt⟩⟩,hlx⟩:=hI
 have lo0:tT (cB bl 0 n n) n:=rfl
 unfold tT at lo0
 by_cases hm0:m=0
 · subst hm0
   have e1:Nat.blt (n - 0) n=false:=cI (by omega)
   unfold nM
   simp only [↓aQ,NV,reduceCtorEq,t0,t9,lo0,e1]
   exact .ex ⟨rfl,rfl,by simp [t0],by simp [t4],by simp [t7],by simp [t8],by simp [t9],hm,wf,fr,⟨c4,r4⟩,jE,⟨ov,ps,⟨hvl,c7,a7,hc7⟩,hops,hsy,hrt⟩⟩
 · obtain ⟨cc,et,clt,hat,hc⟩:=id jE
   have hi:n - m<n:=by omega
   have hmid:=(htab (n - m) (by omega)).sB (by omega)
   have hk:=hmid.k
   obtain ⟨hle,hpos⟩:=hk.le
   generalize hI:n - m=i at *
   generalize hp:f i=p at *
   have hseg:((l.drop i).take p.len).length=p.len:=Tl hle
   have hsvH:=hlv.gV hw fr fun _ h=>h.elim
   obtain ⟨b',o',c',hv',hhas⟩:=hsvH.pos (by omega)
   cases hv'
   have hhasS:Has H bl (0+i*3) (gH ((l.drop i).take p.len)):=by
    have h1:=(hhas.drop (k:=i*3) (by rw [nI];omega)).take (p.len*3)
    rw [aFV,aFW] at h1
    exact h1
   have hslS:Sl 3 H (cB bl (0+i*3) (i+p.len - i) (i+p.len - i)) ((l.drop i).take p.len).length (gH ((l.drop i).take p.len)):=by
    rw [hseg,show i+p.len - i=p.len by omega]
    exact ⟨by rw [nI,hseg],.inr ⟨_,_,_,rfl,hpos,hhasS⟩⟩
   have hsokk:=aKJ hk hok hin (by omega)
   obtain ⟨rv,H',eo,dv,rfl,d1,d2,wf',fr'⟩:=(hoper (aS H H.next []) p.k (cB bl (0+i*3) (i+p.len - i) (i+p.len - i)) ((l.drop i).take p.len) (wf.sb []) hk.k hslS (by rw [hseg];exact hpos) (by rw [hseg];omega)).get
   have hsg0:sg ((l.drop i).take p.len) 0=sg l i:=by
    have:=Tm (l:=l) hle (j:=0) hpos
    rw [Nat.add_zero] at this
    exact aVJ this
   have hx:Ym p.k l i p.len=⟨p.k,mM p.k ((l.drop i).take p.len),((l.drop i).take p.len).length,nP p.k ((l.drop i).take p.len),nO p.k ((l.drop i).take p.len)⟩:=by
    unfold Ym mM nP nO
    rw [hsg0,hseg]
   generalize hX:Ym p.k l i p.len=x at *
   have xk:p.k=x.kind:=by rw [hx]
   have xf:mM p.k ((l.drop i).take p.len)=x.from_:=by rw [hx]
   have xl:((l.drop i).take p.len).length=x.len:=by rw [hx]
   have xb:nP p.k ((l.drop i).take p.len)=x.b:=by rw [hx]
   have xd:nO p.k ((l.drop i).take p.len)=x.data:=by rw [hx]
   rw [xf,xl,xb] at eo
   rw [xd] at d1 d2
   have nH':H.next≤H'.next:=fr'.next
   have bH':H'.base=H.next:=fr'.base
   have lH':H'.log=[]:=fr'.log
   have fHH':∀ c,c<H.next→H'.at c=H.at c:=fun c hc=>fr'.at_ c hc fun h=>h
   have hopsB:oT (aS H H.base H.log) ov ps lo:=hops
   have hwb:=hw.base
   have hHb:H.base=h.base:=fr.base
   have wfK:Wf (aS H' H.base H.log):=wf'.Iq (by have:=wf.base;omega) _
   have frK:Fr (fun _=>False) H (aS H' H.base H.log):=⟨rfl,rfl,nH',fun c hc _=>fHH' c hc⟩
   have hopsK:oT (aS H' H.base H.log) ov ps lo:=hops.bT wf fun c _ hc=>fHH' c hc
   have hps:ps.length≤n:=by
    have h1:∀ l:List eJ,(∀ o∈l,o.Rt in_)→l.length≤(eO l).length:=by
     intro l
     induction l with
     | nil=>intro _;exact Nat.le_refl _
     | cons o l ih =>
      intro hl
      have h1:=ih fun x hx=>hl x (by simp [hx])
      have h2:=(hl o (by simp)).pos
      have h3:=Gl o l
      unfold iS at h3
      rw [h3,List.length_cons];omega
    have h2:=h1 _ hrt
    rw [hsy,List.length_map,List.length_take] at h2
    omega
   obtain ⟨v',Z,happ,hopsZ,wZ,fZ,nZ,hv1⟩:=Nf (x:=x) wfK hopsK (by rw [cL];omega) (by rw [mL,hHb];omega) (by omega) d1 fun c h0 hc=>⟨by have:=(d2 c h0 hc).1;rw [cL] at this;omega,fun h0' hb=>by
    have h1:=(d2 c h0 hc).1
    rw [cL] at h1
    have h2:=hops.lt wf h0' hb
    omega⟩
   rw [cL] at happ nZ
   have happ':∀ n g,aS ((aS H' H.base H.log).new (aT (fW x.kind x.from_ x.len x.b dv) 5 68 true)) n g=aS (H'.new (aT (fW x.kind x.from_ x.len x.b dv) 5 68 true)) n g:=fun n g=>rfl
   simp only [happ'] at happ
   have aZ7:Z.at b7=some (.row c7 4 30 true false):=by
    rw [fZ.at_ b7 (by rw [cL];have:=wf.lt a7;omega) (by omega),dM,fHH' b7 (wf.lt a7)];exact a7
   have aZt:Z.at tb=some (.row cc ((n+1)*12) et clt false):=by
    rw [fZ.at_ tb (by rw [cL];have:=wf.lt hat;omega) (by omega),dM,fHH' tb (wf.lt hat)];exact hat
   have aZ4:Z.at b4=some (.row c4 4 30 true false):=by
    rw [fZ.at_ b4 (by rw [cL];have:=wf.lt r4;omega) (by omega),dM,fHH' b4 (wf.lt r4)];exact r4
   have aH7:H.at b7=some (.row c7 4 30 true false):=a7
   have l7:=wf.lt a7
   have lt:=wf.lt hat
   have l7Z:=wZ.lt aZ7
   have bZ:Z.base=H.base:=fZ.base
   have lZ:Z.log=H.log:=fZ.log
   have hHbn:=wf.base
   have g1:Nat.blt i n=true:=bU hi
   have g2:Nat.blt i (n+1)=true:=bU (by omega)
   have g3:Nat.blt (0+i*12+3) ((n+1)*12)=true:=bU (by omega)
   have g4:cc.get (path (0+i*12+3))=some (A0 p.len):=Nb hc (by omega) (by omega) (by rw [hp];rfl)
   have g5:Nat.blt (0+i*12+2) ((n+1)*12)=true:=bU (by omega)
   have g6:cc.get (path (0+i*12+2))=some (A0 p.k):=Nb hc (by omega) (by omega) (by rw [hp];rfl)
   have g7:c7.get (path (0+3))=some ov:=by rw [Nat.zero_add,hc7 3 (by decide)];rfl
   have w1:aR .i64 (.ofNat (i+p.len))=.ofNat (i+p.len):=bF (by omega)
   have s4:=aSS (b:=bl) (o:=0) (n:=n) (i:=i) (e:=i+p.len) (by omega) (by omega) (by omega)
   have k1:Nat.beq b7 b7=true:=Nat.beq_refl _
   have k2:Nat.beq tb b7=false:=dO hlo.2.2.2.2.2.2.2.1
   have k3:comp Ap 1 16=true:=by decide
   have k4:∀ l,below H.base [b7] l=l:=fun l=>Ld (by omega)
   have k5:jN (H'.next+2) [] b7=[b7]:=kQ (by omega)
   have k6:Nat.ble H.next b7=false:=eN l7
   have k7:Nat.ble H'.next b7=false:=eN (by omega)
   have k8:Nat.ble (H'.next+1) b7=false:=eN (by omega)
   have kbt:(b7=tb)=False:=by simp;omega
   have x5:(fW x.kind x.from_ x.len x.b dv).length=5:=rfl
   have hgoal:∀ tm',tm'.get []=some (cB bl 0 n n)→tm'.get [false,true]=some (bE b4 0)→tm'.get [true,true,true]=some (bE b7 0)→tm'.get [false,true,true]=some (cB tb 0 (n+1) (n+1))→tm'.get [true,false,true]=some (A0 (i+p.len))→Qe (fun m tm df H=>aF8 bl n tb b4 b7 lo l in_ f h m tm df H∧lo≤H.next) (fun ex tm df H=>ex=.exit 0∧aF8 bl n tb b4 b7 lo l in_ f h 0 tm df H) m .normal tm' [] (aS (Z.put b7 (some (.row (aL [v'] (0+3) c7 fun t=>t) 4 30 true false))) H.base H.log):=by
    intro tm' q0 q4 q7 q8 q9
    have fY:Fr (fun c=>lo≤c∨c=b7) H (Z.put b7 (some (.row (aL [v'] (0+3) c7 fun t=>t) 4 30 true false))):=by
     have h1:Fr (fun c=>lo≤c∨c=b7) H Z:=(frK.mono (Q:=fun c=>lo≤c∨c=b7) fun _ _ h=>h.elim).trans (fZ.mono (Q:=fun c=>lo≤c∨c=b7) fun _ _ h=>.inl h) fun _ _ h=>h
     exact h1.cJ _ (fun _=>.inr rfl) (by omega)
    rw [aBP fY]
    have hnm:n - (m - p.len)=i+p.len:=by omega
    refine .go (m':=m - p.len) (by omega) ⟨⟨rfl,q0,q4,q7,q8,by rw [hnm];exact q9,by omega,wZ.put l7Z _,?_,⟨c4,by rw [aJ,if_neg (by omega)];exact aZ4⟩,⟨cc,et,clt,by rw [aJ,if_neg (by omega)];exact aZt,hc⟩,⟨v',ps++[(x,dv)],uR (i:=3) hvl hc7 (by decide) (by rw [aJ,if_pos rfl]),?_,?_,?_⟩⟩,by rw [aV];omega⟩
    · exact fr.trans fY fun c hc h=>by rcases h with h|h<;>omega
    · exact hopsZ.bT wZ fun c hc _=>by rw [aJ,if_neg (by omega)]
    · rw [List.map_append,hnm,aF9,← hsy]
      show eO (ps.map (·.1)++[x])=_
      rw [Bo,hsokk.2]
    · rw [List.map_append]
      intro o ho
      rcases List.mem_append.1 ho with h|h
      · exact hrt o h
      · have:o=x:=by simpa using h
        subst this
        exact hsokk.1
   unfold fW at eo happ x5
   rw [← xk] at happ
   rw [← xk] at x5
   unfold nM
   rcases happ with happ|⟨bo,hb1,hb2,hb3,happ⟩
   · have ap:=happ (H'.next+1) []
     simp only [↓aQ,NV,reduceCtorEq,oS,pQ,t0,t7,t8,t9,lo0,g1,g2,g3,g4,g5,g6,g7,hat,aH7,w1,aQ2,s4,eo,lH',bH',zA,gE,happ,x5,nZ,bZ,lZ,aZ7,k1,k2,k3,k4,k5,k6,k7,k8,hv1,kbt,fHH' tb lt,aZt,fHH' b7 l7]
     exact hgoal _ (by simp [t0]) (by simp [t4]) (by simp [t7]) (by simp [t8]) (by simp)
   · have k9:jN (H'.next+1) [] bo=[bo]:=kQ (by omega)
     have k10:∀ l,below H.base [bo] l=l:=fun l=>Ld (by omega)
     have k11:Nat.beq tb bo=false:=dO (by omega)
     have k12:Nat.beq b7 bo=false:=dO (by omega)
     have k13:Nat.ble H'.next bo=false:=eN hb2
     have hbH:bo<H.next:=hops.lt wf hb3.1 hb3.2
     have k14:Nat.ble H.next bo=false:=eN hbH
     simp only [↓aQ,NV,reduceCtorEq,oS,pQ,t0,t7,t8,t9,lo0,g1,g2,g3,g4,g5,g6,g7,hat,aH7,w1,aQ2,s4,eo,lH',bH',zA,gE,happ,x5,nZ,bZ,lZ,aZ7,k1,k2,k3,k4,k5,k6,k7,k8,k9,k10,k11,k12,k13,k14,hv1,kbt,fHH' tb lt,aZt,fHH' b7 l7]
     exact hgoal _ (by simp [t0]) (by simp [t4]) (by simp [t7]) (by simp [t8]) (by simp)
theorem aST (e:TypeId) (kd:IntKind) (n:Int) (h:Hp):aHw e (.int kd n) h=.val (bE h.next 0) (h.new (aT [.int kd n] 1 e true)):=by
 show gT h e [.int kd n] (len [Value.int kd n]) true (fun b h=>fV.val (bE b 0) h)=_
 rw [eG,eF];rfl
theorem iT {li:Bool} {n m:Nat} {ov:Value} (h:bY [ov]=true):bY (cQ li n m ov)=true:=h
theorem aSU {f:Nat→kI} {cc:T Value} {n:Nat} (hc:∀ i,i≤n→∀ k,k<12→cc.get (path (i*12+k))=(xS (f i))[k]?):cc.get (path (0+0*12+0+1))=some (A0 ((f 0).bo)):=by
 have:=hc 0 (Nat.zero_le _) 1 (by omega)
 rw [show 0+0*12+0+1=0*12+1 by omega,this];rfl
theorem gD.mono {h:Hp} {v:Value} {l:List eJ} {P Q:Nat→Prop} (hr:gD h v l P) (e:∀ c,P c→Q c):gD h v l Q:=by
 rcases hr with h1|⟨b,o,c,rfl,hP,cc,m,e',cl,ro,hat,hm,hx⟩
 · exact .inl h1
 exact .inr ⟨b,o,c,rfl,e b hP,cc,m,e',cl,ro,hat,hm,fun i x hi=>by
  obtain ⟨dv,h1,h2,h3⟩:=hx i x hi
  exact ⟨dv,h1,h2,fun c h0 hc=>e c (h3 c h0 hc)⟩⟩
theorem gD.aKT {h H:Hp} {v:Value} {l:List eJ} {P:Nat→Prop} (hr:gD h v l P) (hw:Wf h) (e:∀ c,P c→c<h.next→H.at c=h.at c):gD H v l P:=by
 rcases hr with h1|⟨b,o,c,rfl,hP,cc,m,e',cl,ro,hat,hm,hx⟩
 · exact .inl h1
 refine .inr ⟨b,o,c,rfl,hP,cc,m,e',cl,ro,by rw [e b hP (hw.lt hat)];exact hat,hm,fun i x hi=>?_⟩
 obtain ⟨dv,h1,h2,h3⟩:=hx i x hi
 exact ⟨dv,h1,h2.bT fun c h0 hc=>e c (h3 c h0 hc) (h2.lt hw h0 hc),h3⟩
theorem Tr {call:Call} {cd:cE} (hcont:aQZ call) (htable:aKQ call) (hoper:aKR call) {bl n in_:Nat} {l:List SymM} {h:Hp} (hw:Wf h) (hn:n=l.length) (hn1:n≤100) (hin:in_≤1000) (hok:∀ s∈l,s.Ok in_) (hlv:Sl 3 h (cB bl 0 n n) n (gH l)) :
 Yields (dD y8 call cd [cB bl 0 n n,A0 in_] h) (aF7 false in_ n (fun ops=>eO ops=l) h):=by
 have hwb:=hw.base
 have lo0:tT (cB bl 0 n n) n:=rfl
 unfold tT at lo0
 have q1:Nat.blt in_ 0=false:=cI (Nat.zero_le _)
 have q2:Nat.blt 65536 in_=false:=cI (by omega)
 have q3:Nat.blt 65536 n=false:=cI (by omega)
 have hw1:Wf ((h.new (aT [A0 in_] 1 3 true)).new (aT D5 4 30 true)):=(hw.new _).new _
 have f1:Fr (fun _=>False) h ((h.new (aT [A0 in_] 1 3 true)).new (aT D5 4 30 true)):=(Fr.new _).dE _
 have n1:((h.new (aT [A0 in_] 1 3 true)).new (aT D5 4 30 true)).next=h.next+2:=rfl
 have a3:((h.new (aT [A0 in_] 1 3 true)).new (aT D5 4 30 true)).at h.next=some (aT [A0 in_] 1 3 true):=by rw [aM,aF,if_neg (by omega),aM,if_pos rfl]
 have a4:((h.new (aT [A0 in_] 1 3 true)).new (aT D5 4 30 true)).at (h.next+1)=some (aT D5 4 30 true):=by rw [aM,aF,if_pos rfl]
 have hlv1:=hlv.gV hw f1 fun _ h=>h.elim
 rw [hn] at hlv1
 have e1:=hcont ((h.new (aT [A0 in_] 1 3 true)).new (aT D5 4 30 true)) (cB bl 0 n n) l h.next in_ (by rw [← hn] at hlv1 ⊢;exact hlv1) (by omega) a3 (by rw [n1];omega) hok
 obtain ⟨X,hX,wX,fX,aX,nX⟩:=eP hw1 D5 (cQ false in_ n (.slice none 0 0)) 4 30
 rw [n1] at hX aX nX
 have fhX:=f1.trans (P:=fun _=>False) fX fun _ _ h=>h
 have hlvX:=hlv.gV hw fhX fun _ h=>h.elim
 obtain ⟨rv,H2,e2,tb,f,rfl,tab2,hend,htb1,htb2,w2,f2⟩:=(htable X (cB bl 0 n n) l wX (by rw [← hn];exact hlvX) (by omega) fun s hs=>by
  have h1:=hok s hs
  cases ho:s.dL with
  | true=>have:=h1.at_ ho;omega
  | false=>have:=h1.no ho;omega).get
 rw [← hn] at tab2 hend e2
 have fh2:=fhX.trans (P:=fun _=>False) f2 fun _ _ h=>h
 have n2:=f2.next
 have a72:H2.at (h.next+2)=X.at (h.next+2):=f2.at_ _ (by omega) fun h=>h
 rw [aX] at a72
 have a42:H2.at (h.next+1)=some (aT D5 4 30 true):=by rw [f2.at_ _ (by omega) fun h=>h,fX.at_ _ (by rw [n1];omega) fun h=>h];exact a4
 obtain ⟨cc,et,clt,hat,hc⟩:=id tab2
 have g1:Nat.blt 0 (n+1)=true:=bU (by omega)
 have g2:Nat.blt (0+0*12+0+1) ((n+1)*12)=true:=bU (by omega)
 have g3:=aSU hc
 have g4:Nat.blt 4096 (f 0).bo=false:=cI (by have:=((hend 0 (Nat.zero_le _)).bd (Nat.zero_le _)).1;omega)
 unfold Ih at e1
 unfold cQ at hX
 refine aP rfl ?_
 simp only [↓aQ,NV,reduceCtorEq,pQ,aST,cN,cP,Lz,a3,aD8,aQW,lo0,q1,q2,q3,e1,hX,e2,hat,g1,g2,g3,g4]
 have row7:p8 H2 (h.next+2) 4 30 (cQ false in_ n (.slice none 0 0)):=Jk rfl a72
 refine bC.lp (id:=0) (P:=aF8 bl n tb (h.next+1) (h.next+2) H2.next l in_ f h 0) (Yu hoper hw hn hn1 hin hok hlv hend ⟨by omega,by omega,by omega,by omega,by omega,by omega,by omega,by omega,by omega⟩ ⟨rfl,by simp [cN],by simp,by simp,by simp,by rw [Nat.sub_self];simp [T.aB],Nat.le_refl _,w2,fh2,⟨_,a42⟩,tab2,⟨_,[],row7,oT.nil,by rw [Nat.sub_self];rfl,fun o ho=>by cases ho⟩⟩ (Nat.le_refl _)) ?_
 rintro tm df H ⟨rfl,t0,t4,t7,t8,t9,hm,wf,fr,⟨c4,r4⟩,jE,⟨ov,ps,⟨hvl,c7,a7,hc7⟩,hops,hsy,hrt⟩⟩
 rw [Nat.sub_zero,hn,List.take_length] at hsy
 have hld:=Ep hvl hc7
 have hal:=iT (li:=false) (n:=in_) (m:=n) hops.one
 have hl4:(cQ false in_ n ov).length=4:=rfl
 have l4:=wf.lt r4
 simp only [↓aQ,NV,reduceCtorEq,pQ,t4,t7,a7,hld,r4,hal,hl4]
 refine .ret ?_
 have hfin:cR (aL (cQ false in_ n ov) 0 c4 fun t=>t) 0 4 []=some (cQ false in_ n ov):=sV _ _ _ _ _
 rw [Cb (b:=h.next+1) (by simp [t4]) (by rw [aJ,if_pos rfl]) (Nat.le_refl _) hfin]
 simp only [↓aQ,NV,reduceCtorEq]
 refine ⟨ov,ps.map (·.1),rfl,⟨hrt,by unfold iS;rw [hsy,hn],hin,hn1⟩,hsy,((hops.bT (H:=H.put (h.next+1) _) wf fun c h1 _=>by rw [aJ,if_neg (by omega)]).toR).mono fun c hc=>by omega,wf.put l4 _,fr.cJ _ (fun h=>by omega) (by omega)⟩
def Qf (call:Call):Prop:=∀ h bl n in_ l,Wf h→n=l.length→n≤100→in_≤1000→(∀ s∈l,SymM.Ok s in_)→Sl 3 h (cB bl 0 n n) n (gH l)→Yields (call 255 [cB bl 0 n n,A0 in_] h) (aF7 false in_ n (fun ops=>eO ops=l) h)
theorem Yv (neg:Bool) (x y:OD) (lo:List Value) (tm:T Value):sF neg x y lo tm=kZ (bW x lo tm) (fun a=>kZ (bW y lo tm) (fun b=>some (.bool (pG neg (!pG a b)))) none) none:=by
 unfold sF;simp only [rD]
noncomputable def aVR (e:Nat):Value:=.tuple ⟨[.agg ⟨D5⟩,A0 e]⟩
def aVS (e:Nat) (h:Hp) (r:Value) (H:Hp):Prop:=r=aVR e∧Wf H∧Fr (fun _=>False) h H
theorem Yw {call:Call} {cd:cE} (hS:Mv call) (hT:Ye call) (hC:Qf call) {h:Hp} {n m n2 m2:Nat} {ov1 ov2:Value} {ops1 ops2:List eJ} {P1 P2:Nat→Prop} (hw:Wf h) (hp1:kF.Ok n m ops1) (hp2:kF.Ok n2 m2 ops2) (hn:n<1000) (hn2:n2<1000) (ho1:gD h ov1 ops1 P1) (ho2:gD h ov2 ops2 P2) :
 Yields (dD Bw call cd [.agg ⟨cQ false n m ov1⟩,.agg ⟨cQ false n2 m2 ov2⟩] h) (fun r H=>(m=n2→aF7 false n m2 (fun ops=>eO ops=vV (eO ops1) (eO ops2)) h r H)∧(m≠n2→aVS 61 h r H)):=by
 have hwb:=hw.base
 have hl1:(eO ops1).length=m:=hp1.out
 have hl2:(eO ops2).length=m2:=hp2.out
 have hm1:=hp1.m
 have hm2:=hp2.m
 obtain ⟨h3,hh3⟩:∃ h3,((h.new (aT (cQ false n m ov1) 4 30 true)).new (aT (cQ false n2 m2 ov2) 4 30 true)).new (aT D5 4 30 true)=h3:=⟨_,rfl⟩
 have w3:Wf h3:=by rw [← hh3];exact ((hw.new _).new _).new _
 have f3:Fr (fun _=>False) h h3:=by rw [← hh3];exact ((Fr.new _).dE _).dE _
 have n3:h3.next=h.next+3:=by rw [← hh3];rfl
 have a2:h3.at h.next=some (aT (cQ false n m ov1) 4 30 true):=by rw [← hh3,aM,aF,aF,if_neg (by omega),aM,aF,if_neg (by omega),aM,if_pos rfl]
 have a3:h3.at (h.next+1)=some (aT (cQ false n2 m2 ov2) 4 30 true):=by rw [← hh3,aM,aF,aF,if_neg (by omega),aM,aF,if_pos rfl]
 have a4:h3.at (h.next+1+1)=some (aT D5 4 30 true):=by rw [← hh3,aM,aF,aF,if_pos rfl]
 obtain ⟨r,H1,e1,sv1,rfl,s1,⟨b1,c1⟩,s1b,w1,f1⟩:=(hS h3 n m ops1 ov1 P1 false w3 hp1 hn (ho1.eH hw f3)).get
 have f31:=f3.trans (P:=fun _=>False) f1 fun _ _ h=>h
 obtain ⟨r,H2,e2,sv2,rfl,s2,⟨b2,c2⟩,s2b,w2,f2⟩:=(hS H1 n2 m2 ops2 ov2 P2 false w1 hp2 hn2 (ho2.eH hw f31)).get
 have f32:=f31.trans (P:=fun _=>False) f2 fun _ _ h=>h
 have n1:=f1.next
 have n2':=f2.next
 have a21:H1.at h.next=some (aT (cQ false n m ov1) 4 30 true):=by rw [f1.at_ _ (by omega) fun h=>h];exact a2
 have a31:H1.at (h.next+1)=some (aT (cQ false n2 m2 ov2) 4 30 true):=by rw [f1.at_ _ (by omega) fun h=>h];exact a3
 have a41:H1.at (h.next+1+1)=some (aT D5 4 30 true):=by rw [f1.at_ _ (by omega) fun h=>h];exact a4
 have a22:H2.at h.next=some (aT (cQ false n m ov1) 4 30 true):=by rw [f2.at_ _ (by omega) fun h=>h];exact a21
 have a32:H2.at (h.next+1)=some (aT (cQ false n2 m2 ov2) 4 30 true):=by rw [f2.at_ _ (by omega) fun h=>h];exact a31
 have a42:H2.at (h.next+1+1)=some (aT D5 4 30 true):=by rw [f2.at_ _ (by omega) fun h=>h];exact a41
 have q0:pG false false=true:=rfl
 by_cases hmn:m=n2
 · have q1:Nat.beq m n2=true:=by rw [hmn];exact Nat.beq_refl _
   have s1':=s1.gV w1 f2 fun _ h=>h.elim
   subst c1 c2
   obtain ⟨r,H4,e4,sv3,rfl,s4,⟨b4,c4⟩,s4b,w4,f4⟩:=(hT H2 (cB b1 0 m m) (cB b2 0 m2 m2) (eO ops1) (eO ops2) w2 (by rw [hl1];exact s1') (by rw [hl2];exact s2) (by rw [hl1,hmn];exact rM hp2.rt) (by omega) (by omega)).get
   rw [hl2] at s4 c4
   subst c4
   have hokt:=aOK (n:=n) (rM hp1.rt) (by rw [hl1,hmn];exact rM hp2.rt)
   obtain ⟨r,H5,e5,ov,ops,rfl,p1,p2,p3,w5,f5⟩:=(hC H4 b4 m2 n (vV (eO ops1) (eO ops2)) w4 (by rw [aKh,hl2]) (by omega) (by omega) hokt s4).get
   have n4:=f4.next
   have n5:=f5.next
   have a24:H4.at h.next=some (aT (cQ false n m ov1) 4 30 true):=by rw [f4.at_ _ (by omega) fun h=>h];exact a22
   have a25:H5.at h.next=some (aT (cQ false n m ov1) 4 30 true):=by rw [f5.at_ _ (by omega) fun h=>h];exact a24
   have a45:H5.at (h.next+1+1)=some (aT D5 4 30 true):=by rw [f5.at_ _ (by omega) fun h=>h,f4.at_ _ (by omega) fun h=>h];exact a42
   have f35:=(f32.trans (P:=fun _=>False) f4 fun _ _ h=>h).trans (P:=fun _=>False) f5 fun _ _ h=>h
   have hovone:bY [ov]=true:=by
    rcases p3 with ⟨_,rfl|⟨b,o,c,rfl⟩⟩|⟨b,o,c,rfl,_⟩<;>rfl
   have hal:bY (cQ false n m2 ov)=true:=iT hovone
   obtain ⟨X,hX,wX,fX,aX,nX⟩:=eP w5 D5 (cQ false n m2 ov) 4 30
   have aX2:X.at h.next=some (aT (cQ false n m ov1) 4 30 true):=by rw [fX.at_ _ (by omega) fun h=>h];exact a25
   have aX4:X.at (h.next+1+1)=some (aT D5 4 30 true):=by rw [fX.at_ _ (by omega) fun h=>h];exact a45
   have f3X:=f35.trans (P:=fun _=>False) fX fun _ _ h=>h
   have m1:(H5.next=h.next+1+1)=False:=by simp;omega
   have hst:cR (aL [Value.bool false] (0+0) (aL (cQ false n m2 ov) 0 (aL D5 0 .nil fun t=>t) fun t=>t) fun t=>t) 0 4 []=some (cQ false n m2 ov):=dV (o:=0) (vs:=cQ false n m2 ov) fun k hk=>by
    rw [Nat.zero_add,bM]
    match k,hk with
    | 0,_=>rfl
    | 1,_=>rw [if_neg (by simp),bM,if_pos ⟨by omega,by show 1<0+4;omega⟩]
    | 2,_=>rw [if_neg (by simp),bM,if_pos ⟨by omega,by show 2<0+4;omega⟩]
    | 3,_=>rw [if_neg (by simp),bM,if_pos ⟨by omega,by show 3<0+4;omega⟩]
   unfold cQ at e1 e2 hh3 a2 a21 a31 a22 a32 a24 a25 aX aX2 hX hal hst e5
   refine aP rfl ?_
   simp only [↓aQ,NV,reduceCtorEq,pQ,cQ,cN,cP,gM,hh3,a2,e1,iX,nW,oD,a21,a31,a41,e2,a22,a32,a42,Yv,q0,q1,e4,a24,e5,hal,hX,aX,aX2,aX4,m1,hst]
   refine .ret ?_
   rw [Cb (b:=h.next+1+1) (by simp) (by rw [aJ,if_pos rfl]) (Nat.le_refl _) (sV _ _ _ _ _)]
   simp only [↓aQ,NV,reduceCtorEq]
   have hbX:=wX.base
   refine ⟨fun _=>⟨ov,ops,rfl,p1,p2,?_,?_,?_⟩,fun h=>absurd hmn h⟩
   · refine gD.mono (p3.aKT w5 fun c h1 h2=>?_) fun c hc=>by have:=f3.next;omega
     rw [aJ,if_neg (by omega),aJ,if_neg (by omega)]
     exact fX.at_ c h2 fun h=>h
   · exact (wX.put (by omega) _).put (by rw [aV];omega) _
   · exact (f3X.cJ _ (fun h=>by omega) (by omega)).cJ _ (fun h=>by omega) (by omega)
 · have q1:Nat.beq m n2=false:=dO hmn
   unfold cQ at e1 e2 hh3 a2 a21 a31 a22 a32
   refine aP rfl ?_
   simp only [↓aQ,NV,reduceCtorEq,pQ,cQ,cN,cP,gM,hh3,a2,e1,iX,nW,oD,a21,a31,a41,e2,a22,a32,a42,Yv,q0,q1]
   refine .ret ?_
   rw [Cb (b:=h.next+1+1) (by simp) (by rw [aJ,if_pos rfl]) (Nat.le_refl _) (sV _ _ _ _ _)]
   simp only [↓aQ,NV,reduceCtorEq]
   exact ⟨fun h=>absurd h hmn,fun _=>⟨rfl,w2.put (by omega) _,f32.cJ _ (fun h=>by omega) (by omega)⟩⟩
def Ng (call:Call):Prop:=∀ h n m n2 m2 ov1 ov2 ops1 ops2 P1 P2,Wf h→kF.Ok n m ops1→kF.Ok n2 m2 ops2→n<1000→n2<1000→gD h ov1 ops1 P1→gD h ov2 ops2 P2→Yields (call 168 [.agg ⟨cQ false n m ov1⟩,.agg ⟨cQ false n2 m2 ov2⟩] h) (fun r H=>(m=n2→aF7 false n m2 (fun ops=>eO ops=vV (eO ops1) (eO ops2)) h r H)∧(m≠n2→aVS 61 h r H))
structure Wx (H:Hp) (wb lo:Nat) (ov:Value) (l:List Nat):Prop where
 bx:Af H wb ov
 out:Out 5 1 (fun c=>c≠wb∧lo≤c) H ov l.length (dR l)
def WB (ov:Value) (l:List Nat) (c:Nat):Prop:=0<l.length∧gY ov c
theorem Wx.bT {h H:Hp} {wb lo:Nat} {ov:Value} {l:List Nat} (hx:Wx h wb lo ov l) (e1:H.at wb=h.at wb) (e2:∀ c,WB ov l c→H.at c=h.at c):Wx H wb lo ov l:=by
 obtain ⟨⟨c,e,cl,h1,h2⟩,h3⟩:=hx
 refine ⟨⟨c,e,cl,by rw [e1];exact h1,h2⟩,?_⟩
 obtain ⟨hl,ho,h4|⟨b,rfl,h5,h6,h7⟩⟩:=h3
 · exact ⟨hl,ho,.inl h4⟩
 · exact ⟨hl,ho,.inr ⟨b,rfl,h5,h6.bT (e2 b ⟨h5,_,_,_,rfl⟩),h7⟩⟩
theorem Wx.lt {h:Hp} {wb lo:Nat} {ov:Value} {l:List Nat} (hx:Wx h wb lo ov l) (hw:Wf h):wb<h.next:=by
 obtain ⟨⟨c,e,cl,h1,h2⟩,h3⟩:=hx
 exact hw.lt h1
theorem Wx.wb {h:Hp} {wb lo:Nat} {ov:Value} {l:List Nat} (hx:Wx h wb lo ov l) (hw:Wf h) {c:Nat} (hc:WB ov l c):c<h.next∧c≠wb∧lo≤c:=by
 have h1:=hx.out.fE hc.1 hc.2
 exact ⟨hx.out.sl.lt hw hc.1 hc.2,h1.1,h1.2⟩
theorem Nh {call:Call} (hC:Xp call) {H:Hp} {lo wb w:Nat} {ns l:List Nat} {ov:Value} (hw:Wf H) (hlo:H.base≤lo) (hlo2:lo≤H.next) (hwb:H.base≤wb) (hx:Wx H wb lo ov l) (h0:0<w) (h3:w≤3) (hns:∀ x∈ns,x<16777216) (hl:l.length+3*ns.length≤50000) (hn0:0<ns.length) :
 ∃ H' ov',call 48 [bE wb 0,A0 w,cB H.next 0 ns.length ns.length] (H.new (aT (vS ns) ns.length 3 true))=.val (.tuple ⟨[]⟩) H'∧Wx H' wb lo ov' (l++zS w ns)∧Wf H'∧Fr (fun k=>k=wb∨WB ov l k) H H'∧∀ c,WB ov' (l++zS w ns) c→WB ov l c∨H.next≤c:=by
 have hwbn:=hx.lt hw
 have hob:=fun c (hc:WB ov l c)=>hx.wb hw hc
 obtain ⟨⟨c,e,cl,hat,hcc⟩,hout⟩:=hx
 have hsl:Sl 1 (H.new (aT (vS ns) ns.length 3 true)) (cB H.next 0 ns.length ns.length) ns.length (vS ns):=⟨by rw [Ji,Nat.mul_one],.inr ⟨_,_,_,rfl,hn0,fS (n:=ns.length) (e:=3) (cl:=true) (by rw [aM,if_pos rfl]) (by rw [Ji];exact Nat.le_refl _)⟩⟩
 have hwr1:WrR (fun k=>WB ov l k∨H.next+1≤k) (H.new (aT (vS ns) ns.length 3 true)) wb l:=⟨ov,⟨c,e,cl,by rw [aM,if_neg (by omega)];exact hat,hcc⟩,hout.Py hw fun c h1 h2 _ hlt=>⟨.inl ⟨h1,h2⟩,by rw [aM,if_neg (by omega)]⟩⟩
 obtain ⟨r,H',e',rfl,a1,a2,ov',b1,b2⟩:=(hC (H.new (aT (vS ns) ns.length 3 true)) (fun k=>WB ov l k∨H.next+1≤k) wb w (cB H.next 0 ns.length ns.length) ns l (hw.new _) h0 h3 hns hl (fun k hk=>by rw [dX];rcases hk with hk|hk;have:=(hob k hk).2.2;omega;have:=hw.base;omega) (fun k hk=>.inr hk) (by rw [dX];exact hwb) (fun hk=>by rcases hk with hk|hk;exact (hob _ hk).2.1 rfl;omega) hsl (fun c hc=>by
  rw [fB hc]
  refine ⟨by omega,fun hk=>?_⟩
  rcases hk with hk|hk
  · have:=(hob _ hk).1;omega
  · omega) hwr1).get
 refine ⟨H',ov',e',⟨b1,b2.mono fun c hc=>?_⟩,a1,(Fr.new (P:=fun k=>k=wb∨WB ov l k) _).trans a2 fun k hk h=>?_,fun c hc=>?_⟩
 · rcases hc with hc|hc
   · exact ⟨(hob c hc).2.1,(hob c hc).2.2⟩
   · exact ⟨by omega,by omega⟩
 · rcases h with h|h|h
   · exact .inl h
   · exact .inr h
   · omega
 · rcases b2.fE hc.1 hc.2 with h|h
   · exact .inl h
   · exact .inr (by omega)
theorem aKU {e s:Nat} {P:Nat→Prop} {h:Hp} {x y:Value} {n:Nat} {vs:List Value} (ho:Out e s P h x n vs) (hn:n≤100000) (hy:y=.slice none 0 0∨∃ b o c,y=cB b o 0 c):mQ e s x y h=.val x h:=by
 have e1:mQ e s x y h=rW x (oM e s h 0 []) (tH e s h 0 []) .none:=by rcases hy with rfl|⟨b,o,c,rfl⟩<;>rfl
 rw [e1]
 obtain ⟨_,_,⟨_,⟨b,rfl⟩|rfl⟩|⟨b,rfl,h1,_⟩⟩:=ho
 · rfl
 · rfl
 · obtain ⟨s1,s2,s3⟩:=Dy s n (by unfold eY;omega)
   generalize cM s n=k at *
   rw [yH]
   unfold oM
   rw [bD,show Nat.add n 0=n from rfl,s1,cX (Nat.le_refl _),cond_true];rfl
theorem zW {e s:Nat} {P:Nat→Prop} {h:Hp} {x y:Value} {n m:Nat} {vs new:List Value} (hw:Wf h) (ho:Out e s P h x n vs) (hy:Sl s h y m new) (hone:bY new=true) (hnm:n+m≤100000) (hP:∀ b,P b→h.base≤b) (hPn:P h.next) :
 ∃ v' H,mQ e s x y h=.val v' H∧Out e s P H v' (n+m) (vs++new)∧Wf H∧h.next≤H.next∧Fr (fun c=>0<n∧gY x c) h H∧(∀ c,0<n+m→gY v' c→(0<n∧gY x c)∨h.next≤c)∧bY [v']=true:=by
 by_cases hm:m=0
 · subst hm
   have hnew:new=[]:=List.eq_nil_of_length_eq_zero (by rw [hy.1,Nat.zero_mul])
   subst hnew
   have hy0:y=.slice none 0 0∨∃ b o c,y=cB b o 0 c:=by
    obtain ⟨_,⟨_,h1⟩|⟨b,o,c,rfl,h1,_⟩⟩:=hy
    · exact h1
    · omega
   refine ⟨x,h,aKU ho (by omega) hy0,by rw [List.append_nil];exact ho,hw,Nat.le_refl _,Fr.refl _ _,fun c h0 hc=>.inl ⟨h0,hc⟩,?_⟩
   obtain ⟨_,_,⟨_,⟨b,rfl⟩|rfl⟩|⟨b,rfl,_⟩⟩:=ho<;>rfl
 · obtain ⟨v',H,h1,h2,h3,h4,h5,⟨k,h6⟩⟩:=vO hw ho hy hone (by omega) hnm hP hPn
   refine ⟨v',H,h1,h2,h3,by omega,h5,fun c _ hc=>.inr ?_,by rw [h6];rfl⟩
   rw [h6] at hc
   rw [fB hc];exact Nat.le_refl _
structure PlS (ov:Value) (ops:List eJ) (b5 lo:Nat) (h:Hp) (i:Nat) (tm:T Value) (df:Df) (H:Hp):Prop where
 df:df=[]
 t5:tm.get [true,false]=some (bE b5 0)
 t11:tm.get [true,true,false]=some ov
 t12:tm.get [false,true,false]=some (A0 ops.length)
 t13:tm.get [true,false,false]=some (A0 i)
 wf:Wf H
 fr:Fr (fun _=>False) h H
 low:lo≤H.next
 st:∃ wv dv,tm.get [false,true]=some dv∧Wx H b5 lo wv (dB (ops.take i))∧Out 5 1 (fun c=>lo≤c) H dv (dF (ops.take i)).length (dR (dF (ops.take i)))∧∀ c,WB wv (dB (ops.take i)) c→¬ WB dv (dF (ops.take i)) c
theorem aKV {o:eJ}:o.code.length≤7:=by
 unfold eJ.code
 rw [List.length_append,fD]
 split
 · rw [List.length_append,fD,fD];omega
 split
 · rw [fD];omega
 · rw [List.length_append,fD,fD];omega
theorem qT (l:List eJ):(dB l).length≤7*l.length:=by
 unfold dB
 induction l with
 | nil=>exact Nat.le_refl _
 | cons o l ih=>rw [List.flatMap_cons,List.length_append,List.length_cons];have:=aKV (o:=o);omega
theorem qU {n:Nat} (l:List eJ):(∀ o∈l,o.Rt n)→(dF l).length≤iS l:=by
 unfold dF
 induction l with
 | nil=>intro _;exact Nat.le_refl _
 | cons o l ih =>
  intro h
  have h1:=ih fun x hx=>h x (by simp [hx])
  have h2:=h o (by simp)
  rw [List.flatMap_cons,List.length_append,Gl]
  have h3:o.data.length≤o.len:=by
   rcases h2.ok.kind with h|h|h|h
   · rw [h.2.2];exact Nat.zero_le _
   · exact Nat.le_of_eq h.2.2
   · rw [h.2.2];exact Nat.zero_le _
   · exact Nat.le_of_eq h.2.2.2
  omega
theorem Jm (w n:Nat):zS w [n]=be w n:=by simp [zS]
theorem Ts (w n m:Nat):zS w [n,m]=be w n++be w m:=by simp [zS]
structure PlW (b5 b7 lo:Nat) (x:eJ) (xv dv:Value) (d:List Nat) (l:List Nat) (X H:Hp):Prop where
 wf:Wf H
 fr:Fr (fun k=>k=b5∨lo≤k) X H
 row:H.at b7=X.at b7
 st:∃ wv,Wx H b5 lo wv l∧(∀ c,WB wv l c→¬ WB dv d c∧c≠b7)
 aZU:∀ c,WB dv d c→H.at c=X.at c
theorem zX {call:Call} (hC:Xp call) {b5 b7 lo w:Nat} {x:eJ} {xv dv:Value} {d l ns:List Nat} {X H:Hp} (hwX:Wf X) (hlX:lo≤X.next) (hb7:b7<X.next) (hbase:X.base≤lo) (hb5:X.base≤b5) (h57:b7≠b5) (hd:∀ c,WB dv d c→c<X.next∧c≠b5) (hp:PlW b5 b7 lo x xv dv d l X H) (h0:0<w) (h3:w≤3) (hns:∀ x∈ns,x<16777216) (hl:l.length+3*ns.length≤50000) (hn0:0<ns.length) :
 ∃ H',call 48 [bE b5 0,A0 w,cB H.next 0 ns.length ns.length] (H.new (aT (vS ns) ns.length 3 true))=.val (.tuple ⟨[]⟩) H'∧PlW b5 b7 lo x xv dv d (l++zS w ns) X H':=by
 obtain ⟨wf,fr,row,⟨wv,hx,hdis⟩,hk⟩:=hp
 have nx:=fr.next
 obtain ⟨H',wv',e,hx',wf',fr',hb'⟩:=Nh hC wf (by rw [fr.base];exact hbase) (by omega) (by rw [fr.base];exact hb5) hx h0 h3 hns hl hn0
 refine ⟨H',e,wf',fr.trans fr' fun k hk h=>?_,?_,⟨wv',hx',fun c hc=>?_⟩,fun c hc=>?_⟩
 · rcases h with h|h
   · exact .inl h
   · exact .inr (hx.wb wf h).2.2
 · rw [fr'.at_ b7 (by omega) (fun h=>by rcases h with h|h;exact h57 h;exact (hdis _ h).2 rfl)];exact row
 · rcases hb' c hc with h|h
   · exact hdis c h
   · exact ⟨fun h'=>by have:=(hd c h').1;omega,by omega⟩
 · rw [fr'.at_ c (by have:=(hd c hc).1;omega) (fun h=>by rcases h with h|h;exact (hd c hc).2 h;exact (hdis _ h).1 hc)]
   exact hk c hc
theorem aKW {call:Call} (hC:Xp call) {ov:Value} {ops:List eJ} {b5 lo n m:Nat} {h:Hp} {P:Nat→Prop} (hw:Wf h) (hp:kF.Ok n m ops) (ho:gD h ov ops P) (hb5:h.next≤b5∧b5<lo) {tm:T Value} {df:Df} {H:Hp} (hst:PlS ov ops b5 lo h 0 tm df H) :
 bC (iP (.loop lE) call tm df H) (fun ex tm df H=>ex=.exit 0∧PlS ov ops b5 lo h ops.length tm df H):=by
 have hnum:=hp.num
 have hmm:=hp.m
 refine cT (n:=ops.length) (by omega) (PlS ov ops b5 lo h) (fun i tm df H hi hI=>?_) (fun tm df H hI=>?_) hst
 · obtain ⟨rfl,t5,t11,t12,t13,wf,fr,hlo,⟨wv,dv,t4,hwx,hout,hdis⟩⟩:=hI
   obtain ⟨x,hx⟩:∃ x,ops[i]?=some x:=⟨ops[i],List.getElem?_eq_getElem hi⟩
   have hrt:=hp.rt x (List.mem_of_getElem? hx)
   have hok:=hrt.ok
   obtain ⟨b,o,c,cc,mm,e,cl,ro,xv,rfl,hat0,hmm',hld,hxv⟩:=ho.at_ hx
   have hat:H.at b=some (.row cc mm e cl ro):=by rw [fr.at_ b (hw.lt hat0) fun h=>h];exact hat0
   have hxvH:=hxv.gV hw fr fun _ h=>h.elim
   have hwb:=hw.base
   have nx:=fr.next
   have hcl:=qT (ops.take i)
   have htl:(ops.take i).length=i:=by rw [List.length_take];omega
   have hdl:=qU (ops.take i) fun y hy=>hp.rt y (List.mem_of_mem_take hy)
   have hdl2:=zT hx
   have hout':=hp.out
   have e1:Nat.blt i ops.length=true:=bU hi
   have e2:Nat.ble (o+i*5+5) mm=true:=cX hmm'
   have e3:=s6 (k:=x.kind) (f:=x.from_) (l:=x.len) (b:=x.b) hxv
   have w1:aR .i64 (.ofNat (i+1))=.ofNat (i+1):=bF (by omega)
   obtain ⟨X,hX,wX,fX,aX,nX⟩:=eP wf M3 (fW x.kind x.from_ x.len x.b xv) 5 68
   have hb5l:=hwx.lt wf
   have hWBd:∀ c,WB dv (dF (ops.take i)) c→c<H.next∧lo≤c:=fun c hc=>⟨hout.sl.lt wf hc.1 hc.2,hout.fE hc.1 hc.2⟩
   have hWBw:∀ c,WB wv (dB (ops.take i)) c→c<H.next:=fun c hc=>(hwx.wb wf hc).1
   have hwxX:Wx X b5 lo wv (dB (ops.take i)):=hwx.bT (fX.at_ _ hb5l fun h=>h) fun c hc=>fX.at_ c (hWBw c hc) fun h=>h
   have bX:X.base=h.base:=by rw [fX.base,fr.base]
   have P0:PlW b5 H.next lo x xv dv (dF (ops.take i)) (dB (ops.take i)) X X:=⟨wX,Fr.refl _ _,rfl,⟨wv,hwxX,fun c hc=>⟨hdis c hc,by have:=hWBw c hc;omega⟩⟩,fun _ _=>rfl⟩
   have hd':∀ c,WB dv (dF (ops.take i)) c→c<X.next∧c≠b5:=fun c hc=>by have:=hWBd c hc;omega
   have hk16:x.kind<16777216:=by rcases hrt.k with h|h|h|h<;>omega
   obtain ⟨H2,c2,P2⟩:=zX hC wX (by omega) (by omega) (by omega) (by omega) (by omega) hd' P0 (w:=1) (ns:=[x.kind]) (by omega) (by omega) (fun y hy=>by rw [List.mem_singleton] at hy;omega) (by simp;omega) (by simp)
   rw [Jm] at P2
   have c2':call 48 [bE b5 0,A0 1,cB X.next 0 1 1] (X.new (aT [A0 x.kind] 1 3 true))=.val (.tuple ⟨[]⟩) H2:=c2
   rw [nX] at c2'
   have a2:H2.at H.next=some (.row (aL (fW x.kind x.from_ x.len x.b xv) 0 (aL M3 0 .nil fun t=>t) fun t=>t) 5 68 true false):=by rw [P2.row];exact aX
   have hl2:(dB (ops.take i)++be 1 x.kind).length≤7*i+1:=by rw [List.length_append,fD];omega
   have fin:∀ (Y:Hp) (code:List Nat),PlW b5 H.next lo x xv dv (dF (ops.take i)) (dB (ops.take i)++code) X Y→code=x.code→∃ dv' H',mQ 5 1 dv xv Y=.val dv' H'∧bY [dv']=true∧∀ tm',tm'.get [true,false]=some (bE b5 0)→tm'.get [true,true,false]=some (cB b o ops.length c)→tm'.get [false,true,false]=some (A0 ops.length)→tm'.get [true,false,false]=some (A0 (i+1))→tm'.get [false,true]=some dv'→PlS (cB b o ops.length c) ops b5 lo h (i+1) tm' [] H':=by
    intro Y code hY hcode
    obtain ⟨wY,fY,rY,⟨wv',hwx',hdis'⟩,hkd⟩:=hY
    have nY:=fY.next
    have hxvY:Sl 1 Y xv x.data.length (dR x.data):=hxv.bT fun c h0 hc=>by
     have h1:=hxv.lt hw h0 hc
     rw [fY.at_ c (by omega) (fun h=>by omega),fX.at_ c (by omega) fun h=>h,fr.at_ c h1 fun h=>h]
    have houtY:Out 5 1 (fun c=>lo≤c) Y dv (dF (ops.take i)).length (dR (dF (ops.take i))):=hout.Py wf fun c h0 hc hP hlt=>⟨hP,by rw [hkd c ⟨h0,hc⟩,fX.at_ c hlt fun h=>h]⟩
    obtain ⟨dv',H',ea,ho2,w2,n2,f2,hb2,hone⟩:=zW (e:=5) wY houtY hxvY (jJ _) (by have:=hok.d;omega) (fun c hc=>by rw [fY.base,bX];omega) (by omega)
    refine ⟨dv',H',ea,hone,fun tm' q5 q11 q12 q13 q4=>⟨rfl,q5,q11,q12,q13,w2,?_,by omega,wv',dv',q4,?_,?_,?_⟩⟩
    · refine ((fr.trans fX fun _ _ h=>h).trans fY fun k hk h=>?_).trans f2 fun k hk h=>?_
      · rcases h with h|h<;>omega
      · have:=(hWBd k h).2;omega
    · have ec:dB (ops.take (i+1))=dB (ops.take i)++code:=by rw [qC hx,Bm,hcode]
      rw [ec]
      refine hwx'.bT (f2.at_ _ (hwx'.lt wY) fun h=>(hd' _ h).2 rfl) fun c hc=>f2.at_ c (hwx'.wb wY hc).1 fun h=>(hdis' c hc).1 h
    · rw [qC hx,Bn,List.length_append,lO]
      exact ho2
    · have ec:dB (ops.take (i+1))=dB (ops.take i)++code:=by rw [qC hx,Bm,hcode]
      rw [ec,qC hx,Bn]
      intro c hc hd2
      have h1:=hwx'.wb wY hc
      rcases hb2 c (by have h0:=hd2.1;rw [List.length_append] at h0;exact h0) hd2.2 with h|h
      · exact (hdis' c hc).1 h
      · omega
   unfold fW at hld e3 hX aX a2
   rcases hrt.k with hk|hk|hk|hk
   · obtain ⟨H3,c3,P3⟩:=zX hC wX (by omega) (by omega) (by omega) (by omega) (by omega) hd' P2 (w:=3) (ns:=[x.from_,x.len]) (by omega) (by omega) (fun y hy=>by rcases List.mem_cons.1 hy with h|h;exact h ▸ hok.f;rw [List.mem_singleton] at h;exact h ▸ hok.l) (by show _+3*2≤_;omega) (by simp)
     rw [Ts,List.append_assoc] at P3
     obtain ⟨dv',H',ea,hone,hgo⟩:=fin H3 _ P3 (by unfold eJ.code;rw [if_neg (by omega),if_neg (by omega)])
     have c3':call 48 [bE b5 0,A0 3,cB H2.next 0 2 2] (H2.new (aT [A0 x.from_,A0 x.len] 2 3 true))=.val (.tuple ⟨[]⟩) H3:=c3
     have a3:H3.at H.next=some (.row (aL [A0 x.kind,A0 x.from_,A0 x.len,A1 x.b,xv] 0 (aL M3 0 .nil fun t=>t) fun t=>t) 5 68 true false):=by rw [P3.row];exact aX
     rw [hk] at hld e3 hX aX a2 a3 c2'
     unfold lE
     simp only [↓aQ,NV,reduceCtorEq,ev2,oS,t5,t11,t12,t13,t4,e1,e2,e3,w1,hat,hld,hX,aX,nX,c2',a2,c3',a3,gE,ea]
     exact .go (hgo _ (by simp [t5]) (by simp [t11]) (by simp [t12]) (by simp) (by simp))
   · obtain ⟨H3,c3,P3⟩:=zX hC wX (by omega) (by omega) (by omega) (by omega) (by omega) hd' P2 (w:=3) (ns:=[x.from_,x.len]) (by omega) (by omega) (fun y hy=>by rcases List.mem_cons.1 hy with h|h;exact h ▸ hok.f;rw [List.mem_singleton] at h;exact h ▸ hok.l) (by show _+3*2≤_;omega) (by simp)
     rw [Ts,List.append_assoc] at P3
     obtain ⟨dv',H',ea,hone,hgo⟩:=fin H3 _ P3 (by unfold eJ.code;rw [if_neg (by omega),if_neg (by omega)])
     have c3':call 48 [bE b5 0,A0 3,cB H2.next 0 2 2] (H2.new (aT [A0 x.from_,A0 x.len] 2 3 true))=.val (.tuple ⟨[]⟩) H3:=c3
     have a3:H3.at H.next=some (.row (aL [A0 x.kind,A0 x.from_,A0 x.len,A1 x.b,xv] 0 (aL M3 0 .nil fun t=>t) fun t=>t) 5 68 true false):=by rw [P3.row];exact aX
     have n1:Nat.beq 2 1=false:=rfl
     rw [hk] at hld e3 hX aX a2 a3 c2'
     unfold lE
     simp only [↓aQ,NV,reduceCtorEq,ev2,oS,t5,t11,t12,t13,t4,e1,e2,e3,w1,n1,hat,hld,hX,aX,nX,c2',a2,c3',a3,gE,ea]
     exact .go (hgo _ (by simp [t5]) (by simp [t11]) (by simp [t12]) (by simp) (by simp))
   · obtain ⟨H3,c3,P3⟩:=zX hC wX (by omega) (by omega) (by omega) (by omega) (by omega) hd' P2 (w:=3) (ns:=[x.len]) (by omega) (by omega) (fun y hy=>by rw [List.mem_singleton] at hy;exact hy ▸ hok.l) (by show _+3*1≤_;omega) (by simp)
     rw [Jm] at P3
     obtain ⟨H4,c4,P4⟩:=zX hC wX (by omega) (by omega) (by omega) (by omega) (by omega) hd' P3 (w:=1) (ns:=[x.b]) (by omega) (by omega) (fun y hy=>by rw [List.mem_singleton] at hy;have:=hok.b;omega) (by rw [List.length_append,fD];show _+3*1≤_;omega) (by simp)
     rw [Jm,List.append_assoc,List.append_assoc] at P4
     obtain ⟨dv',H',ea,hone,hgo⟩:=fin H4 _ P4 (by unfold eJ.code;rw [if_pos hk])
     have c3':call 48 [bE b5 0,A0 3,cB H2.next 0 1 1] (H2.new (aT [A0 x.len] 1 3 true))=.val (.tuple ⟨[]⟩) H3:=c3
     have c4':call 48 [bE b5 0,A0 1,cB H3.next 0 1 1] (H3.new (aT [A0 x.b] 1 3 true))=.val (.tuple ⟨[]⟩) H4:=c4
     have a3:H3.at H.next=some (.row (aL [A0 x.kind,A0 x.from_,A0 x.len,A1 x.b,xv] 0 (aL M3 0 .nil fun t=>t) fun t=>t) 5 68 true false):=by rw [P3.row];exact aX
     have a4:H4.at H.next=some (.row (aL [A0 x.kind,A0 x.from_,A0 x.len,A1 x.b,xv] 0 (aL M3 0 .nil fun t=>t) fun t=>t) 5 68 true false):=by rw [P4.row];exact aX
     have n1:Nat.beq 3 1=false:=rfl
     have n2:Nat.beq 3 2=false:=rfl
     have w2:aR .i64 (.ofNat x.b)=.ofNat x.b:=bF (by have:=hok.b;omega)
     rw [hk] at hld e3 hX aX a2 a3 a4 c2'
     unfold lE
     simp only [↓aQ,NV,reduceCtorEq,oS,t5,t11,t12,t13,t4,e1,e2,e3,w1,w2,n1,n2,hat,hld,hX,aX,nX,c2',a2,c3',a3,c4',a4,gE,ea]
     exact .go (hgo _ (by simp [t5]) (by simp [t11]) (by simp [t12]) (by simp) (by simp))
   · obtain ⟨H3,c3,P3⟩:=zX hC wX (by omega) (by omega) (by omega) (by omega) (by omega) hd' P2 (w:=3) (ns:=[x.len]) (by omega) (by omega) (fun y hy=>by rw [List.mem_singleton] at hy;exact hy ▸ hok.l) (by show _+3*1≤_;omega) (by simp)
     rw [Jm,List.append_assoc] at P3
     obtain ⟨dv',H',ea,hone,hgo⟩:=fin H3 _ P3 (by unfold eJ.code;rw [if_neg (by omega),if_pos hk])
     have c3':call 48 [bE b5 0,A0 3,cB H2.next 0 1 1] (H2.new (aT [A0 x.len] 1 3 true))=.val (.tuple ⟨[]⟩) H3:=c3
     have a3:H3.at H.next=some (.row (aL [A0 x.kind,A0 x.from_,A0 x.len,A1 x.b,xv] 0 (aL M3 0 .nil fun t=>t) fun t=>t) 5 68 true false):=by rw [P3.row];exact aX
     have n1:Nat.beq 4 1=false:=rfl
     have n2:Nat.beq 4 2=false:=rfl
     have n3:Nat.beq 4 3=false:=rfl
     rw [hk] at hld e3 hX aX a2 a3 c2'
     unfold lE
     simp only [↓aQ,NV,reduceCtorEq,oS,t5,t11,t12,t13,t4,e1,e2,e3,w1,n1,n2,n3,hat,hld,hX,aX,nX,c2',a2,c3',a3,gE,ea]
     exact .go (hgo _ (by simp [t5]) (by simp [t11]) (by simp [t12]) (by simp) (by simp))
 · obtain ⟨rfl,t5,t11,t12,t13,wf,fr,hlo,⟨wv,dv,t4,h1⟩⟩:=hI
   have e1:Nat.blt ops.length ops.length=false:=cI (Nat.le_refl _)
   unfold lE
   simp only [↓aQ,NV,reduceCtorEq,t12,t13,e1]
   exact .ex ⟨rfl,rfl,by simp [t5],by simp [t11],by simp [t12],by simp [t13],wf,fr,hlo,⟨wv,dv,by simp [t4],h1⟩⟩
def aKX (ops:List eJ) (h:Hp) (r:Value) (H:Hp):Prop:=∃ v1 v2,r=.tuple ⟨[v1,v2]⟩∧Sl 1 H v1 (dB ops).length (dR (dB ops))∧Sl 1 H v2 (dF ops).length (dR (dF ops))∧Wf H∧Fr (fun _=>False) h H
theorem aGa {call:Call} {cd:cE} (hC:Xp call) {h:Hp} {n m:Nat} {ops:List eJ} {ov:Value} {P:Nat→Prop} {li:Bool} (hw:Wf h) (hp:kF.Ok n m ops) (ho:gD h ov ops P) :
 Yields (dD Lw call cd [.agg ⟨cQ li n m ov⟩] h) (aKX ops h):=by
 have hl:=ho.len
 have hwb:=hw.base
 refine aP rfl ?_
 simp only [↓aQ,NV,reduceCtorEq,pQ,cQ,dQ,gM,hl]
 obtain ⟨h2,hh2⟩:∃ h2,(h.new (aT [.bool li,A0 n,A0 m,ov] 4 30 true)).new (aT [.slice none 0 0] 1 126 true)=h2:=⟨_,rfl⟩
 have w2:Wf h2:=by rw [← hh2];exact (hw.new _).new _
 have f2:Fr (fun _=>False) h h2:=by rw [← hh2];exact (Fr.new _).dE _
 have n2:h2.next=h.next+2:=by rw [← hh2];rfl
 have a5:h2.at (h.next+1)=some (aT [.slice none 0 0] 1 126 true):=by rw [← hh2,aM,aF,if_pos rfl]
 have hwx0:Wx h2 (h.next+1) (h.next+2) (.slice none 0 0) []:=⟨⟨_,_,_,a5,by rw [bM,if_pos ⟨Nat.le_refl _,by simp⟩];rfl⟩,Out.nil⟩
 refine bC.lp (id:=0) (P:=PlS ov ops (h.next+1) (h.next+2) h ops.length) (aKW hC hw hp ho ⟨by omega,by omega⟩ ?_) ?_
 · simp only [hh2]
   exact ⟨rfl,by simp,by simp,by simp,by simp,w2,f2,by omega,_,_,by simp<;>rfl,hwx0,Out.nil,fun c hc=>absurd hc.1 (by show ¬ 0<0;omega)⟩
 rintro tm df H ⟨rfl,t5,t11,t12,t13,wf,fr,hlo,⟨wv,dv,t4,⟨⟨c,e,cl,hat,hc⟩,hout⟩,hout2,hdis⟩⟩
 rw [List.take_length] at hout hout2
 have k1:Nat.blt 0 1=true:=rfl
 have k2:Nat.blt (0+0) 1=true:=rfl
 have hc':c.get (path (0+0))=some wv:=hc
 simp only [↓aQ,NV,reduceCtorEq,t4,t5,dI,dJ,hat,hc,hc',k1,k2]
 refine .ret ?_
 simp only [↓aQ,NV,reduceCtorEq,iO]
 exact ⟨wv,dv,rfl,hout.sl,hout2.sl,wf,fr⟩
def aKY (call:Call):Prop:=∀ h n m ops ov P li,Wf h→kF.Ok n m ops→gD h ov ops P→Yields (call 55 [.agg ⟨cQ li n m ov⟩] h) (aKX ops h)
def xK (n m:Nat) (ops:List eJ):List Nat:=be 1 80++be 1 0++(be 3 n++be 3 m)++be 2 ops.length++(be 3 (dB ops).length++be 3 (Rc.enc (cU 1) (dB ops)).length++be 3 (dF ops).length++be 3 (Rc.enc (cU 2) (dF ops)).length)
def gK (n m:Nat) (ops:List eJ):List Nat:=xK n m ops++Rc.enc (cU 1) (dB ops)++Rc.enc (cU 2) (dF ops)
def gF (n m:Nat) (ops:List eJ):List Nat:=gK n m ops++Ag (gK n m ops)
theorem Gy (n m:Nat) (ops:List eJ):(xK n m ops).length=22:=by
 unfold xK
 simp only [List.length_append,fD]
theorem s9 {n:Nat} {text:List Nat}:(Rc.enc (cU n) text).length≤4*text.length+4:=by
 refine Nat.le_trans (Rc.Px _) ?_
 rw [Rc.iK]
 have:=Rc.aFN (cU n) text
 omega
theorem uS (l:List Nat):(Ag l).length=4:=by unfold Ag;rw [vT];rfl
theorem qN (w n:Nat):∀ x∈be w n,x<256:=by
 induction w with
 | zero=>intro x hx;cases hx
 | succ w ih =>
  intro x hx
  rcases List.mem_cons.1 hx with h|h
  · rw [h];exact Nat.mod_lt _ (by decide)
  · exact ih x h
theorem aGb {o:eJ}:∀ x∈o.code,x<256:=by
 intro x hx
 unfold eJ.code at hx
 rcases List.mem_append.1 hx with h|h
 · exact qN _ _ x h
 split at h
 · rcases List.mem_append.1 h with h|h
   · exact qN _ _ x h
   · exact qN _ _ x h
 split at h
 · exact qN _ _ x h
 · rcases List.mem_append.1 h with h|h
   · exact qN _ _ x h
   · exact qN _ _ x h
theorem wS (l:List eJ):∀ x∈dB l,x<256:=by
 intro x hx
 obtain ⟨o,_,h⟩:=List.mem_flatMap.1 hx
 exact aGb x h
theorem wT {n:Nat} {l:List eJ} (hl:∀ o∈l,o.Rt n):∀ x∈dF l,x<256:=by
 intro x hx
 obtain ⟨o,ho,h⟩:=List.mem_flatMap.1 hx
 exact (hl o ho).ok.byte x h
theorem aB0 (n m:Nat) (ops:List eJ):∀ x∈xK n m ops,x<256:=by
 intro x hx
 unfold xK at hx
 simp only [List.mem_append] at hx
 rcases hx with (((h|h)|(h|h))|h)|(((h|h)|h)|h)<;>exact qN _ _ x h
theorem wV (n m:Nat) (ops:List eJ):∀ x∈gK n m ops,x<256:=by
 intro x hx
 unfold gK at hx
 simp only [List.mem_append] at hx
 rcases hx with (h|h)|h
 · exact aB0 _ _ _ x h
 · exact Rc.Eh _ _ x h
 · exact Rc.Eh _ _ x h
def aVU (call:Call) (n:Nat):Prop:=∀ H tv text,Wf H→Sl 1 H tv text.length (dR text)→text.length≤1000→(∀ x∈text,x<256)→Yields (call 56 [A0 n,tv] H) (aJZ n text H)
def aKZ (call:Call):Prop:=∀ H v l,Wf H→Sl 1 H v l.length (dR l)→l.length≤100000→(∀ x∈l,x<256)→Yields (call 27 [v] H) (aQT l H)
def aEi (n m:Nat) (ops:List eJ) (h:Hp) (r:Value) (H:Hp):Prop:=∃ v,r=.tuple ⟨[v,A0 0]⟩∧RO H v (gF n m ops)∧(∀ c,gY v c→h.next≤c∧c<H.next)∧Wf H∧Fr (fun _=>False) h H
theorem Out.ro {P:Nat→Prop} {h:Hp} {v:Value} {xs:List Nat} (ho:Out 5 1 P h v xs.length (dR xs)) (h0:0<xs.length) (h1:xs.length<1000000):RO h v xs:=by
 obtain ⟨hl,hone,⟨hn,_⟩|⟨b,rfl,_,hown,_⟩⟩:=ho
 · omega
 · exact ⟨b,0,rfl,h0,h1,hown.has⟩
theorem aK0 {call:Call} {cd:cE} (hch:aBQ call) (hpl:aKY call) (hE1:aVU call 1) (hE2:aVU call 2) (hN:Xp call) (hps:aKZ call) {h:Hp} {n m:Nat} {ops:List eJ} {ov:Value} {P:Nat→Prop} (hw:Wf h) (hp:kF.Ok n m ops) (ho:gD h ov ops P) :
 Yields (dD Su call cd [.agg ⟨cQ false n m ov⟩] h) (aEi n m ops h):=by
 have hl:=ho.len
 have hwb:=hw.base
 have hnum:=hp.num
 have hn:=hp.n
 have hm:=hp.m
 have hcl:=qT ops
 have hdl:=qU ops hp.rt
 have hout0:=hp.out
 have hw1:Wf (h.new (aT (cQ false n m ov) 4 30 true)):=hw.new _
 have f1:Fr (fun _=>False) h (h.new (aT (cQ false n m ov) 4 30 true)):=Fr.new _
 have a1:(h.new (aT (cQ false n m ov) 4 30 true)).at h.next=some (aT (cQ false n m ov) 4 30 true):=by rw [aM,if_pos rfl]
 have n1:(h.new (aT (cQ false n m ov) 4 30 true)).next=h.next+1:=rfl
 have ho1:=ho.eH hw f1
 have e0:=hch _ n m ops ov P false hw1 hp ho1
 obtain ⟨r,H1,e1,v1,v2,rfl,s1,s2,w1,fr1⟩:=(hpl _ n m ops ov P false hw1 hp ho1).get
 obtain ⟨r,H2,e2,va,rfl,sa,ba,w2,fr2⟩:=(hE1 H1 v1 (dB ops) w1 s1 (by omega) (wS ops)).get
 have s2':=s2.gV w1 fr2 fun _ h=>h.elim
 obtain ⟨r,H3,e3,vb,rfl,sb,bb,w3,fr3⟩:=(hE2 H2 v2 (dF ops) w2 s2' (by omega) (wT hp.rt)).get
 have nx1:=fr1.next
 have nx2:=fr2.next
 have nx3:=fr3.next
 rw [n1] at nx1
 have f13:Fr (fun _=>False) h H3:=((f1.trans fr1 fun _ _ h=>h).trans fr2 fun _ _ h=>h).trans fr3 fun _ _ h=>h
 have a11:H1.at h.next=some (aT (cQ false n m ov) 4 30 true):=by rw [fr1.at_ _ (by rw [n1];omega) fun h=>h];exact a1
 have a13:H3.at h.next=some (aT (cQ false n m ov) 4 30 true):=by rw [fr3.at_ _ (by omega) fun h=>h,fr2.at_ _ (by omega) fun h=>h];exact a11
 have l1:=s1.len
 have l2:=s2.len
 have la:=sa.len
 have lb:=sb.len
 have hla:(Rc.enc (cU 1) (dB ops)).length≤4*(dB ops).length+4:=s9
 have hlb:(Rc.enc (cU 2) (dF ops)).length≤4*(dF ops).length+4:=s9
 have hbbyte:=wV n m ops
 have hhl:=Gy n m ops
 generalize hA:Rc.enc (cU 1) (dB ops)=A at *
 generalize hB:Rc.enc (cU 2) (dF ops)=B at *
 obtain ⟨K,hK⟩:∃ K,H3.new (aT [.slice none 0 0] 1 126 true)=K:=⟨_,rfl⟩
 have wK:Wf K:=by rw [← hK];exact w3.new _
 have fK:Fr (fun _=>False) H3 K:=by rw [← hK];exact Fr.new _
 have nK:K.next=H3.next+1:=by rw [← hK];rfl
 have bK:K.base=h.base:=by rw [fK.base,f13.base]
 have hx0:Wx K H3.next (H3.next+1) (.slice none 0 0) []:=⟨⟨_,_,_,by rw [← hK,aM,if_pos rfl];rfl,by rw [bM,if_pos ⟨Nat.le_refl _,by simp⟩];rfl⟩,Out.nil⟩
 obtain ⟨K1,o1,c1,x1,wK1,fK1,_⟩:=Nh hN (w:=1) (ns:=[80,0]) wK (by omega) (by omega) (by omega) hx0 (by omega) (by omega) (by intro x hx;simp only [List.mem_cons,List.not_mem_nil,or_false] at hx;rcases hx with rfl|rfl<;>decide) (by simp) (by simp)
 have nK1:=fK1.next
 have bK1:K1.base=h.base:=by rw [fK1.base,bK]
 obtain ⟨K2,o2,c2,x2,wK2,fK2,_⟩:=Nh hN (w:=3) (ns:=[n,m]) wK1 (by omega) (by omega) (by omega) x1 (by omega) (by omega) (by intro x hx;simp only [List.mem_cons,List.not_mem_nil,or_false] at hx;rcases hx with rfl|rfl<;>omega) (by simp [vT]) (by simp)
 have nK2:=fK2.next
 have bK2:K2.base=h.base:=by rw [fK2.base,bK1]
 obtain ⟨K3,o3,c3,x3,wK3,fK3,_⟩:=Nh hN (w:=2) (ns:=[ops.length]) wK2 (by omega) (by omega) (by omega) x2 (by omega) (by omega) (by intro x hx;rw [List.mem_singleton] at hx;omega) (by simp [vT]) (by simp)
 have nK3:=fK3.next
 have bK3:K3.base=h.base:=by rw [fK3.base,bK2]
 obtain ⟨K4,o4,c4,x4,wK4,fK4,_⟩:=Nh hN (w:=3) (ns:=[(dB ops).length,A.length,(dF ops).length,B.length]) wK3 (by omega) (by omega) (by omega) x3 (by omega) (by omega) (by intro x hx;simp only [List.mem_cons,List.not_mem_nil,or_false] at hx;rcases hx with rfl|rfl|rfl|rfl<;>omega) (by simp [vT]) (by simp)
 have nK4:=fK4.next
 have bK4:K4.base=h.base:=by rw [fK4.base,bK3]
 have hhead:[]++zS 1 [80,0]++zS 3 [n,m]++zS 2 [ops.length]++zS 3 [(dB ops).length,A.length,(dF ops).length,B.length]=xK n m ops:=by
  unfold xK
  rw [hA,hB]
  simp [zS]
 rw [hhead] at x4
 have old1:∀ c,c≤H3.next→c≠H3.next→K1.at c=K.at c:=fun c h1 h2=>fK1.at_ c (by omega) fun h=>by
  rcases h with h|h
  · exact h2 h
  · have:=(hx0.wb wK h).2.2;omega
 have old2:∀ c,c≤H3.next→c≠H3.next→K2.at c=K.at c:=fun c h1 h2=>by
  rw [fK2.at_ c (by omega) fun h=>by
   rcases h with h|h
   · exact h2 h
   · have:=(x1.wb wK1 h).2.2;omega]
  exact old1 c h1 h2
 have old3:∀ c,c≤H3.next→c≠H3.next→K3.at c=K.at c:=fun c h1 h2=>by
  rw [fK3.at_ c (by omega) fun h=>by
   rcases h with h|h
   · exact h2 h
   · have:=(x2.wb wK2 h).2.2;omega]
  exact old2 c h1 h2
 have old4:∀ c,c≤H3.next→c≠H3.next→K4.at c=K.at c:=fun c h1 h2=>by
  rw [fK4.at_ c (by omega) fun h=>by
   rcases h with h|h
   · exact h2 h
   · have:=(x3.wb wK3 h).2.2;omega]
  exact old3 c h1 h2
 have oldK:∀ c,c<H3.next→K.at c=H3.at c:=fun c hc=>fK.at_ c hc fun h=>h
 have aK:K.at h.next=some (aT (cQ false n m ov) 4 30 true):=by rw [oldK _ (by omega)];exact a13
 have aK1:K1.at h.next=some (aT (cQ false n m ov) 4 30 true):=by rw [old1 _ (by omega) (by omega)];exact aK
 have aK2:K2.at h.next=some (aT (cQ false n m ov) 4 30 true):=by rw [old2 _ (by omega) (by omega)];exact aK
 have aK3:K3.at h.next=some (aT (cQ false n m ov) 4 30 true):=by rw [old3 _ (by omega) (by omega)];exact aK
 obtain ⟨⟨cw,ew,clw,hatw,hcw⟩,hout4⟩:=x4
 have hcw':cw.get (path (0+0))=some o4:=hcw
 have sa4:Sl 1 K4 va A.length (dR A):=sa.bT fun c h0 hc=>by
  have h1:=(ba c hc).2
  rw [old4 c (by omega) (by omega),oldK c (by omega),fr3.at_ c h1 fun h=>h]
 have sb4:Sl 1 K4 vb B.length (dR B):=sb.bT fun c h0 hc=>by
  have h1:=(bb c hc).2
  rw [old4 c (by omega) (by omega),oldK c h1]
 have hP:∀ c,c≠H3.next∧H3.next+1≤c→h.base≤c:=fun c hc=>by omega
 obtain ⟨p1,L1,ea1,oA,wL1,nL1,fL1,bL1,_⟩:=zW (e:=5) wK4 hout4 sa4 (jJ _) (by omega) (fun c hc=>by rw [bK4];exact hP c hc) ⟨by omega,by omega⟩
 have sb5:Sl 1 L1 vb B.length (dR B):=sb4.bT fun c h0 hc=>fL1.at_ c (sb4.lt wK4 h0 hc) fun h=>by
  have h1:=(hout4.fE h.1 h.2).2
  have h2:=(bb c hc).2
  omega
 rw [← lO,← List.length_append] at oA
 obtain ⟨p2,L2,ea2,oB,wL2,nL2,fL2,bL2,_⟩:=zW (e:=5) wL1 oA sb5 (jJ _) (by rw [List.length_append];omega) (fun c hc=>by rw [fL1.base,bK4];exact hP c hc) ⟨by omega,by omega⟩
 rw [← lO,← List.length_append] at oB
 have hbody:xK n m ops++A++B=gK n m ops:=by unfold gK;rw [hA,hB]
 rw [hbody] at oB
 have hbl:(gK n m ops).length≤5000:=by rw [← hbody,List.length_append,List.length_append];omega
 have hbp:22≤(gK n m ops).length:=by rw [← hbody,List.length_append,List.length_append];omega
 obtain ⟨r,L3,e5,s5,b5,wL3,fL3⟩:=(hps L2 p2 (gK n m ops) wL2 oB.sl (by omega) hbbyte).get
 have nL3:=fL3.next
 have oB3:Out 5 1 (fun c=>c≠H3.next∧H3.next+1≤c) L3 p2 (gK n m ops).length (dR (gK n m ops)):=oB.Py wL2 fun c _ _ hc hlt=>⟨hc,fL3.at_ c hlt fun h=>h⟩
 obtain ⟨p3,L4,ea3,oC,wL4,nL4,fL4,bL4,_⟩:=zW (e:=5) wL3 oB3 s5 (jJ _) (by omega) (fun c hc=>by rw [fL3.base,fL2.base,fL1.base,bK4];exact hP c hc) ⟨by omega,by omega⟩
 have e4:(gK n m ops).length+4=(gF n m ops).length:=by unfold gF;rw [List.length_append,uS]
 rw [← lO,e4] at oC
 have hpk:gK n m ops++Ag (gK n m ops)=gF n m ops:=rfl
 rw [hpk] at oC
 have c1':call 48 [bE H3.next 0,A0 1,cB K.next 0 2 2] (K.new (aT [A0 80,A0 0] 2 3 true))=.val (.tuple ⟨[]⟩) K1:=c1
 have c2':call 48 [bE H3.next 0,A0 3,cB K1.next 0 2 2] (K1.new (aT [A0 n,A0 m] 2 3 true))=.val (.tuple ⟨[]⟩) K2:=c2
 have c3':call 48 [bE H3.next 0,A0 2,cB K2.next 0 1 1] (K2.new (aT [A0 ops.length] 1 3 true))=.val (.tuple ⟨[]⟩) K3:=c3
 have c4':call 48 [bE H3.next 0,A0 3,cB K3.next 0 4 4] (K3.new (aT [A0 ((dB ops).length),A0 A.length,A0 ((dF ops).length),A0 B.length] 4 3 true))=.val (.tuple ⟨[]⟩) K4:=c4
 rw [nK] at c1'
 have k1:Nat.blt 0 1=true:=rfl
 have k2:Nat.blt (0+0) 1=true:=rfl
 unfold cQ at e0 e1 a1 a11 a13 aK aK1 aK2 aK3
 refine aP rfl ?_
 simp only [↓aQ,NV,reduceCtorEq,ev2,pQ,cQ,dQ,gM,e0,iX,nW,oD,e1,e2,e3,a1,a11,a13,Mc,hK,nK,c1',aK,aK1,c2',aK2,hl,c3',aK3,l1,l2,la,lb,c4',dI,dJ,hatw,hcw,hcw',k1,k2,gE,ea1,ea2,e5,ea3]
 refine .ret ?_
 simp only [↓aQ,NV,reduceCtorEq,iO]
 have hfin:∀ c,0<(gK n m ops).length+4→gY p3 c→H3.next+1≤c:=fun c h0 hc=>by
  rw [e4] at h0
  exact (oC.fE h0 hc).2
 refine ⟨p3,rfl,oC.ro (by omega) (by omega),fun c hc=>⟨by have:=hfin c (by omega) hc;omega,oC.sl.lt wL4 (by omega) hc⟩,wL4,?_⟩
 have g1:Fr (fun c=>H3.next≤c) K K4:=(((fK1.mono (Q:=fun c=>H3.next≤c) fun k _ h=>by
  rcases h with h|h
  · omega
  · have:=(hx0.wb wK h).2.2;omega).trans fK2 fun k _ h=>by
  rcases h with h|h
  · omega
  · have:=(x1.wb wK1 h).2.2;omega).trans fK3 fun k _ h=>by
  rcases h with h|h
  · omega
  · have:=(x2.wb wK2 h).2.2;omega).trans fK4 fun k _ h=>by
  rcases h with h|h
  · omega
  · have:=(x3.wb wK3 h).2.2;omega
 have g2:Fr (fun c=>H3.next≤c) K4 L4:=(((fL1.mono (Q:=fun c=>H3.next≤c) fun k _ h=>by have:=(hout4.fE h.1 h.2).2;omega).trans fL2 fun k _ h=>by have:=(oA.fE h.1 h.2).2;omega).trans fL3 fun k _ h=>h.elim).trans fL4 fun k _ h=>by have:=(oB3.fE h.1 h.2).2;omega
 exact ((f13.trans fK fun _ _ h=>h).trans g1 fun k hk h=>by have:=f13.next;omega).trans g2 fun k hk h=>by have:=f13.next;omega
def aK4 (call:Call):Prop:=∀ h n m ops ov P,Wf h→kF.Ok n m ops→gD h ov ops P→Yields (call 29 [.agg ⟨cQ false n m ov⟩] h) (aEi n m ops h)
theorem aK5 (f:OD) (l:List OD) (r:CL) (call:Call) (lo:List Value) (tm:T Value) (df:Df) (h:Hp):oV (.dfr f l r) call lo tm df h=vFn (bW f lo tm) (fun g first cap=>oV r call (undef::lo) tm ((g,first++(Co l lo tm++cap))::df) h) .none:=rfl
def aVV (cd:cE) (rs:List CR) (g:FuncId) (a:List Value) (φ:Value→Hp→Prop) (e:Ex) (tm:T Value) (df:Df) (h:Hp):Prop:=(e=.normal∨e=.ret)∧df=[(g,a)]∧cd g a .ret h=.ok .ret h∧Yields (Hr rs tm h) φ
theorem Er {nt na:Nat} {b:CC} {rs:List CR} {call:Call} {cd:cE} {args:List Value} {h:Hp} {g:FuncId} {a:List Value} {φ:Value→Hp→Prop} (hn:(Nat.beq (len args) na && Nat.ble na nt)=true)
 (hb:bC (iP b call (aL args 0 .nil fun t=>t) [] h) (aVV cd rs g a φ)):Yields (dD (.mk nt na b rs) call cd args h) φ:=by
 show Yields (bif Nat.beq (len args) na && Nat.ble na nt then Al args 0 .nil fun tm=>eL.rec (motive:=fun _=>fV) .none (fun e tm df h=>Ex.rec (motive:=fun _=>fV) (leave cd rs df tm .ret h) (fun _=>.none) (leave cd rs df tm .ret h) (fun c=>leave cd rs df tm (.qB c) h) e) (iP b call tm [] h) else .none) φ
 rw [hn,cond_true,rG,kL]
 revert hb
 cases iP b call (aL args 0 .nil fun t=>t) [] h with
 | none=>intro h;exact h.elim
 | ok e tm df h' =>
  intro hb
  obtain ⟨he,hdf,hc,hy⟩:=hb
  subst hdf
  have key:leave cd rs [(g,a)] tm .ret h'=Hr rs tm h':=by
   show Fi.rec (motive:=fun _=>fV) .none (fun m h=>Md.rec (motive:=fun _=>fV) (Hr rs tm h) (fun c=>.panic c h) m) (cd g a .ret h')=_
   rw [hc]
  rcases he with rfl|rfl
  · show Yields (leave cd rs [(g,a)] tm .ret h') φ
    rw [key];exact hy
  · show Yields (leave cd rs [(g,a)] tm .ret h') φ
    rw [key];exact hy
def aEj (call:Call):Prop:=∀ h bx n v xs,Wf h→Af h bx v→(∀ c,gY v c→c≠bx)→RO h v xs→n<xs.length→n≤3→(∀ x∈xs,x<256)→Yields (call 51 [bE bx 0,A0 n] h) (aJ8 RO bx v xs n h)
structure RdO (h:Hp) (bx lo:Nat) (xs:List Nat):Prop where
 byte:∀ x∈xs,x<256
 val:∃ v,Af h bx v∧RO h v xs∧∀ c,gY v c→c<lo
 lo:lo≤bx
theorem RdO.bT {h H:Hp} {bx lo:Nat} {xs:List Nat} (hr:RdO h bx lo xs) (e:∀ c,c<lo∨c=bx→H.at c=h.at c):RdO H bx lo xs:=by
 obtain ⟨h2,⟨v,⟨c,e',cl,hat,hc⟩,h4,h5⟩,h6⟩:=hr
 exact ⟨h2,⟨v,⟨c,e',cl,by rw [e bx (.inr rfl)];exact hat,hc⟩,h4.bT fun c _ hc=>e c (.inl (h5 c hc)),h5⟩,h6⟩
theorem RdO.num {call:Call} (hN:aEj call) {h:Hp} {bx lo w n:Nat} {xs:List Nat} (hw:Wf h) (hr:RdO h bx lo (be w n++xs)) (hn:n<256 ^ w) (h3:w≤3) (h0:0<xs.length):∃ H,call 51 [bE bx 0,A0 w] h=.val (A0 n) H∧RdO H bx lo xs∧Wf H∧p7 (fun k=>k=bx) h H∧H.next=h.next:=by
 obtain ⟨h2,⟨v,h4,h5,h6⟩,h7⟩:=hr
 obtain ⟨r,H,e,v2,rfl,a1,a2,a3,a4,a5,a6⟩:=(hN h bx w v _ hw h4 (fun c hc=>by have:=h6 c hc;omega) h5 (by rw [List.length_append,fD];omega) h3 h2).get
 have e1:(be w n++xs).take w=be w n:=List.take_left' (fD w n)
 have e2:(be w n++xs).drop w=xs:=List.drop_left' (fD w n)
 rw [e1,Qa hn] at e
 rw [e2] at a2
 exact ⟨H,e,⟨fun x hx=>h2 x (by simp [hx]),⟨v2,a1,a2,fun c hc=>h6 c (a3 c hc)⟩,h7⟩,a4,a5,a6⟩
theorem RdO.take {call:Call} (hT:Ao call RO) {h:Hp} {bx lo:Nat} {ys xs:List Nat} (hw:Wf h) (hr:RdO h bx lo (ys++xs)) (h0:0<xs.length):∃ r H,call 50 [bE bx 0,A0 ys.length] h=.val r H∧iL H r ys∧(∀ c,gY r c→c<lo)∧RdO H bx lo xs∧Wf H∧p7 (fun k=>k=bx) h H∧H.next=h.next:=by
 obtain ⟨h2,⟨v,h4,h5,h6⟩,h7⟩:=hr
 obtain ⟨v1,v2,hc⟩:=h5.cut (n:=ys.length) (by rw [List.length_append];omega)
 obtain ⟨r,H,e,v2',a0,a1,a2,a3,a4,a5,a6,a7⟩:=(hT h bx ys.length v v1 v2 _ hw h4 (fun c hc=>by have:=h6 c hc;omega) hc).get
 rw [List.take_left] at a0
 rw [List.drop_left] at a2
 exact ⟨r,H,e,a0,fun c hc=>h6 c (a3 c hc),⟨fun x hx=>h2 x (by simp [hx]),⟨v2',a1,a2,fun c hc=>h6 c (a4 c hc)⟩,h7⟩,a5,a6,a7⟩
structure It (v:Value) (b2 b3 b4:Nat) (vs:List Value) (xs:List Nat) (h:Hp) (tm:T Value) (df:Df) (H:Hp):Prop where
 df:df=[(49,[bE b3 0])]
 t0:tm.get []=some v
 t2:tm.get [false]=some (bE b2 0)
 t3:tm.get [true,true]=some (bE b3 0)
 t4:tm.get [false,true]=some (bE b4 0)
 r2:p8 H b2 4 30 vs
 r3:p8 H b3 1 4 [.bool false]
 rd:RdO H b4 h.next xs
 ord:h.next≤b2∧h.next≤b3∧b2≠b3∧b2≠b4∧b3≠b4
 wf:Wf H
 fr:Fr (fun _=>False) h H
theorem It.num {call:Call} (hN:aEj call) {v:Value} {b2 b3 b4 w n:Nat} {vs:List Value} {xs:List Nat} {h:Hp} {tm:T Value} {df:Df} {H:Hp} (hw:Wf h) (hp:It v b2 b3 b4 vs (be w n++xs) h tm df H) (hn:n<256 ^ w) (h3:w≤3) (h0:0<xs.length):∃ H',call 51 [bE b4 0,A0 w] H=.val (A0 n) H'∧(∀ tm',tm'.get []=some v→tm'.get [false]=some (bE b2 0)→tm'.get [true,true]=some (bE b3 0)→tm'.get [false,true]=some (bE b4 0)→It v b2 b3 b4 vs xs h tm' df H')∧H'.at b2=H.at b2:=by
 obtain ⟨hdf,t0,t2,t3,t4,r2,r3,rd,ord,wf,fr⟩:=hp
 obtain ⟨H',e,rd',wf',fr',nx'⟩:=rd.num hN wf hn h3 h0
 have l2:=r2.lt wf
 have l3:=r3.lt wf
 have hlo:=rd.lo
 have hwb:=hw.base
 have e2:H'.at b2=H.at b2:=fr'.at_ b2 l2 ord.2.2.2.1
 refine ⟨H',e,fun tm' q0 q2 q3 q4=>⟨hdf,q0,q2,q3,q4,r2.bT e2,r3.bT (fr'.at_ b3 l3 ord.2.2.2.2),rd',ord,wf',fr.trans (fr'.lower fun x _ hx=>by rw [fr.base];omega) fun k hk h=>by omega⟩,e2⟩
theorem It.take {call:Call} (hT:Ao call RO) {v:Value} {b2 b3 b4:Nat} {vs:List Value} {ys xs:List Nat} {h:Hp} {tm:T Value} {df:Df} {H:Hp} (hw:Wf h) (hp:It v b2 b3 b4 vs (ys++xs) h tm df H) (h0:0<xs.length):∃ r H',call 50 [bE b4 0,A0 ys.length] H=.val r H'∧iL H' r ys∧(∀ c,gY r c→c<h.next)∧(∀ tm',tm'.get []=some v→tm'.get [false]=some (bE b2 0)→tm'.get [true,true]=some (bE b3 0)→tm'.get [false,true]=some (bE b4 0)→It v b2 b3 b4 vs xs h tm' df H')∧Fr (fun k=>k=b4) H H':=by
 obtain ⟨hdf,t0,t2,t3,t4,r2,r3,rd,ord,wf,fr⟩:=hp
 obtain ⟨r,H',e,rr,rb,rd',wf',fr',nx'⟩:=rd.take hT wf h0
 have l2:=r2.lt wf
 have l3:=r3.lt wf
 have hlo:=rd.lo
 have hwb:=hw.base
 have e2:H'.at b2=H.at b2:=fr'.at_ b2 l2 ord.2.2.2.1
 refine ⟨r,H',e,rr,rb,fun tm' q0 q2 q3 q4=>⟨hdf,q0,q2,q3,q4,r2.bT e2,r3.bT (fr'.at_ b3 l3 ord.2.2.2.2),rd',ord,wf',fr.trans (fr'.lower fun x _ hx=>by rw [fr.base];omega) fun k hk h=>by omega⟩,fr'.lower fun x _ hx=>by rw [fr.base];omega⟩
theorem It.put {v:Value} {b2 b3 b4 j:Nat} {vs:List Value} {xs:List Nat} {h:Hp} {tm:T Value} {df:Df} {H:Hp} {c:T Value} {x:Value} (hw:Wf h) (hp:It v b2 b3 b4 vs xs h tm df H) (hc:∀ j,j<4→c.get (path j)=vs[j]?) (hj:j<4):It v b2 b3 b4 (vs.set j x) xs h tm df (H.put b2 (some (.row (aL [x] (0+j) c fun t=>t) 4 30 true false))):=by
 obtain ⟨hdf,t0,t2,t3,t4,r2,r3,rd,ord,wf,fr⟩:=hp
 have l2:=r2.lt wf
 have hlo:=rd.lo
 have hwb:=hw.base
 exact ⟨hdf,t0,t2,t3,t4,uR r2.1 hc hj (by rw [aJ,if_pos rfl]),r3.bT (by rw [aJ,if_neg ord.2.2.1]),rd.bT fun k hk=>by rw [aJ,if_neg (by omega)],ord,wf.put l2 _,fr.cJ _ (fun h=>by omega) (by omega)⟩
theorem It.re {v:Value} {b2 b3 b4:Nat} {vs:List Value} {xs:List Nat} {h:Hp} {tm tm':T Value} {df:Df} {H:Hp} (hp:It v b2 b3 b4 vs xs h tm df H) (q0:tm'.get []=some v) (q2:tm'.get [false]=some (bE b2 0)) (q3:tm'.get [true,true]=some (bE b3 0)) (q4:tm'.get [false,true]=some (bE b4 0)):It v b2 b3 b4 vs xs h tm' df H:=by
 obtain ⟨hdf,t0,t2,t3,t4,r2,r3,rd,ord,wf,fr⟩:=hp
 exact ⟨hdf,q0,q2,q3,q4,r2,r3,rd,ord,wf,fr⟩
end cG
end Go
