/-
Symbolic runs of the law's functions and of the program's, part 2.
Conditions: none.
-/
import Derived.Test.YtefdgihgbhbibaaGreatDoorRun01
set_option linter.unusedVariables false
set_option linter.unusedSimpArgs false
set_option linter.defProp false
set_option maxRecDepth 10000
namespace Go
namespace cG
def Pz (call:Call):Prop:=∀ H bx v xs,Wf H→H.base≤bx→Af H bx v→iL H v xs→(∀ c,0<xs.length→gY v c→c≠bx)→(∀ x∈xs,x<256)→Yields (call 170 [bE bx 0] H) (aQR bx H v xs)
def RdR (lim:Nat) (H:Hp) (bx:Nat) (xs:List Nat):Prop:=∃ v,Af H bx v∧iL H v xs∧(∀ c,0<xs.length→gY v c→c<lim)∧lim≤bx
theorem RdR.bT {lim:Nat} {h H:Hp} {bx:Nat} {xs:List Nat} (hr:RdR lim h bx xs) (e1:H.at bx=h.at bx) (e2:∀ c,c<lim→H.at c=h.at c):RdR lim H bx xs:=by
 obtain ⟨v,⟨c,e,cl,h1,h2⟩,h3,h4,h5⟩:=hr
 exact ⟨v,⟨c,e,cl,by rw [e1];exact h1,h2⟩,h3.bT fun c h0 hc=>e2 c (h4 c h0 hc),h4,h5⟩
theorem aD4 {call:Call} (hN:Pz call) {lim:Nat} {H:Hp} {bx:Nat} {xs:List Nat} (hw:Wf H) (hb:H.base≤bx) (hr:RdR lim H bx xs) (hbyte:∀ x∈xs,x<256):∃ H',call 170 [bE bx 0] H=.val (.int .u64 (.ofNat (xs.getD 0 0))) H'∧RdR lim H' bx (xs.drop 1)∧Wf H'∧Fr (fun k=>k=bx) H H'∧H'.next=H.next:=by
 obtain ⟨v,h1,h2,h3,h4⟩:=hr
 obtain ⟨r,H',e,v',rfl,g1,g2,g3,g4,g5,g6⟩:=(hN H bx v xs hw hb h1 h2 (fun c h0 hc=>by have:=h3 c h0 hc;omega) hbyte).get
 exact ⟨H',e,⟨v',g1,g2,fun c h0 hc=>h3 c (by rw [List.length_drop] at h0;omega) (g6 c h0 hc),h4⟩,g3,g4,g5⟩
theorem getD_drop (l:List Nat) (k:Nat):(l.drop k).getD 0 0=l.getD k 0:=by
 rw [List.getD_eq_getElem?_getD,List.getD_eq_getElem?_getD,List.getElem?_drop,Nat.add_zero]
noncomputable def yR (bx:Nat):Value:=.func (.func 170) ⟨[]⟩ ⟨[bE bx 0]⟩
theorem Xn {R:Type} (bx:Nat) (k:FuncId→List Value→List Value→R) (z:R):vFn (yR bx) k z=k 170 [] [bE bx 0]:=rfl
structure Code (V J:Nat) (code:List Nat):Prop where
 top:V<256 ^ (J+4)
 pZ:∀ m,m<J+4→code.getD m 0=V / 256 ^ (J+3 - m) % 256
 byte:∀ x∈code,x<256
theorem Code.step {V J:Nat} {code:List Nat} (hc:Code V J code) {k:Nat} (hk:k<J+4):V / 256 ^ (J+4 - (k+1))=V / 256 ^ (J+4 - k)*256+code.getD k 0:=by
 rw [hc.pZ k hk]
 have e1:J+4 - k=(J+3 - k)+1:=by omega
 have e2:J+4 - (k+1)=J+3 - k:=by omega
 rw [e1,e2,Nat.pow_succ,← Nat.div_div_eq_div_mul]
 omega
theorem Code.lt {V J:Nat} {code:List Nat} (hc:Code V J code) {k:Nat} (hk:k≤J+4):V / 256 ^ (J+4 - k)<256 ^ k:=by
 refine Nat.div_lt_of_lt_mul ?_
 rw [← Nat.pow_add,show J+4 - k+k=J+4 by omega]
 exact hc.top
theorem Code.digit {V J:Nat} {code:List Nat} (hc:Code V J code) (k:Nat):code.getD k 0<256:=by
 rw [List.getD_eq_getElem?_getD]
 cases h:code[k]? with
 | none=>show (0:Nat)<256;omega
 | some x=>exact hc.byte x (List.mem_of_getElem? h)
structure D3 (V J bx lim:Nat) (code:List Nat) (tm0:T Value) (h:Hp) (k:Nat) (tm:T Value) (df:Df) (H:Hp):Prop where
 df:df=[]
 t11:tm.get [true,true,false]=some (.int .u64 (.ofNat (V / 256 ^ (J+4 - k))))
 t35:tm.get [true,true,false,true,true]=some (A0 k)
 pP:∀ p,p≠[true,true,false]→p≠[true,true,false,true,true]→p≠[false,true,false,true,true]→tm.get p=tm0.get p
 wf:Wf H
 fr:Fr (fun k=>k=bx) h H
 rd:RdR lim H bx (code.drop k)
theorem aR0 {call:Call} (hN:Pz call) {V J bx lim:Nat} {code:List Nat} (hc:Code V J code) {tm0:T Value} {h:Hp} (hb:h.base≤bx) (h10:tm0.get [false,false,true]=some (yR bx)) {tm:T Value} {df:Df} {H:Hp} (hst:D3 V J bx lim code tm0 h 0 tm df H) :
 bC (iP (.loop qM) call tm df H) (fun ex tm df H=>ex=.exit 0∧D3 V J bx lim code tm0 h 4 tm df H):=by
 refine cT (n:=4) (by omega) (D3 V J bx lim code tm0 h) (fun k tm df H hk hI=>?_) (fun tm df H hI=>?_) hst
 · obtain ⟨rfl,t11,t35,pP,wf,fr,rd⟩:=hI
   have t10:tm.get [false,false,true]=some (yR bx):=by rw [pP _ (by decide) (by decide) (by decide)];exact h10
   obtain ⟨H',e,rd',wf',fr',nx'⟩:=aD4 hN wf (by rw [fr.base];exact hb) rd fun x hx=>hc.byte x (List.mem_of_mem_drop hx)
   rw [getD_drop] at e
   rw [List.drop_drop] at rd'
   have hlt:=hc.lt (k:=k) (by omega)
   have hpw:256 ^ k≤16777216:=Nat.le_trans (Nat.pow_le_pow_right (by decide) (by omega:k≤3)) (by decide)
   have hd:=hc.digit k
   have e1:Nat.blt k 4=true:=bU hk
   have m1:iU .u64 (.ofNat (V / 256 ^ (J+4 - k))) (.ofNat 256)=some (.int .u64 (aR .u64 (.ofNat (V / 256 ^ (J+4 - k)*256)))):=lD _ _ _
   have m2:aR .u64 (.ofNat (V / 256 ^ (J+4 - k)*256))=.ofNat (V / 256 ^ (J+4 - k)*256):=Eb (by omega)
   have m3:aR .u64 (.ofNat (V / 256 ^ (J+4 - k)*256+code.getD k 0))=.ofNat (V / 256 ^ (J+4 - k)*256+code.getD k 0):=Eb (by omega)
   have w1:aR .i64 (.ofNat (k+1))=.ofNat (k+1):=bF (by omega)
   simp only [↓aQ,A3,reduceCtorEq,qM,t10,t11,t35,e1,m1,m2,Dz,Xn,List.nil_append,e,m3,w1]
   refine .go ⟨rfl,?_,by simp,fun p h1 h2 h3=>?_,wf',fr.trans fr' fun _ _ e=>e,rd'⟩
   · rw [hc.step (by omega)]
     simp [T.aB]
   · rw [T.aB,if_neg (fun e=>h2 e.symm),T.aB,if_neg (fun e=>h1 e.symm),T.aB,if_neg (fun e=>h3 e.symm)]
     exact pP p h1 h2 h3
 · obtain ⟨rfl,t11,t35,pP,wf,fr,rd⟩:=hI
   have e1:Nat.blt 4 4=false:=rfl
   simp only [↓aQ,A3,reduceCtorEq,qM,t35,e1]
   refine .ex ⟨rfl,rfl,by simp [t11],by simp [t35],fun p h1 h2 h3=>?_,wf,fr,rd⟩
   rw [T.aB,if_neg (fun e=>h3 e.symm)]
   exact pP p h1 h2 h3
structure D1 (t:List Nat) (tm0:T Value) (h:Hp) (c:Nat) (tm:T Value) (df:Df) (H:Hp):Prop where
 df:df=[]
 hh:H=h
 t17:tm.get [true,false,true,true]=some (A0 c)
 t18:tm.get [false,false,true,true]=some (.int .u64 (.ofNat (Rc.jK t c)))
 pP:∀ p,p≠[true,false,true,true]→p≠[false,false,true,true]→p≠[true,true,true,false,true,true]→tm.get p=tm0.get p
theorem aR1 {call:Call} {t:List Nat} {tm0:T Value} {h:Hp} {b r ahead x:Nat} (hr:aJT h b t) (ht:t.length≤2000) (hx:x<256) (hrb:r<4294967296) (h14:tm0.get [false,false,false]=some (bE b 0)) (h16:tm0.get [false,true,true,true]=some (.int .u64 (.ofNat r))) (h11:tm0.get [true,true,false]=some (.int .u64 (.ofNat ahead)))
 (hlo:r*Rc.jK t x≤ahead) (hhi:ahead<r*Rc.jK t (x+1)) {tm:T Value} {df:Df} {H:Hp} (hst:D1 t tm0 h 0 tm df H) :
 bC (iP (.loop nF) call tm df H) (fun ex tm df H=>ex=.exit 4∧D1 t tm0 h x tm df H):=by
 obtain ⟨ct,mt,et,clt,rot,hat,hmt,hct⟩:=hr
 refine cT (n:=x) (by omega) (D1 t tm0 h) (fun c tm df H hc hI=>?_) (fun tm df H hI=>?_) hst
 · obtain ⟨rfl,rfl,t17,t18,pP⟩:=hI
   have t14:tm.get [false,false,false]=some (bE b 0):=by rw [pP _ (by decide) (by decide) (by decide)];exact h14
   have t16:tm.get [false,true,true,true]=some (.int .u64 (.ofNat r)):=by rw [pP _ (by decide) (by decide) (by decide)];exact h16
   have t11:tm.get [true,true,false]=some (.int .u64 (.ofNat ahead)):=by rw [pP _ (by decide) (by decide) (by decide)];exact h11
   have l1:=yO ht c
   have l2:=vP ht (k:=c) (by omega)
   have l3:=vP ht (k:=c+1) (by omega)
   have hs:=Rc.rI t c
   have hle:r*(Rc.jK t c+Rc.gO t c)≤ahead:=by
    rw [← hs]
    exact Nat.le_trans (Nat.mul_le_mul_left _ (Rc.Xe t (by omega))) hlo
   have hbd:r*(Rc.jK t c+Rc.gO t c)<18446744073709551616:=by
    have:r*(Rc.jK t c+Rc.gO t c)≤4294967296*65000:=Nat.mul_le_mul (by omega) (by omega)
    omega
   have e1:Nat.blt c 255=true:=bU (by omega)
   have e2:Nat.blt c 256=true:=bU (by omega)
   have e3:Nat.blt (0+c*1) mt=true:=bU (by omega)
   have e4:ct.get (path (0+c*1))=some (K6 (Rc.gO t c)):=by rw [show 0+c*1=c by omega];exact hct c (by omega)
   have w1:aR .u64 (.ofNat (Rc.gO t c))=.ofNat (Rc.gO t c):=Eb (by omega)
   have w2:aR .u64 (.ofNat (Rc.jK t c+Rc.gO t c))=.ofNat (Rc.jK t c+Rc.gO t c):=Eb (by omega)
   have m1:iU .u64 (.ofNat r) (.ofNat (Rc.jK t c+Rc.gO t c))=some (.int .u64 (aR .u64 (.ofNat (r*(Rc.jK t c+Rc.gO t c))))):=lD _ _ _
   have w3:aR .u64 (.ofNat (r*(Rc.jK t c+Rc.gO t c)))=.ofNat (r*(Rc.jK t c+Rc.gO t c)):=Eb hbd
   have e5:Nat.blt ahead (r*(Rc.jK t c+Rc.gO t c))=false:=cI hle
   have w4:aR .i64 (.ofNat (c+1))=.ofNat (c+1):=bF (by omega)
   simp only [↓aQ,A3,reduceCtorEq,nF,t11,t14,t16,t17,t18,dI,dJ,hat,e1,e2,e3,e4,w1,w2,m1,w3,e5,w4]
   refine .go ⟨rfl,rfl,by simp,?_,fun p h1 h2 h3=>?_⟩
   · rw [hs]
     simp [T.aB]
   · rw [T.aB,if_neg (fun e=>h1 e.symm),T.aB,if_neg (fun e=>h2 e.symm),T.aB,if_neg (fun e=>h3 e.symm)]
     exact pP p h1 h2 h3
 · obtain ⟨rfl,rfl,t17,t18,pP⟩:=hI
   have t14:tm.get [false,false,false]=some (bE b 0):=by rw [pP _ (by decide) (by decide) (by decide)];exact h14
   have t16:tm.get [false,true,true,true]=some (.int .u64 (.ofNat r)):=by rw [pP _ (by decide) (by decide) (by decide)];exact h16
   have t11:tm.get [true,true,false]=some (.int .u64 (.ofNat ahead)):=by rw [pP _ (by decide) (by decide) (by decide)];exact h11
   by_cases h255:x<255
   · have l1:=yO ht x
     have l2:=vP ht (k:=x) (by omega)
     have l3:=vP ht (k:=x+1) (by omega)
     have hs:=Rc.rI t x
     rw [hs] at hhi
     have hbd:r*(Rc.jK t x+Rc.gO t x)<18446744073709551616:=by
      have:r*(Rc.jK t x+Rc.gO t x)≤4294967296*65000:=Nat.mul_le_mul (by omega) (by omega)
      omega
     have e1:Nat.blt x 255=true:=bU h255
     have e2:Nat.blt x 256=true:=bU (by omega)
     have e3:Nat.blt (0+x*1) mt=true:=bU (by omega)
     have e4:ct.get (path (0+x*1))=some (K6 (Rc.gO t x)):=by rw [show 0+x*1=x by omega];exact hct x (by omega)
     have w1:aR .u64 (.ofNat (Rc.gO t x))=.ofNat (Rc.gO t x):=Eb (by omega)
     have w2:aR .u64 (.ofNat (Rc.jK t x+Rc.gO t x))=.ofNat (Rc.jK t x+Rc.gO t x):=Eb (by omega)
     have m1:iU .u64 (.ofNat r) (.ofNat (Rc.jK t x+Rc.gO t x))=some (.int .u64 (aR .u64 (.ofNat (r*(Rc.jK t x+Rc.gO t x))))):=lD _ _ _
     have w3:aR .u64 (.ofNat (r*(Rc.jK t x+Rc.gO t x)))=.ofNat (r*(Rc.jK t x+Rc.gO t x)):=Eb hbd
     have e5:Nat.blt ahead (r*(Rc.jK t x+Rc.gO t x))=true:=bU hhi
     simp only [↓aQ,A3,reduceCtorEq,nF,t11,t14,t16,t17,t18,dI,dJ,hat,e1,e2,e3,e4,w1,w2,m1,w3,e5]
     refine .ex ⟨rfl,rfl,rfl,by simp [t17],by simp [t18],fun p h1 h2 h3=>?_⟩
     rw [T.aB,if_neg (fun e=>h3 e.symm)]
     exact pP p h1 h2 h3
   · have e1:Nat.blt x 255=false:=cI (by omega)
     simp only [↓aQ,A3,reduceCtorEq,nF,t17,e1]
     refine .ex ⟨rfl,rfl,rfl,by simp [t17],by simp [t18],fun p h1 h2 h3=>?_⟩
     rw [T.aB,if_neg (fun e=>h3 e.symm)]
     exact pP p h1 h2 h3
namespace Rc
theorem In.up {e f:En} (h:In e f) {m:Nat} (hm:e.j+m≤f.j):In ⟨e.N*256 ^ m,e.j+m,e.s*256 ^ m⟩ f:=by
 obtain ⟨d,h1,h2,h3⟩:=h
 have e1:256 ^ m*256 ^ (d - m)=(256:Nat) ^ d:=by rw [← Nat.pow_add,show m+(d - m)=d by omega]
 refine ⟨d - m,by show f.j=e.j+m+(d - m);omega,?_,?_⟩
 · show e.N*256 ^ m*256 ^ (d - m)≤f.N
   rw [Nat.mul_assoc,e1];exact h2
 · show f.N+f.s≤(e.N*256 ^ m+e.s*256 ^ m)*256 ^ (d - m)
   rw [← Nat.add_mul,Nat.mul_assoc,e1];exact h3
end Rc
structure D0 (V J bx lim:Nat) (code:List Nat) (e:Rc.En) (tm0:T Value) (h:Hp) (m:Nat) (tm:T Value) (df:Df) (H:Hp):Prop where
 df:df=[]
 t11:tm.get [true,true,false]=some (.int .u64 (.ofNat (Rc.Bd V J (e.j+m) - e.N*256 ^ m)))
 t12:tm.get [false,true,false]=some (.int .u64 (.ofNat (e.s*256 ^ m)))
 pP:∀ p,p≠[true,true,false]→p≠[false,true,false]→p≠[true,true,false,true,true,false]→tm.get p=tm0.get p
 wf:Wf H
 fr:Fr (fun k=>k=bx) h H
 rd:RdR lim H bx (code.drop (e.j+m+4))
theorem aR2 {call:Call} (hN:Pz call) {f:Rc.En} {bx lim:Nat} {code:List Nat} (hc:Code f.N f.j code) (hfs:0<f.s) {e:Rc.En} (hin:Rc.In e f) {d:Nat} (hd:d≤3) (hs1:∀ i,i<d→e.s*256 ^ i<16777216) (hs2:16777216≤e.s*256 ^ d) (hdj:e.j+d≤f.j) {tm0:T Value} {h:Hp} (hb:h.base≤bx) (h10:tm0.get [false,false,true]=some (yR bx)) {tm:T Value} {df:Df} {H:Hp} (hst:D0 f.N f.j bx lim code e tm0 h 0 tm df H) :
 bC (iP (.loop qK) call tm df H) (fun ex tm df H=>ex=.exit 6∧D0 f.N f.j bx lim code e tm0 h d tm df H):=by
 refine cT (n:=d) (by omega) (D0 f.N f.j bx lim code e tm0 h) (fun m tm df H hm hI=>?_) (fun tm df H hI=>?_) hst
 · obtain ⟨rfl,t11,t12,pP,wf,fr,rd⟩:=hI
   have t10:tm.get [false,false,true]=some (yR bx):=by rw [pP _ (by decide) (by decide) (by decide)];exact h10
   obtain ⟨H',ec,rd',wf',fr',nx'⟩:=aD4 hN wf (by rw [fr.base];exact hb) rd fun x hx=>hc.byte x (List.mem_of_mem_drop hx)
   rw [getD_drop] at ec
   rw [List.drop_drop] at rd'
   have hsm:=hs1 m hm
   have hup:=Rc.aJL (hin.up (m:=m) (by omega)) hfs
   have h1:e.N*256 ^ m≤Rc.Bd f.N f.j (e.j+m):=hup.1
   have h2:Rc.Bd f.N f.j (e.j+m)<e.N*256 ^ m+e.s*256 ^ m:=hup.2
   have hdg:=hc.digit (e.j+m+4)
   have hst1:=Rc.aJM (V:=f.N) (J:=f.j) (j:=e.j+m) (by omega)
   have hdig:code.getD (e.j+m+4) 0=f.N / 256 ^ (f.j - (e.j+m) - 1) % 256:=by
    rw [hc.pZ _ (by omega),show f.j+3 - (e.j+m+4)=f.j - (e.j+m) - 1 by omega]
   rw [← hdig] at hst1
   have hp:e.N*256 ^ (m+1)=e.N*256 ^ m*256:=by rw [Nat.pow_succ,Nat.mul_assoc]
   have hA:(Rc.Bd f.N f.j (e.j+m) - e.N*256 ^ m)*256+code.getD (e.j+m+4) 0=Rc.Bd f.N f.j (e.j+(m+1)) - e.N*256 ^ (m+1):=by
    rw [show e.j+(m+1)=e.j+m+1 by omega,hst1,hp];omega
   generalize hQ:Rc.Bd f.N f.j (e.j+m) - e.N*256 ^ m=Q at *
   have hQ2:Q<16777216:=by omega
   have e1:Nat.blt (e.s*256 ^ m) 16777216=true:=bU hsm
   have m1:iU .u64 (.ofNat Q) (.ofNat 256)=some (.int .u64 (aR .u64 (.ofNat (Q*256)))):=lD _ _ _
   have m2:aR .u64 (.ofNat (Q*256))=.ofNat (Q*256):=Eb (by omega)
   have m3:aR .u64 (.ofNat (Q*256+code.getD (e.j+m+4) 0))=.ofNat (Q*256+code.getD (e.j+m+4) 0):=Eb (by omega)
   have m4:iU .u64 (.ofNat (e.s*256 ^ m)) (.ofNat 256)=some (.int .u64 (aR .u64 (.ofNat (e.s*256 ^ m*256)))):=lD _ _ _
   have m5:aR .u64 (.ofNat (e.s*256 ^ m*256))=.ofNat (e.s*256 ^ m*256):=Eb (by omega)
   simp only [↓aQ,A3,reduceCtorEq,qK,t10,t11,t12,e1,m1,m2,Dz,Xn,List.nil_append,ec,m3,m4,m5]
   refine .go ⟨rfl,?_,?_,fun p h1 h2 h3=>?_,wf',fr.trans fr' fun _ _ e=>e,by rw [show e.j+(m+1)+4=e.j+m+4+1 by omega];exact rd'⟩
   · rw [← hA]
     simp [T.aB]
   · rw [Nat.pow_succ,← Nat.mul_assoc]
     simp [T.aB]
   · rw [T.aB,if_neg (fun e=>h2 e.symm),T.aB,if_neg (fun e=>h1 e.symm),T.aB,if_neg (fun e=>h3 e.symm)]
     exact pP p h1 h2 h3
 · obtain ⟨rfl,t11,t12,pP,wf,fr,rd⟩:=hI
   have e1:Nat.blt (e.s*256 ^ d) 16777216=false:=cI hs2
   simp only [↓aQ,A3,reduceCtorEq,qK,t12,e1]
   refine .ex ⟨rfl,rfl,by simp [t11],by simp [t12],fun p h1 h2 h3=>?_,wf,fr,rd⟩
   rw [T.aB,if_neg (fun e=>h3 e.symm)]
   exact pP p h1 h2 h3
def KD:List (List Bool):=[[],[true],[true,false,false,false,true],[false,false,false,false,true],[false,true,true],[false,false,true],[true,true,false],[false,true,false],[true,false,false]]
structure DeS (n:Nat) (av cv:Value) (cap bx:Nat) (code:List Nat) (h0:Hp) (V J i:Nat) (w:List Nat) (e:Rc.En) (tm:T Value) (df:Df) (H:Hp):Prop where
 df:df=[]
 t0:tm.get []=some av
 t1:tm.get [true]=some cv
 t45:tm.get [true,false,false,false,true]=some (A0 cap)
 t46:tm.get [false,false,false,false,true]=some (A0 i)
 t10:tm.get [false,false,true]=some (yR bx)
 t11:tm.get [true,true,false]=some (.int .u64 (.ofNat (Rc.Bd V J e.j - e.N)))
 t12:tm.get [false,true,false]=some (.int .u64 (.ofNat e.s))
 wf:Wf H
 fr:Fr (fun _=>False) h0 H
 rd:RdR h0.next H bx (code.drop (e.j+4))
 bxl:bx<H.next
 st:∃ m ov fp,tm.get [false,true,true]=some m∧vQ n H m w fp∧(∀ k,fp k→h0.next≤k∧k<H.next∧k≠bx)∧tm.get [true,false,false]=some ov∧Ir H ov cap w∧∀ c,gY ov c→h0.next≤c∧c<H.next∧c≠bx∧¬ fp c
theorem aFO {call:Call} (hC:aJX call) (hN:Pz call) {n cap bx:Nat} {av cv:Value} {code:List Nat} {h0:Hp} (hw0:Wf h0) (hcap0:cap≤1000) {f:Rc.En} (hc:Code f.N f.j code) (hfs:0<f.s) (hbx:h0.next≤bx) {i x:Nat} (hi:i<cap) (hx:x<256) {w:List Nat} (hwi:w.length=i) (hwb:∀ x∈w,x<256)
 {e:Rc.En} (he:Rc.Ok e) (hstep:Rc.In (Rc.step (cU n w) e x) f) {tm:T Value} {df:Df} {H:Hp} (hst:DeS n av cv cap bx code h0 f.N f.j i w e tm df H) {φ:Ex→T Value→Df→Hp→Prop} {I:Nat→T Value→Df→Hp→Prop}
 (hgo:∀ tm' df' H',DeS n av cv cap bx code h0 f.N f.j (i+1) (w++[x]) (Rc.step (cU n w) e x) tm' df' H'→I (i+1) tm' df' H') :
 bC (iP qL call tm df H) (yJ I φ i):=by
 obtain ⟨rfl,t0,t1,t45,t46,t10,t11,t12,wf,fr,rd,bxl,⟨mv,ov,fp,t8,hmod,hfp,t13,hcap,hov⟩⟩:=hst
 have hw0b:=hw0.base
 have hfb:∀ k,fp k→H.base≤k:=fun k hk=>by rw [fr.base];have:=(hfp k hk).1;omega
 obtain ⟨b,H1,e1,htab,hmod1,wf1,fr1⟩:=Lo hC.adc hC.afc hmod wf hfb
 unfold tbC at e1
 have n1:=fr1.next
 have n0:=fr.next
 have rd1:RdR h0.next H1 bx (code.drop (e.j+4)):=rd.bT (fr1.at_ _ bxl fun h=>(hfp _ h).2.2 rfl) fun c hc=>fr1.at_ _ (by omega) fun h=>by have:=(hfp _ h).1;omega
 have hcap1:Ir H1 ov cap w:=hcap.bT fun c hc=>fr1.at_ _ (hov c hc).2.1 (hov c hc).2.2.2
 have fr01:Fr (fun _=>False) h0 H1:=fr.trans fr1 fun k hk h=>by have:=(hfp k h).1;omega
 have hfp1:∀ k,grow fp H H1 k→h0.next≤k∧k<H1.next∧k≠bx:=fun k hk=>by
  rcases hk with h|h
  · have:=hfp k h;omega
  · omega
 have hov1:∀ c,gY ov c→h0.next≤c∧c<H1.next∧c≠bx∧¬ grow fp H H1 c:=fun c hc=>by
  obtain ⟨a1,a2,a3,a4⟩:=hov c hc
  refine ⟨a1,by omega,a3,fun h=>?_⟩
  rcases h with h|h
  · exact a4 h
  · omega
 generalize hG:grow fp H H1=fp1 at *
 have hg:=uN n
 have hhl:=hg.len w
 have hhb:=hg.byte w hwb
 have hin2:Rc.In (Rc.sB (cU n w) e x) f:=(Rc.Sh 4 _).trans hstep
 obtain ⟨g1,g2,g3⟩:=Rc.found hin2 hfs
 have htot:=Lm (t:=cU n w) (by omega)
 have htot0:=Rc.Jg (cU n w)
 have hcum:=vP (t:=cU n w) (by omega) (k:=x) (by omega)
 have hcnt:=yO (t:=cU n w) (by omega) x
 have hhi:=he.hi
 have hlo:=he.lo
 generalize hT:cU n w=tb at *
 have hms:=Rc.aD0 (e:=e) (t:=tb) (c:=x) he (by omega) hhb hx
 have hms0:0<e.s / Rc.iW tb*Rc.gO tb x:=hms.1
 have hms1:e.s / Rc.iW tb*Rc.gO tb x<4294967296:=hms.2
 have g3':Rc.Bd f.N f.j e.j - e.N - e.s / Rc.iW tb*Rc.jK tb x<e.s / Rc.iW tb*Rc.gO tb x:=g3
 have hrle:e.s / Rc.iW tb≤e.s:=Nat.div_le_self _ _
 have hmt:=Rc.zR (e:=e) (t:=tb) (c:=x) hhb hx
 generalize hR:e.s / Rc.iW tb=R at *
 have hN1:(Rc.sB tb e x).N=e.N+R*Rc.jK tb x:=by rw [← hR];rfl
 have hS1:(Rc.sB tb e x).s=R*Rc.gO tb x:=by rw [← hR];rfl
 have hJ1:(Rc.sB tb e x).j=e.j:=rfl
 have q28:Nat.blt i cap=true:=bU hi
 unfold qL
 refine bC.seq (φ:=fun tm' df' H'=>df'=[]∧H'=H∧tm'.get [true,true,true,true,false]=some (.bool true)∧∀ p∈KD,tm'.get p=tm.get p) ?_ ?_
 · simp only [↓aQ,A3,reduceCtorEq,t45,t46,q28]
   exact ⟨rfl,rfl,rfl,by simp,fun p hp=>by rw [T.aB,if_neg (jL hp (by decide))]⟩
 rintro tm1 Vw H' ⟨rfl,rfl,t29,o1⟩
 refine bC.seq (φ:=fun tm' df' H2=>df'=[]∧H2=H'∧∀ p∈KD,tm'.get p=tm.get p) ?_ ?_
 · simp only [↓aQ,A3,reduceCtorEq,t29]
   exact ⟨rfl,rfl,rfl,o1⟩
 rintro tm2 df2 H2 ⟨rfl,rfl,o2⟩
 have u8':tm2.get [false,true,true]=some mv:=by rw [o2 _ (by decide)];exact t8
 refine bC.seq (φ:=DeS n av cv cap bx code h0 f.N f.j i (w++[x]) (Rc.step tb e x)) (bC.block ?_) ?_
 ·
  refine bC.seq (φ:=fun tm' df' H3=>df'=[]∧H3=H1∧tm'.get [false,false,false]=some (bE b 0)∧tm'.get [true,true,true,true]=some (.int .u64 (.ofNat (Rc.iW tb)))∧∀ p∈KD,tm'.get p=tm2.get p) ?_ ?_
  · simp only [↓aQ,A3,reduceCtorEq,u8',Ln,e1,iX,nW,oD]
    exact ⟨rfl,rfl,rfl,by simp,by simp,fun p hp=>by rw [T.aB,if_neg (jL hp (by decide)),T.aB,if_neg (jL hp (by decide))]⟩
  rintro tm3 df3 H3 ⟨rfl,rfl,v14,v15,o3⟩
  have v12:tm3.get [false,true,false]=some (.int .u64 (.ofNat e.s)):=by rw [o3 _ (by decide),o2 _ (by decide)];exact t12
  have q1:pE .u64 (.ofNat e.s) (.ofNat (Rc.iW tb))=some (.int .u64 (aR .u64 (.ofNat R))):=by rw [← hR];exact tP _ (by omega)
  have q2:aR .u64 (.ofNat R)=.ofNat R:=Eb (by omega)
  refine bC.seq (φ:=fun tm' df' H4=>df'=[]∧H4=H3∧tm'.get [false,false,false]=some (bE b 0)∧tm'.get [false,true,true,true]=some (.int .u64 (.ofNat R))∧∀ p∈KD,tm'.get p=tm2.get p) ?_ ?_
  · simp only [↓aQ,A3,reduceCtorEq,v12,v15,q1,q2]
    exact ⟨rfl,rfl,rfl,by simp [v14],by simp,fun p hp=>by rw [T.aB,if_neg (jL hp (by decide))];exact o3 p hp⟩
  rintro tm4 df4 H4 ⟨rfl,rfl,w14,w16,o4⟩
  refine bC.seq (φ:=fun tm' df' H5=>df'=[]∧H5=H4∧tm'.get [false,false,false]=some (bE b 0)∧tm'.get [false,true,true,true]=some (.int .u64 (.ofNat R))∧tm'.get [true,false,true,true]=some (A0 0)∧tm'.get [false,false,true,true]=some (.int .u64 (.ofNat 0))∧∀ p∈KD,tm'.get p=tm2.get p) ?_ ?_
  · simp only [↓aQ,A3,reduceCtorEq]
    exact ⟨rfl,rfl,rfl,by simp [w14],by simp [w16],by simp,by simp,fun p hp=>by rw [T.aB,if_neg (jL hp (by decide)),T.aB,if_neg (jL hp (by decide))];exact o4 p hp⟩
  rintro tm5 df5 H5 ⟨rfl,rfl,x14,x16,x17,x18,o5⟩
  have x11:tm5.get [true,true,false]=some (.int .u64 (.ofNat (Rc.Bd f.N f.j e.j - e.N))):=by rw [o5 _ (by decide),o2 _ (by decide)];exact t11
  refine bC.seq (φ:=D1 tb tm5 H5 x) (bC.Be ?_) ?_
  · exact bC.mono (aR1 (x:=x) htab (by omega) hx (by omega) x14 x16 x11 g1 g2 ⟨rfl,rfl,x17,by rw [Rc.Lk];exact x18,fun p _ _ _=>rfl⟩) fun ex tm df H hh=>⟨hh.1,hh.2⟩
  rintro tm6 df6 H6 ⟨rfl,rfl,y17,y18,oth6⟩
  have y11:tm6.get [true,true,false]=some (.int .u64 (.ofNat (Rc.Bd f.N f.j e.j - e.N))):=by rw [oth6 _ (by decide) (by decide) (by decide)];exact x11
  have y16:tm6.get [false,true,true,true]=some (.int .u64 (.ofNat R)):=by rw [oth6 _ (by decide) (by decide) (by decide)];exact x16
  have y14:tm6.get [false,false,false]=some (bE b 0):=by rw [oth6 _ (by decide) (by decide) (by decide)];exact x14
  have o6:∀ p∈KD,tm6.get p=tm2.get p:=fun p hp=>by rw [oth6 p (fun e=>jL hp (q:=[true,false,true,true]) (by decide) e.symm) (fun e=>jL hp (q:=[false,false,true,true]) (by decide) e.symm) (fun e=>jL hp (q:=[true,true,true,false,true,true]) (by decide) e.symm)];exact o5 p hp
  have hah:Rc.Bd f.N f.j e.j - e.N<4294967296:=by omega
  have m1:iU .u64 (.ofNat R) (.ofNat (Rc.jK tb x))=some (.int .u64 (aR .u64 (.ofNat (R*Rc.jK tb x)))):=lD _ _ _
  have m2:aR .u64 (.ofNat (R*Rc.jK tb x))=.ofNat (R*Rc.jK tb x):=Eb (by omega)
  have m3:gP .u64 (.ofNat (Rc.Bd f.N f.j e.j - e.N)) (.ofNat (R*Rc.jK tb x))=some (.int .u64 (aR .u64 (.ofNat (Rc.Bd f.N f.j e.j - e.N - R*Rc.jK tb x)))):=jI _ g1
  have m4:aR .u64 (.ofNat (Rc.Bd f.N f.j e.j - e.N - R*Rc.jK tb x))=.ofNat (Rc.Bd f.N f.j e.j - e.N - R*Rc.jK tb x):=Eb (by omega)
  let KE:List (List Bool):=[[],[true],[true,false,false,false,true],[false,false,false,false,true],[false,true,true],[false,false,true],[true,false,false]]
  have hKE:∀ p∈[[],[true],[true,false,false,false,true],[false,false,false,false,true],[false,true,true],[false,false,true],[true,false,false]],p∈KD:=by decide
  refine bC.seq (φ:=fun tm' df' H7=>df'=[]∧H7=H6∧tm'.get [false,false,false]=some (bE b 0)∧tm'.get [false,true,true,true]=some (.int .u64 (.ofNat R))∧tm'.get [true,false,true,true]=some (A0 x)∧tm'.get [true,true,false]=some (.int .u64 (.ofNat (Rc.Bd f.N f.j e.j - e.N - R*Rc.jK tb x)))∧∀ p∈[[],[true],[true,false,false,false,true],[false,false,false,false,true],[false,true,true],[false,false,true],[true,false,false]],tm'.get p=tm2.get p) ?_ ?_
  · simp only [↓aQ,A3,reduceCtorEq,y11,y16,y18,m1,m2,m3,m4]
    exact ⟨rfl,rfl,rfl,by simp [y14],by simp [y16],by simp [y17],by simp,fun p hp=>by rw [T.aB,if_neg (jL hp (by decide))];exact o6 p (hKE p hp)⟩
  rintro tm7 df7 H7 ⟨rfl,rfl,z14,z16,z17,z11,o7⟩
  obtain ⟨ct1,mt1,et1,clt1,rot1,hatb,hmt1,hct1⟩:=id htab
  have y1:Nat.blt x 256=true:=bU hx
  have y3:Nat.blt (0+x*1) mt1=true:=bU (by omega)
  have y4:ct1.get (path (0+x*1))=some (K6 (Rc.gO tb x)):=by rw [show 0+x*1=x by omega];exact hct1 x hx
  have m5:aR .u64 (.ofNat (Rc.gO tb x))=.ofNat (Rc.gO tb x):=Eb (by omega)
  have m6:iU .u64 (.ofNat R) (.ofNat (Rc.gO tb x))=some (.int .u64 (aR .u64 (.ofNat (R*Rc.gO tb x)))):=lD _ _ _
  have m7:aR .u64 (.ofNat (R*Rc.gO tb x))=.ofNat (R*Rc.gO tb x):=Eb (by omega)
  refine bC.seq (φ:=fun tm' df' H8=>df'=[]∧H8=H7∧tm'.get [true,false,true,true]=some (A0 x)∧tm'.get [true,true,false]=some (.int .u64 (.ofNat (Rc.Bd f.N f.j e.j - e.N - R*Rc.jK tb x)))∧tm'.get [false,true,false]=some (.int .u64 (.ofNat (R*Rc.gO tb x)))∧∀ p∈[[],[true],[true,false,false,false,true],[false,false,false,false,true],[false,true,true],[false,false,true],[true,false,false]],tm'.get p=tm2.get p) ?_ ?_
  · simp only [↓aQ,A3,reduceCtorEq,z14,z16,z17,dI,dJ,hatb,y1,y3,y4,m5,m6,m7]
    exact ⟨rfl,rfl,rfl,by simp [z17],by simp [z11],by simp,fun p hp=>by rw [T.aB,if_neg (jL hp (by decide))];exact o7 p hp⟩
  rintro tm8 df8 H8 ⟨rfl,rfl,a17,a11,a12,o8⟩
  generalize hU:R*Rc.jK tb x=U at *
  generalize hV:R*Rc.gO tb x=W at *
  have y5:Nat.blt (Rc.Bd f.N f.j e.j - e.N - U) W=true:=bU g3'
  refine bC.seq (φ:=fun tm' df' H9=>df'=[]∧H9=H8∧tm'.get [true,false,true,true]=some (A0 x)∧tm'.get [true,true,false]=some (.int .u64 (.ofNat (Rc.Bd f.N f.j e.j - e.N - U)))∧tm'.get [false,true,false]=some (.int .u64 (.ofNat W))∧∀ p∈[[],[true],[true,false,false,false,true],[false,false,false,false,true],[false,true,true],[false,false,true],[true,false,false]],tm'.get p=tm2.get p) ?_ ?_
  · simp only [↓aQ,A3,reduceCtorEq,a11,a12,y5]
    exact ⟨rfl,rfl,rfl,by simp [a17],by simp [a11],by simp [a12],fun p hp=>by rw [T.aB,if_neg (jL hp (by decide))];exact o8 p hp⟩
  rintro tm9 df9 H9 ⟨rfl,rfl,b17,b11,b12,o9⟩
  obtain ⟨d,hd,hd1,hd2,hd3⟩:=Rc.yQ (e:=Rc.sB tb e x) (by rw [hS1];exact hms0)
  have hst:Rc.step tb e x=⟨(Rc.sB tb e x).N*256 ^ d,(Rc.sB tb e x).j+d,(Rc.sB tb e x).s*256 ^ d⟩:=hd3
  have hdj:(Rc.sB tb e x).j+d≤f.j:=by
   have:=hstep.j
   rw [hst] at this
   exact this
  have b10:tm9.get [false,false,true]=some (yR bx):=by rw [o9 _ (by decide),o2 _ (by decide)];exact t10
  have hbb:H9.base≤bx:=by rw [fr01.base];omega
  refine bC.seq (φ:=D0 f.N f.j bx h0.next code (Rc.sB tb e x) tm9 H9 d) (bC.Be ?_) ?_
  · refine bC.mono (aR2 (e:=Rc.sB tb e x) (tm0:=tm9) (h:=H9) (lim:=h0.next) hN hc hfs hin2 hd hd1 hd2 hdj hbb b10 ⟨rfl,?_,?_,fun p _ _ _=>rfl,wf1,Fr.refl _ _,?_⟩) fun ex tm df H hh=>⟨hh.1,hh.2⟩
    · rw [hN1,hJ1,Nat.pow_zero,Nat.mul_one,Nat.add_zero,← Nat.sub_sub];exact b11
    · rw [hS1,Nat.pow_zero,Nat.mul_one];exact b12
    · rw [hJ1,Nat.add_zero];exact rd1
  rintro tmA dfA HA ⟨rfl,c11,c12,othA,wfA,frA,rdA⟩
  have nA:=frA.next
  have oA:∀ p∈[[],[true],[true,false,false,false,true],[false,false,false,false,true],[false,true,true],[false,false,true],[true,false,false]],tmA.get p=tm.get p:=fun p hp=>by
   rw [othA p (fun e=>jL hp (q:=[true,true,false]) (by decide) e.symm) (fun e=>jL hp (q:=[false,true,false]) (by decide) e.symm) (fun e=>jL hp (q:=[true,true,false,true,true,false]) (by decide) e.symm),o9 p hp,o2 p (hKE p hp)]
  have cA13:tmA.get [true,false,false]=some ov:=by rw [oA _ (by decide)];exact t13
  have cA17:tmA.get [true,false,true,true]=some (A0 x):=by rw [othA _ (by decide) (by decide) (by decide)];exact b17
  have hcapA:Ir HA ov cap w:=hcap1.bT fun c hc=>frA.at_ c (hov1 c hc).2.1 fun e=>(hov1 c hc).2.2.1 e
  have hmodA:vQ n HA mv w fp1:=hmod1.bT fun k hk=>frA.at_ k (hfp1 k hk).2.1 fun e=>(hfp1 k hk).2.2 e
  have bA:HA.base=h0.base:=frA.base.trans fr01.base
  have frA0:Fr (fun _=>False) h0 HA:=fr01.trans frA fun k hk e=>by omega
  have hsl:Sl 1 (HA.new (aT [A1 x] 1 5 true)) (cB HA.next 0 1 1) 1 (dR [x]):=⟨rfl,.inr ⟨_,_,_,rfl,by omega,fS (vs:=[A1 x]) (n:=1) (e:=5) (cl:=true) (by rw [aM,if_pos rfl]) (Nat.le_refl _)⟩⟩
  have hcapB:Ir (HA.new (aT [A1 x] 1 5 true)) ov cap w:=hcapA.bT fun c hc=>by rw [aM,if_neg (by have:=(hov1 c hc).2.1;omega)]
  obtain ⟨v',HB,ea,hcB,wfB,nB,frB,blB⟩:=aOD (wfA.new _) hcapB (by omega) (by omega) hsl fun c hc=>by rw [dX,bA];have:=(hov1 c hc).1;omega
  rw [aF] at nB
  have y6:Nat.ble (0+1) 1=true:=rfl
  have w8x:aR .u8 (.ofNat x)=.ofNat x:=w8 hx
  refine bC.seq (φ:=fun tm' df' H'=>df'=[]∧H'=HB∧tm'.get [true,false,false]=some v'∧∀ p,p≠[true,false,false]→tm'.get p=tmA.get p) ?_ ?_
  · simp only [↓aQ,A3,reduceCtorEq,cA13,cA17,w8x,y6,gE,ea]
    exact ⟨rfl,rfl,rfl,by simp,fun p hp=>by rw [T.aB,if_neg (fun e=>hp e.symm)]⟩
  rintro tmB dfB H' ⟨rfl,rfl,d13,oB⟩
  have d8:tmB.get [false,true,true]=some mv:=by rw [oB _ (by decide),oA _ (by decide)];exact t8
  have d17:tmB.get [true,false,true,true]=some (A0 x):=by rw [oB _ (by decide)];exact cA17
  have frAB:Fr (gY ov) HA H':=(Fr.new (P:=gY ov) _).trans frB fun k _ h=>h
  have hmodB:vQ n H' mv w fp1:=hmodA.bT fun k hk=>frAB.at_ k (by have:=(hfp1 k hk).2.1;omega) fun hb=>(hov1 k hb).2.2.2 hk
  obtain ⟨HC,e9,hmodC,wfC,frC⟩:=aD3 hC.ads hC.afs hmodB wfB (fun k hk=>by rw [frAB.base,bA];have:=(hfp1 k hk).1;omega) (by omega) hx
  unfold tbS at e9
  have nC:=frC.next
  simp only [↓aQ,A3,reduceCtorEq,d8,d17,w8x,Ln,e9]
  have g:∀ p∈[[],[true],[true,false,false,false,true],[false,false,false,false,true],[false,true,true],[false,false,true]],tmB.get p=tm.get p:=fun p hp=>by
   have h13:p≠[true,false,false]:=fun e=>jL hp (q:=[true,false,false]) (by decide) e.symm
   have hp2:p∈[[],[true],[true,false,false,false,true],[false,false,false,false,true],[false,true,true],[false,false,true],[true,false,false]]:=by
    simp only [List.mem_cons,List.not_mem_nil,or_false] at hp ⊢
    rcases hp with h|h|h|h|h|h<;>simp [h]
   rw [oB p h13,oA p hp2]
  have hovC:∀ c,gY v' c→h0.next≤c∧c<HC.next∧c≠bx∧¬ grow fp1 H' HC c:=fun c hc=>by
   obtain ⟨a1,a2,a3,a4⟩:=hov1 c (blB c hc)
   refine ⟨a1,by omega,a3,fun h=>?_⟩
   rcases h with h|h
   · exact a4 h
   · omega
  refine ⟨rfl,rfl,by rw [g _ (by decide)];exact t0,by rw [g _ (by decide)];exact t1,by rw [g _ (by decide)];exact t45,by rw [g _ (by decide)];exact t46,by rw [g _ (by decide)];exact t10,?_,?_,wfC,?_,?_,by omega,⟨mv,v',grow fp1 H' HC,d8,hmodC,fun k hk=>?_,d13,?_,hovC⟩⟩
  · rw [hst,oB _ (by decide)];exact c11
  · rw [hst,oB _ (by decide)];exact c12
  · exact (frA0.trans frAB fun k hk h=>by have:=(hov1 k h).1;omega).trans frC fun k hk h=>by have:=(hfp1 k h).1;omega
  · rw [hst]
    refine (rdA.bT (H:=H') ?_ fun c hc=>?_).bT ?_ fun c hc=>?_
    · exact frAB.at_ bx (by omega) fun h=>(hov1 bx h).2.2.1 rfl
    · exact frAB.at_ c (by omega) fun h=>by have:=(hov1 c h).1;omega
    · exact frC.at_ bx (by omega) fun h=>(hfp1 bx h).2.2 rfl
    · exact frC.at_ c (by omega) fun h=>by have:=(hfp1 c h).1;omega
  · rcases hk with h|h
    · have:=hfp1 k h;omega
    · omega
  · exact hcB.bT fun c hc=>frC.at_ c (by have:=(hov1 c (blB c hc)).2.1;omega) fun h=>(hov1 c (blB c hc)).2.2.2 h
 · rintro tm9 df9 H9 ⟨rfl,s0,s1,s45,s46,s10,s11,s12,wf9,fr9,rd9,bx9,⟨m9,ov9,fp9,s8,k1,k2,s13,k3,k4⟩⟩
   have w1:aR .i64 (.ofNat (i+1))=.ofNat (i+1):=bF (by omega)
   simp only [↓aQ,A3,reduceCtorEq,s46,w1]
   exact .go (hgo _ _ _ ⟨rfl,by simp [s0],by simp [s1],by simp [s45],by simp,by simp [s10],by simp [s11],by simp [s12],wf9,fr9,rd9,bx9,⟨m9,ov9,fp9,by simp [s8],k1,k2,by simp [s13],k3,k4⟩⟩)
def aVc (call:Call):Prop:=∀ H a b xs,Sl 1 H a xs.length (dR xs)→Sl 1 H b xs.length (dR xs)→xs.length≤100000→(∀ x∈xs,x<256)→call 68 [a,b] H=.val (.bool true) H
def aR3 (call:Call) (n:Nat):Prop:=∀ H tv text,Wf H→Sl 1 H tv text.length (dR text)→text.length≤1000→(∀ x∈text,x<256)→Yields (call 56 [A0 n,tv] H) (aJZ n text H)
theorem aBC (lo:List Value) (tm:T Value) (h:Hp) (call:Call) (x y:OD):At 5 [A1 0] 1 x y call lo tm h=lP (bW x lo tm) (fun n=>lP (bW y lo tm) (fun c=>bif Nat.ble n c then bif Nat.ble (1*c) 16777216 then bif Nat.ble c 16777216 then .val (cB h.next 0 n c) (h.new (aT (dU c [A1 0]) (dU c [A1 0]).length 5 true)) else .none else .none else .none) .none) .none:=by
 unfold At
 simp only [eG,bD,eF]
 rfl
theorem aOF (n:Nat) (v:Value):(dU n [v]).length=n:=by
 induction n with
 | zero=>rfl
 | succ n ih=>show ([v]++dU n [v]).length=_;rw [List.length_append,ih];simp;omega
theorem Lz (g:FuncId) (x:OD) (lo:List Value) (tm:T Value):Ur g [] [x] lo tm=some (.func (.func g) ⟨[]⟩ ⟨[bW x lo tm]⟩):=rfl
theorem iL.sl {h:Hp} {v:Value} {xs:List Nat} (ho:iL h v xs):Sl 1 h v xs.length (dR xs):=by
 refine ⟨by rw [eZ,Nat.mul_one],?_⟩
 rcases ho with ⟨rfl,rfl|⟨b,o,c,rfl,_⟩⟩|⟨b,o,c,rfl,h0,_,_,hh⟩
 · exact .inl ⟨rfl,.inl rfl⟩
 · exact .inl ⟨rfl,.inr ⟨b,o,c,rfl⟩⟩
 · exact .inr ⟨b,o,c,rfl,h0,hh⟩
theorem bC.lp {r:eL} {id:Nat} {P:T Value→Df→Hp→Prop} {ψ:Ex→T Value→Df→Hp→Prop} {k2:T Value→Df→Hp→eL} {e2:Nat→T Value→Df→Hp→eL} (h:bC r (fun ex tm df H=>ex=.exit id∧P tm df H)) (hk:∀ tm df H,P tm df H→bC (k2 tm df H) ψ):bC (cG.mT (cG.mT r (fun tm df h=>eL.ok Ex.normal tm df h) fun i tm df h=>bif Nat.beq i id then eL.ok Ex.normal tm df h else eL.ok (Ex.exit i) tm df h) k2 e2) ψ:=by
 refine bC.mT (φ:=fun ex tm df H=>ex=.normal∧P tm df H) (bC.mT h ?_) ?_
 · rintro ex tm df H ⟨rfl,hp⟩
   show bC (bif Nat.beq id id then _ else _) _
   rw [Nat.beq_refl];exact ⟨rfl,hp⟩
 · rintro ex tm df H ⟨rfl,hp⟩
   exact hk _ _ _ hp
def aVd (text:List Nat) (h:Hp) (r:Value) (H:Hp):Prop:=∃ v,r=.tuple ⟨[v,A0 0]⟩∧Ir H v text.length text∧(∀ c,gY v c→h.next≤c∧c<H.next)∧Wf H∧Fr (fun _=>False) h H
theorem Ma {call:Call} {cd:cE} {n:Nat} {cv:Value} {text:List Nat} {h:Hp} (hC:aJX call) (hN:Pz call) (hB:Sq call n) (hE:aR3 call n) (hQ:aVc call) (hw:Wf h) (hcv:iL h cv (Rc.enc (cU n) text)) (hlen:text.length≤1000) (hbyte:∀ x∈text,x<256) :
 Yields (dD Ge call cd [A0 n,cv,A0 text.length] h) (aVd text h):=by
 obtain ⟨mv,H1,e1,fp,hmod,wf1,fr1,hfp⟩:=(hB h hw).get
 obtain ⟨ty,vv,rfl⟩:=hmod.form
 have hg:=uN n
 have hst:=Rc.Ll hg hbyte (by omega:text.length≤2000)
 have hjl:=Rc.aFN (cU n) text
 have n1:=fr1.next
 have hwb:=hw.base
 have hel:(Rc.enc (cU n) text).length≤4*text.length+4:=by
  refine Nat.le_trans (Rc.Px _) ?_
  rw [Rc.iK];omega
 have q1:Nat.blt 65536 text.length=false:=cI (by omega)
 have q2:uB (.ofNat text.length) (.ofNat 0)=false:=rfl
 have hcode:Code (Rc.st (cU n) text).N (Rc.st (cU n) text).j (Rc.enc (cU n) text):=by
  refine ⟨?_,fun m hm=>?_,Rc.Eh _ _⟩
  · have h1:=hst.top
    have h2:=hst.lo
    have e:256 ^ ((Rc.st (cU n) text).j+4)=4294967296*256 ^ (Rc.st (cU n) text).j:=by rw [Nat.pow_add,Nat.mul_comm]
    rw [e];omega
  · rw [Rc.aOu (cU n) text hm,show (Rc.st (cU n) text).j+4 - 1 - m=(Rc.st (cU n) text).j+3 - m by omega]
 have y1:Nat.ble (0+1) 1=true:=rfl
 have qone:=hcv.one
 refine aP rfl ?_
 simp only [↓aQ,A3,reduceCtorEq,cN,cP,e1,zP,aBB,q1,q2,y1,qone,Lz,aBC]
 generalize hHB:(H1.new (aT [Value.slice none 0 0] 1 26 true)).put H1.next _=HB
 have hatB:HB.at H1.next=some (dY.row (aL [cv] 0 (aL [Value.slice none 0 0] 0 T.nil fun t=>t) fun t=>t) 1 26 true false):=by rw [← hHB,aJ,if_pos rfl]
 have wfB:Wf HB:=by rw [← hHB];exact (wf1.new _).put (by rw [aF];omega) _
 have b1:H1.base=h.base:=fr1.base
 have frB:Fr (fun _=>False) h HB:=by
  rw [← hHB]
  exact (fr1.dE _).cJ _ (fun h=>by omega) (by omega)
 have nB:HB.next=H1.next+1:=by rw [← hHB];rfl
 have hcvB:iL HB cv (Rc.enc (cU n) text):=hcv.bT fun c h0 hc=>frB.at_ c (hcv.sl.lt hw h0 hc) fun h=>h
 have hrdB:RdR h.next HB H1.next ((Rc.enc (cU n) text).drop 0):=⟨cv,⟨_,_,_,hatB,by rw [bM,if_pos ⟨Nat.le_refl _,by simp⟩];rfl⟩,hcvB,fun c h0 hc=>hcv.sl.lt hw h0 hc,n1⟩
 have hbb:HB.base≤H1.next:=by rw [frB.base];omega
 have hmodB:vQ n HB (.iface ty vv) [] fp:=hmod.bT fun k hk=>by
  have:=hfp k hk
  rw [← hHB,aJ,if_neg (by omega),aM,if_neg (by omega)]
 generalize hS:Rc.st (cU n) text=S at *
 refine bC.lp (aR0 hN hcode hbb ?_ ⟨rfl,?_,?_,fun p _ _ _=>rfl,wfB,Fr.refl _ _,hrdB⟩) ?_
 · simp [T.aB];rfl
 · have:=hcode.lt (k:=0) (by omega)
   rw [Nat.pow_zero] at this
   rw [Nat.lt_one_iff.1 this]
   simp [T.aB]
 · simp [T.aB]
 rintro tm2 df2 H2 ⟨rfl,u11,u35,oth2,wf2,fr2,rd2⟩
 have v0:tm2.get []=some (A0 n):=by rw [oth2 _ (by decide) (by decide) (by decide)];simp [T.aB,m0]
 have v1:tm2.get [true]=some cv:=by rw [oth2 _ (by decide) (by decide) (by decide)];simp [T.aB,m8]
 have v2:tm2.get [false]=some (A0 text.length):=by rw [oth2 _ (by decide) (by decide) (by decide)];simp [T.aB,pW]
 have v8:tm2.get [false,true,true]=some (.iface ty vv):=by rw [oth2 _ (by decide) (by decide) (by decide)];simp [T.aB]
 have v10:tm2.get [false,false,true]=some (yR H1.next):=by rw [oth2 _ (by decide) (by decide) (by decide)];simp [T.aB];rfl
 have x1:Nat.ble 0 text.length=true:=rfl
 have x2:Nat.ble (1*text.length) 16777216=true:=cX (by omega)
 have x3:Nat.ble text.length 16777216=true:=cX (by omega)
 simp only [↓aQ,A3,reduceCtorEq,v2,aBC,x1,x2,x3,aOF]
 have n2:=fr2.next
 have hjl':=hjl
 refine bC.lp (id:=2) (P:=fun tm df H=>DeS n (A0 n) cv text.length H1.next (Rc.enc (cU n) text) h S.N S.j text.length (text.take text.length) (Rc.st (cU n) (text.take text.length)) tm df H) ?_ ?_
 · refine cT (n:=text.length) (by omega) (fun i tm df H=>DeS n (A0 n) cv text.length H1.next (Rc.enc (cU n) text) h S.N S.j i (text.take i) (Rc.st (cU n) (text.take i)) tm df H) ?_ ?_ ?_
   · intro i tm df H hi hI
     obtain ⟨x,hx⟩:∃ x,text[i]?=some x:=⟨text[i],List.getElem?_eq_getElem hi⟩
     have hwb:∀ y∈text.take i,y<256:=fun y hy=>hbyte y (List.mem_of_mem_take hy)
     have hwl:(text.take i).length=i:=by rw [List.length_take];omega
     have hok:=Rc.Ll hg hwb (by omega)
     have hin:Rc.In (Rc.step (cU n (text.take i)) (Rc.st (cU n) (text.take i)) x) S:=by
      rw [← Rc.Eg,← lI hx,← hS]
      have:=Rc.aQO hg (w:=text.take (i+1)) (r:=text.drop (i+1)) (by rw [List.take_append_drop];exact hbyte) (by rw [List.take_append_drop];omega)
      rw [List.take_append_drop] at this
      exact this
     refine aFO hC hN hw hlen hcode (by have:=hst.lo;omega) n1 hi (hbyte x (List.mem_of_getElem? hx)) hwl hwb hok hin hI fun tm' df' H' hes=>?_
     show DeS n _ cv text.length H1.next _ h S.N S.j (i+1) (text.take (i+1)) _ tm' df' H'
     rw [lI hx,Rc.Eg]
     exact hes
   · intro tm df H hI
     obtain ⟨rfl,t0,t1,t45,t46,t10,t11,t12,wf,fr,rd,bxl,⟨m,ov,fp',t8,a1,a2,t13,a3,a4⟩⟩:=hI
     have e1:Nat.blt text.length text.length=false:=cI (Nat.le_refl _)
     unfold qL
     simp only [↓aQ,A3,reduceCtorEq,t45,t46,e1]
     exact .ex ⟨rfl,⟨rfl,by simp [t0],by simp [t1],by simp [t45],by simp [t46],by simp [t10],by simp [t11],by simp [t12],wf,fr,rd,bxl,⟨m,ov,fp',by simp [t8],a1,a2,by simp [t13],a3,a4⟩⟩⟩
   · have hk:∀ c,c<H2.next→(H2.new (aT (dU text.length [A1 0]) text.length 5 true)).at c=H2.at c:=fun c hc=>by rw [aM,if_neg (by omega)]
     refine ⟨rfl,by simp [v0],by simp [v1],by simp,by simp,by simp [v10],?_,?_,wf2.new _,(frB.trans fr2 fun k hk e=>by omega).dE _,?_,by rw [aF];omega,⟨_,_,fp,by simp [v8]<;>rfl,hmodB.bT fun k hk'=>?_,fun k hk'=>?_,by simp<;>rfl,⟨_,_,_,_,rfl,by rw [aM,if_pos rfl];rfl,Nat.zero_le _,fun k hk'=>by simp at hk'⟩,fun c hc=>?_⟩⟩
     · simp [T.aB,u11,Rc.Lu,Rc.start,Rc.Bd]
     · simp [T.aB,Rc.Lu,Rc.start]
     · rw [List.take_zero,Rc.Lu]
       show RdR _ _ _ ((Rc.enc (cU n) text).drop (0+4))
       exact rd2.bT (hk _ (by omega)) fun c hc=>hk c (by omega)
     · have:=hfp k hk'
       rw [hk k (by omega)]
       exact fr2.at_ k (by omega) (by omega)
     · have:=hfp k hk'
       rw [aF]
       omega
     · have:=fB hc
       subst this
       rw [aF]
       exact ⟨by omega,by omega,by omega,fun h'=>by have:=hfp _ h';omega⟩
 rintro tm3 df3 H3 ⟨rfl,t0,t1,t45,t46,t10,t11,t12,wf3,fr3,rd3,bxl3,⟨m,ov,fp',t8,a1,a2,t13,a3,a4⟩⟩
 rw [List.take_length] at a3
 obtain ⟨rv,H4,e4,cv',rfl,c1,c2,c3,c4⟩:=(hE H3 ov text wf3 a3.sl hlen hbyte).get
 have hcv4:iL H4 cv (Rc.enc (cU n) text):=hcv.bT fun c h0 hc=>(fr3.trans c4 fun _ _ h=>h).at_ c (hcv.sl.lt hw h0 hc) fun h=>h
 have e5:=hQ H4 cv' cv (Rc.enc (cU n) text) c1 hcv4.sl (by omega) (Rc.Eh _ _)
 simp only [↓aQ,A3,reduceCtorEq,t0,t1,t13,e4,iX,nW,oD,e5]
 refine .ret ?_
 simp only [iO,↓aQ,A3,reduceCtorEq]
 exact ⟨ov,rfl,a3.bT fun c hc=>c4.at_ c (a4 c hc).2.1 fun h=>h,fun c hc=>⟨(a4 c hc).1,by have:=(a4 c hc).2.1;have:=c4.next;omega⟩,c3,fr3.trans c4 fun _ _ h=>h⟩
structure EqS (a b:Value) (n:Nat) (h:Hp) (i:Nat) (tm:T Value) (df:Df) (H:Hp):Prop where
 df:df=[]
 hh:H=h
 t0:tm.get []=some a
 t1:tm.get [true]=some b
 t12:tm.get [false,true,false]=some (A0 n)
 t13:tm.get [true,false,false]=some (A0 i)
theorem aOG {call:Call} {cd:cE} {h:Hp} {a b:Value} {xs:List Nat} (ha:Sl 1 h a xs.length (dR xs)) (hb:Sl 1 h b xs.length (dR xs)) (hl:xs.length≤100000) (hbyte:∀ x∈xs,x<256):dD Sr call cd [a,b] h=.val (.bool true) h:=by
 have key:Yields (dD Sr call cd [a,b] h) (fun v H=>v=.bool true∧H=h):=by
  have la:=ha.len
  have lb:=hb.len
  refine aP rfl ?_
  have q0:Nat.beq xs.length xs.length=true:=Nat.beq_refl _
  simp only [↓aQ,A3,reduceCtorEq,cN,cP,la,lb,q0]
  refine bC.lp (id:=0) (P:=EqS a b xs.length h xs.length) ?_ ?_
  · refine cT (n:=xs.length) (by omega) (EqS a b xs.length h) ?_ ?_ ?_
    · intro i tm df H hi p
      obtain ⟨rfl,rfl,t0,t1,t12,t13⟩:=p
      obtain ⟨ba,oa,ca,rfl,hha⟩:=ha.pos (by omega)
      obtain ⟨bb,ob,cb,rfl,hhb⟩:=hb.pos (by omega)
      obtain ⟨x,hx⟩:∃ x,xs[i]?=some x:=⟨xs[i],List.getElem?_eq_getElem hi⟩
      obtain ⟨c1,m1,e1,cl1,ro1,hat1,hm1,hc1⟩:=hha.get (iH hx)
      obtain ⟨c2,m2,e2,cl2,ro2,hat2,hm2,hc2⟩:=hhb.get (iH hx)
      have q1:Nat.blt i xs.length=true:=bU hi
      have q2:Nat.blt (oa+i*1) m1=true:=bU (by omega)
      have q3:c1.get (path (oa+i*1))=some (A1 x):=by rw [Nat.mul_one];exact hc1
      have q4:Nat.blt (ob+i*1) m2=true:=bU (by omega)
      have q5:c2.get (path (ob+i*1))=some (A1 x):=by rw [Nat.mul_one];exact hc2
      have q6:Nat.beq x x=true:=Nat.beq_refl _
      have w1:aR .i64 (.ofNat (i+1))=.ofNat (i+1):=bF (by omega)
      unfold Gg
      simp only [↓aQ,A3,reduceCtorEq,t0,t1,t12,t13,q1,dI,dJ,hat1,hat2,q2,q3,q4,q5,q6,w1]
      exact .go ⟨rfl,rfl,by simp [t0],by simp [t1],by simp [t12],by simp⟩
    · intro tm df H p
      obtain ⟨rfl,rfl,t0,t1,t12,t13⟩:=p
      have q1:Nat.blt xs.length xs.length=false:=cI (Nat.le_refl _)
      unfold Gg
      simp only [↓aQ,A3,reduceCtorEq,t12,t13,q1]
      exact .ex ⟨rfl,rfl,rfl,by simp [t0],by simp [t1],by simp [t12],by simp [t13]⟩
    · exact ⟨rfl,rfl,by simp [cN],by simp [cP],by simp,by simp⟩
  rintro tm df H ⟨rfl,rfl,t0,t1,t12,t13⟩
  simp only [↓aQ,A3,reduceCtorEq]
  refine .ret ?_
  simp only [↓aQ,A3,reduceCtorEq,eS]
 obtain ⟨v,H,e,rfl,rfl⟩:=key.get
 exact e
def WrR (P:Nat→Prop) (H:Hp) (wb:Nat) (l:List Nat):Prop:=∃ ov,Af H wb ov∧Out 5 1 P H ov l.length (dR l)
def be:Nat→Nat→List Nat
 | 0,_=>[]
 | w+1,n=>n / 256 ^ w % 256::be w n
def dn (k:Nat):Int:=match k with|0=>.negSucc 0|k+1=>.ofNat k
structure N0 (P:Nat→Prop) (wb x w:Nat) (l:List Nat) (tm0:T Value) (h:Hp) (k:Nat) (tm:T Value) (df:Df) (H:Hp):Prop where
 df:df=[]
 t0:tm.get []=some (bE wb 0)
 t7:tm.get [true,true,true]=some (A0 x)
 t8:tm.get [false,true,true]=some (.int .i64 (dn (w - k)))
 pP:∀ p,p≠[false,true,true]→p≠[false,false,true,true]→tm.get p=tm0.get p
 wf:Wf H
 fr:Fr (fun k=>k=wb∨P k) h H
 wr:∃ a,a++be (w - k) x=l++be w x∧WrR P H wb a
theorem aR4 {call:Call} {P:Nat→Prop} {wb x w:Nat} {l:List Nat} {tm0:T Value} {h:Hp} (hw:w≤3) (hx:x<16777216) (hl:l.length≤50000) (hP:∀ k,P k→h.base≤k) (hPn:∀ k,h.next≤k→P k) (hwb:h.base≤wb) (hPw:¬ P wb) {tm:T Value} {df:Df} {H:Hp} (hst:N0 P wb x w l tm0 h 0 tm df H) :
 bC (iP (.loop lT) call tm df H) (fun ex tm df H=>ex=.exit 2∧N0 P wb x w l tm0 h w tm df H):=by
 refine cT (n:=w) (by omega) (N0 P wb x w l tm0 h) (fun k tm df H hk hI=>?_) (fun tm df H hI=>?_) hst
 · obtain ⟨rfl,t0,t7,t8,pP,wf,fr,⟨a,ha,ov,⟨c,e,cl,hat,hc⟩,hout⟩⟩:=hI
   obtain ⟨i,hi⟩:∃ i,w - k=i+1:=⟨w - k - 1,by omega⟩
   rw [hi] at t8 ha
   have t8':tm.get [false,true,true]=some (A0 i):=t8
   have hbb:H.base=h.base:=fr.base
   have q0:Nat.blt 0 1=true:=rfl
   have q1:Nat.ble (0+1) 1=true:=rfl
   have e1:uB (.ofNat i) (.ofNat 0)=false:=rfl
   have m1:iU .i64 (.ofNat 8) (.ofNat i)=some (A0 (8*i)):=by
    unfold iU
    rw [jC,show aNw (.ofNat 8) (.ofNat i)=.ofNat (8*i) from rfl,bF (by omega)]
   have h3:i=0∨i=1∨i=2:=by omega
   have sh:Jt .i64 (.ofNat x) (.ofNat (8*i))=some (A0 (x / 256 ^ i)):=by
    rcases h3 with rfl|rfl|rfl
    all_goals (show nU .i64 (aEV (.ofNat x) _)=_;rw [jC];rfl)
   have sb:gP .i64 (.ofNat i) (.ofNat 1)=some (.int .i64 (dn i)):=by
    rcases h3 with rfl|rfl|rfl<;>rfl
   have w8:aR .u8 (.ofNat (x / 256 ^ i))=.ofNat (x / 256 ^ i % 256):=nD _
   have hbe:be (i+1) x=x / 256 ^ i % 256::be i x:=rfl
   rw [hbe] at ha
   generalize hY:x / 256 ^ i % 256=y at *
   have ha':(a++[y])++be i x=l++be w x:=by rw [← ha];simp
   have hal:a.length≤50003:=by
    have e1:=congrArg List.length ha
    have fD:∀ w,(be w x).length=w:=fun w=>by
     induction w with
     | zero=>rfl
     | succ w ih=>show (be w x).length+1=_;rw [ih]
    rw [List.length_append,List.length_append,List.length_cons,fD,fD] at e1
    omega
   have hwbn:wb<H.next:=wf.lt hat
   have fin:∀ (X:Hp) (v2:Value),Wf X→H.next≤X.next→(∀ b,b<H.next→¬ P b→X.at b=H.at b)→Out 5 1 P X v2 (a.length+1) (dR (a++[y])) →
    Wf (aS (X.put wb (some (.row (aL [v2] 0 c fun t=>t) 1 e cl false))) H.base H.log)∧Fr (fun k=>k=wb∨P k) h (aS (X.put wb (some (.row (aL [v2] 0 c fun t=>t) 1 e cl false))) H.base H.log)∧∃ a',a'++be i x=l++be w x∧WrR P (aS (X.put wb (some (.row (aL [v2] 0 c fun t=>t) 1 e cl false))) H.base H.log) wb a':=by
    intro X v2 hX hn hXat ho2
    have hb0:=wf.base
    refine ⟨(hX.put (by omega) _).Iq (by rw [aV];omega) _,fr.trans (Q:=fun k=>k=wb∨P k) ⟨rfl,rfl,by rw [cL,aV];exact hn,fun b hb hp=>?_⟩ fun _ _ h=>h,a++[y],ha',v2,⟨_,e,cl,by rw [dM,aJ,if_pos rfl],by rw [bM,if_pos ⟨Nat.le_refl _,by simp⟩];rfl⟩,?_⟩
    · rw [dM,aJ,if_neg (fun e=>hp (.inl e.symm))]
      exact hXat b hb fun h=>hp (.inr h)
    · rw [List.length_append]
      exact ho2.bT fun c hc _=>by rw [dM,aJ,if_neg (fun e=>hPw (by rw [e];exact hc))]
   have hcells:∀ n g,cellsOf (aS (H.new (aT [A1 y] 1 5 true)) n g) H.next 0 (1*1)=some [A1 y]:=fun n g=>Has.cells (fS (vs:=[A1 y]) (n:=1) (e:=5) (cl:=true) (by rw [dM,aM,if_pos rfl]) (Nat.le_refl _)) rfl
   have k1:Nat.ble (H.next+1) wb=false:=eN (by omega)
   have k2:Nat.ble H.next wb=false:=eN (by omega)
   have k3:H.next+1≠wb:=by omega
   have k4:H.next≠wb:=by omega
   have k7:Nat.ble 1 1=true:=rfl
   have k8:(comp Ek 4 14)=true:=by decide
   have k5:∀ l,below H.base [wb] l=l:=fun l=>Ld (by rw [hbb];exact hwb)
   have k6:jN (H.next+1+1) [] wb=[wb]:=aDV (bU (by omega))
   obtain ⟨ol,oo,⟨on,ox⟩|⟨bo,rfl,on,hown,hPb⟩⟩:=hout
   · have hnil:a=[]:=List.eq_nil_of_length_eq_zero on
     subst hnil
     have ap:∀ n g,mQ 5 1 ov (cB H.next 0 1 1) (aS (H.new (aT [A1 y] 1 5 true)) n g)=.val (cB (H.next+1) 0 1 (cM 1 1)) (aS ((H.new (aT [A1 y] 1 5 true)).new (aT [A1 y] 1 5 false)) n g):=fun n g=>by
      rw [zQ ox (by omega) (by omega) (hcells n g)];rfl
     simp only [↓aQ,A3,reduceCtorEq,Nat.reduceAdd,Nat.reduceLT,Nat.reduceMul,Nat.reduceSub,lT,t0,t7,t8',e1,m1,sh,w8,sb,dI,dJ,hat,hc,q0,q1,Ea,gE,ap,k1,k2,k3,k4,k5,k6,k7,k8]
     obtain ⟨f1,f2,f3⟩:=fin ((H.new (aT [A1 y] 1 5 true)).new (aT [A1 y] 1 5 false)) (cB (H.next+1) 0 1 (cM 1 1)) ((wf.new _).new _) (by rw [aF,aF];omega) (fun b hb _=>by rw [aM,if_neg (by rw [aF];omega),aM,if_neg (by omega)])
      ⟨rfl,rfl,.inr ⟨_,rfl,by omega,nE (vs:=[A1 y]) rfl,hPn _ (by have:=fr.next;omega)⟩⟩
     exact .go ⟨rfl,by simp [t0],by simp [t7],by rw [show w - (k+1)=i by omega];simp [T.aB],fun p h1 h2=>by rw [T.aB,if_neg (fun e=>h1 e.symm),T.aB,if_neg (fun e=>h2 e.symm)];exact pP p h1 h2,f1,f2,by rw [show w - (k+1)=i by omega];exact f3⟩
   · have hob:Nat.ble H.next bo=false:=eN (hown.lt wf)
     have hbo:bo<H.next:=hown.lt wf
     have j0:Nat.beq wb bo=false:=dO (fun e=>hPw (by rw [e];exact hPb))
     have j1:bo≠wb:=fun e=>hPw (by rw [← e];exact hPb)
     have j2:∀ l,below H.base [bo] l=l:=fun l=>Ld (by rw [hbb];exact hP bo hPb)
     have j3:jN (H.next+1) [] bo=[bo]:=aDV (bU (by omega))
     have ap:∀ n g,mQ 5 1 (cB bo 0 a.length (cM 1 a.length)) (cB H.next 0 1 1) (aS (H.new (aT [A1 y] 1 5 true)) n g)=.val (cB (H.next+1) 0 (a.length+1) (cM 1 (a.length+1))) (aS (((H.new (aT [A1 y] 1 5 true)).put bo none).new (aT (dR (a++[y])) (dR (a++[y])).length 5 false)) n (jN n g bo)):=fun n g=>by
      rw [Ed (e:=5) (vs:=dR a) (by omega) (by omega) on ol rfl (hcells n g) (hown.bT (by rw [dM,aM,if_neg (by omega)])),lO];rfl
     simp only [↓aQ,A3,reduceCtorEq,Nat.reduceAdd,Nat.reduceLT,Nat.reduceMul,Nat.reduceSub,lT,t0,t7,t8',e1,m1,sh,w8,sb,dI,dJ,hat,hc,q0,q1,Ea,gE,ap,k1,k2,k3,k4,k5,k6,k7,k8,hob,j0,j1,j2,j3,aJ]
     obtain ⟨f1,f2,f3⟩:=fin (((H.new (aT [A1 y] 1 5 true)).put bo none).new (aT (dR (a++[y])) (dR (a++[y])).length 5 false)) (cB (H.next+1) 0 (a.length+1) (cM 1 (a.length+1))) (((wf.new _).put (by rw [aF];omega) _).new _) (by rw [aF,aV,aF];omega) (fun b hb hp=>by rw [aM,if_neg (by rw [aV,aF];omega),aJ,if_neg (fun e=>hp (by rw [← e];exact hPb)),aM,if_neg (by omega)])
      ⟨by rw [eZ,List.length_append,Nat.mul_one];rfl,jJ _,.inr ⟨_,rfl,by omega,nE rfl,hPn _ (by have:=fr.next;omega)⟩⟩
     exact .go ⟨rfl,by simp [t0],by simp [t7],by rw [show w - (k+1)=i by omega];simp [T.aB],fun p h1 h2=>by rw [T.aB,if_neg (fun e=>h1 e.symm),T.aB,if_neg (fun e=>h2 e.symm)];exact pP p h1 h2,f1,f2,by rw [show w - (k+1)=i by omega];exact f3⟩
 · obtain ⟨rfl,t0,t7,t8,pP,wf,fr,hwr⟩:=hI
   have t8':tm.get [false,true,true]=some (.int .i64 (.negSucc 0)):=by rw [t8,Nat.sub_self];rfl
   have e1:uB (.negSucc 0) (.ofNat 0)=true:=rfl
   simp only [↓aQ,A3,reduceCtorEq,lT,t8',e1]
   refine .ex ⟨rfl,rfl,by simp [t0],by simp [t7],by simp [t8],fun p h1 h2=>?_,wf,fr,hwr⟩
   rw [T.aB,if_neg (fun e=>h2 e.symm)]
   exact pP p h1 h2
theorem fD (w n:Nat):(be w n).length=w:=by
 induction w with
 | zero=>rfl
 | succ w ih=>show (be w n).length+1=_;rw [ih]
noncomputable def vS (l:List Nat):List Value:=l.map fun x=>A0 x
theorem Ji (l:List Nat):(vS l).length=l.length:=by simp [vS]
theorem aD5 {l:List Nat} {k x:Nat} (h:l[k]?=some x):(vS l)[k]?=some (A0 x):=by simp [vS,h]
def zS (w:Nat) (ns:List Nat):List Nat:=ns.flatMap (be w)
theorem Xo {w i x:Nat} {ns:List Nat} (h:ns[i]?=some x):zS w (ns.take (i+1))=zS w (ns.take i)++be w x:=by
 rw [lI h]
 simp [zS]
theorem vT (w:Nat) (ns:List Nat):(zS w ns).length=w*ns.length:=by
 unfold zS
 induction ns with
 | nil=>simp
 | cons x ns ih=>rw [List.flatMap_cons,List.length_append,fD,ih,List.length_cons,Nat.mul_succ];omega
structure N1 (P:Nat→Prop) (wb w:Nat) (lv:Value) (ns l:List Nat) (h:Hp) (i:Nat) (tm:T Value) (df:Df) (H:Hp):Prop where
 df:df=[]
 t0:tm.get []=some (bE wb 0)
 t1:tm.get [true]=some (A0 w)
 t9:tm.get [true,false,true]=some lv
 t10:tm.get [false,false,true]=some (A0 ns.length)
 t11:tm.get [true,true,false]=some (A0 i)
 wf:Wf H
 fr:Fr (fun k=>k=wb∨P k) h H
 wr:WrR P H wb (l++zS w (ns.take i))
def aVe (P:Nat→Prop) (wb:Nat) (l:List Nat) (h:Hp) (r:Value) (H:Hp):Prop:=r=.tuple ⟨[]⟩∧Wf H∧Fr (fun k=>k=wb∨P k) h H∧WrR P H wb l
theorem aOH {call:Call} {cd:cE} {P:Nat→Prop} {wb w:Nat} {lv:Value} {ns l:List Nat} {h:Hp} (hw:Wf h) (hw0:0<w) (hw3:w≤3) (hns:∀ x∈ns,x<16777216) (hl:l.length+3*ns.length≤50000) (hP:∀ k,P k→h.base≤k) (hPn:∀ k,h.next≤k→P k) (hwb:h.base≤wb) (hPw:¬ P wb) (hlv:Sl 1 h lv ns.length (vS ns)) (hlb:∀ c,gY lv c→c≠wb∧¬ P c) (hwr:WrR P h wb l) :
 Yields (dD Bh call cd [bE wb 0,A0 w,lv] h) (aVe P wb (l++zS w ns) h):=by
 have hlen:=hlv.len
 refine aP rfl ?_
 simp only [↓aQ,A3,reduceCtorEq,m0,m8,pW,hlen]
 refine bC.mono (φ:=fun ex tm df H=>ex=.normal∧N1 P wb w lv ns l h ns.length tm df H) (bC.mT (φ:=fun ex tm df H=>ex=.exit 0∧N1 P wb w lv ns l h ns.length tm df H) ?_ ?_) ?_
 · refine cT (n:=ns.length) (by omega) (N1 P wb w lv ns l h) (fun i tm df H hi hI=>?_) (fun tm df H hI=>?_) ?_
   · obtain ⟨rfl,t0,t1,t9,t10,t11,wf,fr,wr⟩:=hI
     obtain ⟨x,hx⟩:∃ x,ns[i]?=some x:=⟨ns[i],List.getElem?_eq_getElem hi⟩
     obtain ⟨b,o,c,rfl,hhas⟩:=hlv.pos (by omega)
     have hb:=hlb b ⟨_,_,_,rfl⟩
     have hbl:=hhas.lt hw
     obtain ⟨c1,m1,e1,cl1,ro1,hat1,hm1,hc1⟩:=(hhas.bT (H:=H) (fr.at_ b hbl fun h=>h.elim (fun h=>hb.1 h) fun h=>hb.2 h)).get (aD5 hx)
     have q1:Nat.blt i ns.length=true:=bU hi
     have q2:Nat.blt (o+i*1) m1=true:=bU (by omega)
     have q3:c1.get (path (o+i*1))=some (A0 x):=by rw [Nat.mul_one];exact hc1
     have sb:gP .i64 (.ofNat w) (.ofNat 1)=some (.int .i64 (dn (w - 0))):=by
      have h3:w=1∨w=2∨w=3:=by omega
      rcases h3 with rfl|rfl|rfl<;>rfl
     have w1:aR .i64 (.ofNat (i+1))=.ofNat (i+1):=bF (by omega)
     have n1:=fr.next
     have hb1:H.base=h.base:=fr.base
     have htl:(ns.take i).length=i:=by rw [List.length_take];omega
     unfold tQ
     simp only [↓aQ,A3,reduceCtorEq,t0,t1,t9,t10,t11,q1,hat1,q2,q3,sb]
     refine bC.mT (φ:=Nm fun tm' df' H'=>df'=[]∧tm'.get []=some (bE wb 0)∧(∀ p∈[[true],[true,false,true],[false,false,true],[true,true,false]],tm'.get p=tm.get p)∧Wf H'∧Fr (fun k=>k=wb∨P k) H H'∧WrR P H' wb (l++zS w (ns.take (i+1)))) (bC.lp (aR4 (P:=P) (l:=l++zS w (ns.take i)) (h:=H) hw3 (hns x (List.mem_of_getElem? hx)) ?_ (fun k hk=>by rw [hb1];exact hP k hk) (fun k hk=>hPn k (by omega)) (by rw [hb1];exact hwb) hPw ⟨rfl,?_,?_,?_,fun p _ _=>rfl,wf,Fr.refl _ _,⟨_,by rw [Nat.sub_zero],wr⟩⟩) ?_) ?_
     · rw [List.length_append,vT,htl]
       have:w*i≤3*i:=Nat.mul_le_mul_right _ hw3
       omega
     · simp [T.aB,t0]
     · simp [T.aB]
     · simp [T.aB]
     · rintro tm2 df2 H2 ⟨rfl,u0,u7,u8,pP,wf2,fr2,⟨a,ha,wr2⟩⟩
       rw [Nat.sub_self,show be 0 x=[] from rfl,List.append_nil] at ha
       refine ⟨rfl,rfl,u0,fun p hp=>?_,wf2,fr2,?_⟩
       · have h1:p≠[false,true,true]:=fun e=>jL hp (q:=[false,true,true]) (by decide) e.symm
         have h2:p≠[false,false,true,true]:=fun e=>jL hp (q:=[false,false,true,true]) (by decide) e.symm
         rw [pP p h1 h2,T.aB,if_neg (fun e=>h1 e.symm),T.aB,if_neg (jL hp (by decide)),T.aB,if_neg (jL hp (by decide))]
       · rw [Xo hx,← List.append_assoc,← ha]
         exact wr2
     · rintro ex tm2 df2 H2 ⟨rfl,⟨rfl,u0,o2,wf2,fr2,wr2⟩⟩
       have u11:tm2.get [true,true,false]=some (A0 i):=by rw [o2 _ (by decide)];exact t11
       have u1:tm2.get [true]=some (A0 w):=by rw [o2 _ (by decide)];exact t1
       have u9:tm2.get [true,false,true]=some (cB b o ns.length c):=by rw [o2 _ (by decide)];exact t9
       have u10:tm2.get [false,false,true]=some (A0 ns.length):=by rw [o2 _ (by decide)];exact t10
       simp only [↓aQ,A3,reduceCtorEq,u11,w1]
       exact .go ⟨rfl,by simp [u0],by simp [u1],by simp [u9],by simp [u10],by simp,wf2,fr.trans fr2 fun _ _ h=>h,wr2⟩
   · obtain ⟨rfl,t0,t1,t9,t10,t11,wf,fr,wr⟩:=hI
     have e1:Nat.blt ns.length ns.length=false:=cI (Nat.le_refl _)
     unfold tQ
     simp only [↓aQ,A3,reduceCtorEq,t10,t11,e1]
     exact .ex ⟨rfl,⟨rfl,by simp [t0],by simp [t1],by simp [t9],by simp [t10],by simp [t11],wf,fr,wr⟩⟩
   · exact ⟨rfl,by simp [m0],by simp [m8],by simp,by simp,by simp,hw,Fr.refl _ _,by simpa [zS] using hwr⟩
 · rintro ex tm df H ⟨rfl,p⟩
   exact ⟨rfl,p⟩
 · rintro ex tm df H ⟨rfl,⟨rfl,t0,t1,t9,t10,t11,wf,fr,wr⟩⟩
   refine Ip.end ?_
   rw [rK]
   rw [List.take_length] at wr
   exact ⟨rfl,wf,fr,wr⟩
def Xp (call:Call):Prop:=∀ H P wb w lv ns l,Wf H→0<w→w≤3→(∀ x∈ns,x<16777216)→l.length+3*ns.length≤50000→(∀ k,P k→H.base≤k)→(∀ k,H.next≤k→P k)→H.base≤wb→¬ P wb→Sl 1 H lv ns.length (vS ns)→(∀ c,gY lv c→c≠wb∧¬ P c)→WrR P H wb l→Yields (call 48 [bE wb 0,A0 w,lv] H) (aVe P wb (l++zS w ns) H)
def ad1 (s:Nat×Nat) (x:Nat):Nat×Nat:=((s.1+x) % 65521,(s.2+(s.1+x) % 65521) % 65521)
def ad (l:List Nat):Nat×Nat:=l.foldl ad1 (1,0)
theorem Sw (l:List Nat) (x:Nat):ad (l++[x])=ad1 (ad l) x:=by unfold ad;rw [List.foldl_append];rfl
theorem aD6 (l:List Nat):(ad l).1<65521∧(ad l).2<65521:=by
 refine Ei (P:=fun l=>(ad l).1<65521∧(ad l).2<65521) ⟨by decide,by decide⟩ (fun l x _=>?_) l
 rw [Sw]
 exact ⟨Nat.mod_lt _ (by decide),Nat.mod_lt _ (by decide)⟩
def Ag (l:List Nat):List Nat:=zS 2 [(ad l).2,(ad l).1]
structure PS (v:Value) (l:List Nat) (h:Hp) (i:Nat) (tm:T Value) (df:Df) (H:Hp):Prop where
 df:df=[]
 hh:H=h
 t8:tm.get [false,true,true]=some v
 t9:tm.get [true,false,true]=some (A0 l.length)
 t10:tm.get [false,false,true]=some (A0 i)
 t3:tm.get [true,true]=some (A0 ((ad (l.take i)).1))
 t4:tm.get [false,true]=some (A0 ((ad (l.take i)).2))
def aQT (l:List Nat) (h:Hp) (r:Value) (H:Hp):Prop:=Sl 1 H r 4 (dR (Ag l))∧(∀ c,gY r c→h.next≤c∧c<H.next)∧Wf H∧Fr (fun _=>False) h H
theorem aJ5 {call:Call} {cd:cE} {v:Value} {l:List Nat} {h:Hp} (hC:Xp call) (hw:Wf h) (hv:Sl 1 h v l.length (dR l)) (hl:l.length≤100000) (hbyte:∀ x∈l,x<256):Yields (dD Ss call cd [v] h) (aQT l h):=by
 have hlen:=hv.len
 refine aP rfl ?_
 simp only [↓aQ,A3,reduceCtorEq,dQ,hlen]
 refine bC.lp (id:=0) (P:=PS v l h l.length) ?_ ?_
 · refine cT (n:=l.length) (by omega) (PS v l h) (fun i tm df H hi hI=>?_) (fun tm df H hI=>?_) ?_
   · obtain ⟨rfl,rfl,t8,t9,t10,t3,t4⟩:=hI
     obtain ⟨x,hx⟩:∃ x,l[i]?=some x:=⟨l[i],List.getElem?_eq_getElem hi⟩
     have hxb:=hbyte x (List.mem_of_getElem? hx)
     obtain ⟨b,o,c,rfl,hhas⟩:=hv.pos (by omega)
     obtain ⟨c1,m1,e1,cl1,ro1,hat1,hm1,hc1⟩:=hhas.get (iH hx)
     have q1:Nat.blt i l.length=true:=bU hi
     have q2:Nat.blt (o+i*1) m1=true:=bU (by omega)
     have q3:c1.get (path (o+i*1))=some (A1 x):=by rw [Nat.mul_one];exact hc1
     have hal:=aD6 (l.take i)
     have w1:aR .i64 (.ofNat (i+1))=.ofNat (i+1):=bF (by omega)
     have w2:aR .i64 (.ofNat x)=.ofNat x:=bF (by omega)
     have hs:ad (l.take (i+1))=ad1 (ad (l.take i)) x:=by rw [lI hx,Sw]
     generalize ad (l.take i)=s at *
     have w3:aR .i64 (.ofNat (s.1+x))=.ofNat (s.1+x):=bF (by omega)
     have hm:=Nat.mod_lt (s.1+x) (y:=65521) (by decide)
     have r1:iZ .i64 (.ofNat (s.1+x)) (.ofNat 65521)=some (A0 ((s.1+x) % 65521)):=lN _ (by omega)
     have w4:aR .i64 (.ofNat (s.2+(s.1+x) % 65521))=.ofNat (s.2+(s.1+x) % 65521):=bF (by omega)
     have r2:iZ .i64 (.ofNat (s.2+(s.1+x) % 65521)) (.ofNat 65521)=some (A0 ((s.2+(s.1+x) % 65521) % 65521)):=lN _ (by omega)
     unfold Bi
     simp only [↓aQ,A3,reduceCtorEq,t8,t9,t10,t3,t4,q1,hat1,q2,q3,w1,w2,w3,r1,w4,r2]
     exact .go ⟨rfl,rfl,by simp [t8],by simp [t9],by simp,by rw [hs];simp [T.aB,ad1],by rw [hs];simp [T.aB,ad1]⟩
   · obtain ⟨rfl,rfl,t8,t9,t10,t3,t4⟩:=hI
     have e1:Nat.blt l.length l.length=false:=cI (Nat.le_refl _)
     unfold Bi
     simp only [↓aQ,A3,reduceCtorEq,t9,t10,e1]
     exact .ex ⟨rfl,rfl,rfl,by simp [t8],by simp [t9],by simp [t10],by simp [t3],by simp [t4]⟩
   · exact ⟨rfl,rfl,by simp,by simp,by simp,by simp [ad],by simp [ad]⟩
 rintro tm df H ⟨rfl,rfl,t8,t9,t10,t3,t4⟩
 rw [List.take_length] at t3 t4
 have hal:=aD6 l
 have y1:Nat.ble (0+1) 2=true:=rfl
 have y2:Nat.ble (1+1) 2=true:=rfl
 have hwb:=hw.base
 generalize hHB:(H.new (aT [Value.slice none 0 0] 1 126 true)).new (aT [A0 ((ad l).2),A0 ((ad l).1)] 2 3 true)=HB
 have wfB:Wf HB:=by rw [← hHB];exact (hw.new _).new _
 have nB:HB.next=H.next+2:=by rw [← hHB,aF,aF]
 have bB:HB.base=H.base:=by rw [← hHB];rfl
 have frB:Fr (fun _=>False) H HB:=by rw [← hHB];exact ((Fr.refl _ _).dE _).dE _
 have hsl:Sl 1 HB (cB (H.next+1) 0 2 2) [(ad l).2,(ad l).1].length (vS [(ad l).2,(ad l).1]):=⟨rfl,.inr ⟨_,_,_,rfl,Nat.succ_pos _,fS (n:=2) (e:=3) (cl:=true) (by rw [← hHB,aM,if_pos (by rw [aF])];rfl) (Nat.le_refl _)⟩⟩
 have hwr:WrR (fun k=>H.next+2≤k) HB H.next []:=⟨.slice none 0 0,⟨_,_,_,by rw [← hHB,aM,if_neg (by rw [aF];omega),aM,if_pos rfl];rfl,by rw [bM,if_pos ⟨Nat.le_refl _,by simp⟩];rfl⟩,Out.nil⟩
 obtain ⟨r,H2,e2,rfl,wf2,fr2,⟨ov,⟨c,e,cl,hat,hc⟩,hout⟩⟩:=(hC HB (fun k=>H.next+2≤k) H.next 2 (cB (H.next+1) 0 2 2) [(ad l).2,(ad l).1] [] wfB (by decide) (by decide) (fun x hx=>by
  simp only [List.mem_cons,List.not_mem_nil,or_false] at hx
  rcases hx with rfl|rfl<;>omega) (by simp) (fun k hk=>by rw [bB];omega) (fun k hk=>by omega) (by rw [bB];exact hwb) (by omega) hsl (fun c hc=>by
  have:=fB hc
  subst this
  exact ⟨by omega,by omega⟩) hwr).get
 have q0:Nat.blt 0 1=true:=rfl
 simp only [↓aQ,A3,reduceCtorEq,t3,t4,y1,y2,hHB,e2,dI,dJ,hat,hc,q0]
 refine .ret ?_
 simp only [↓aQ,A3,reduceCtorEq,eS]
 have n2:=fr2.next
 refine ⟨hout.sl,fun c hc=>?_,wf2,frB.trans fr2 fun k hk h=>by omega⟩
 have hp:0<([]++zS 2 [(ad l).2,(ad l).1]).length:=by rw [List.nil_append,vT];simp
 have h1:=hout.fE hp hc
 exact ⟨by omega,hout.sl.lt wf2 hp hc⟩
noncomputable def slM (v i j:Value):Option Value:=qY 1 (.val v) none (some (.val i)) (some (.val j)) [] .nil
noncomputable def slG (v i:Value):Option Value:=qY 1 (.val v) (some (.val i)) none none [] .nil
theorem aVg (x y z:OD) (lo:List Value) (tm:T Value):qY 1 x none (some y) (some z) lo tm=slM (bW x lo tm) (bW y lo tm) (bW z lo tm):=rfl
theorem aQU (x y:OD) (lo:List Value) (tm:T Value):qY 1 x (some y) none none lo tm=slG (bW x lo tm) (bW y lo tm):=rfl
def RC (h:Hp) (v:Value) (xs:List Nat):Prop:=∃ b o c,v=cB b o xs.length c∧xs.length≤c∧c<eY∧(0<xs.length→Has h b o (dR xs))
def RO (h:Hp) (v:Value) (xs:List Nat):Prop:=∃ b o,v=cB b o xs.length (cM 1 xs.length)∧0<xs.length∧xs.length<1000000∧Has h b o (dR xs)
structure aJ6 (K:Hp→Value→List Nat→Prop) (h:Hp) (v:Value) (xs:List Nat) (n:Nat) (v1 v2:Value):Prop where
 one:slM v (A0 n) (A0 n)=some v1
 two:slG v (A0 n)=some v2
 r1:iL h v1 (xs.take n)
 r2:K h v2 (xs.drop n)
 b1:∀ c,gY v1 c→gY v c
 b2:∀ c,gY v2 c→gY v c
 le:n≤xs.length
 sc:bY [v2]=true
 ln:rW v (fun _ _ l _=>some (A0 l)) (fun l _=>some (A0 l)) none=some (A0 xs.length)
theorem aJ7 {b o l c n:Nat} (h1:(eU c && Nat.beq (sure c) 0)=false) (h2:n≤sure c):slM (cB b o l c) (A0 n) (A0 n)=some (if n=0 then cB b o 0 0 else cB b o n n):=by
 have e:slM (cB b o l c) (A0 n) (A0 n)=bif eU c && Nat.beq (sure c) 0 then none else gQ (some (.val (A0 n))) [] .nil 0 (sure c) (fun m=>gQ (some (.val (A0 n))) [] .nil 0 m (fun hi=>gQ none [] .nil 0 hi (fun lw=>qW b o 1 lw hi m) none) none) none:=rfl
 rw [e,h1,cond_false,pX,z_v,tM,cX h2,cond_true,pX,z_v,tM,cX (Nat.le_refl _),cond_true,yL]
 unfold qW
 by_cases h:n=0
 · rw [if_pos h,h,Nat.beq_refl,cond_true]
 · rw [if_neg h,dO (fun e=>h e.symm),cond_false]
   unfold xV
   rw [bD,bD,bD]
   rfl
theorem Xq {h:Hp} {b o n:Nat} {xs:List Nat} (hn:n≤xs.length) (hO:n<eY) (hh:0<xs.length→Has h b o (dR xs)):iL h (if n=0 then cB b o 0 0 else cB b o n n) (xs.take n):=by
 by_cases e:n=0
 · rw [if_pos e]
   exact .inl ⟨by rw [e];rfl,.inr ⟨b,o,0,rfl,by unfold eY;omega⟩⟩
 · rw [if_neg e]
   refine .inr ⟨b,o,n,by rw [List.length_take,Nat.min_eq_left hn],by rw [List.length_take];omega,by rw [List.length_take];omega,hO,?_⟩
   rw [← Ec]
   exact (hh (by omega)).take n
theorem RC.cut {h:Hp} {v:Value} {xs:List Nat} (hr:RC h v xs) {n:Nat} (hn:n≤xs.length):∃ v1 v2,aJ6 RC h v xs n v1 v2:=by
 obtain ⟨b,o,c,rfl,h1,h2,h3⟩:=hr
 have o1:eU c=false:=eN h2
 have o2:sure c=c:=by unfold sure;rw [o1];rfl
 have e2:slG (cB b o xs.length c) (A0 n)=some (if n=c then cB b o 0 0 else cB b (o+n) (xs.length - n) (c - n)):=Ly (k:=n) hn h2
 refine ⟨_,_,aJ7 (by rw [o1];rfl) (by rw [o2];omega),e2,Xq hn (by omega) h3,?_,fun c' hc=>?_,fun c' hc=>?_,hn,?_,rfl⟩
 · by_cases e:n=c
   · rw [if_pos e]
     exact ⟨b,o,0,by rw [List.length_drop,show xs.length - n=0 by omega],by rw [List.length_drop];omega,by unfold eY;omega,fun h'=>by rw [List.length_drop] at h';omega⟩
   · rw [if_neg e]
     refine ⟨b,o+n,c - n,by rw [List.length_drop],by rw [List.length_drop];omega,by omega,fun h'=>?_⟩
     rw [List.length_drop] at h'
     rw [← Sd]
     exact (h3 (by omega)).drop (by rw [eZ];exact hn)
 · by_cases e:n=0
   · rw [if_pos e] at hc;rw [fB hc];exact ⟨_,_,_,rfl⟩
   · rw [if_neg e] at hc;rw [fB hc];exact ⟨_,_,_,rfl⟩
 · by_cases e:n=c
   · rw [if_pos e] at hc;rw [fB hc];exact ⟨_,_,_,rfl⟩
   · rw [if_neg e] at hc;rw [fB hc];exact ⟨_,_,_,rfl⟩
 · by_cases e:n=c
   · rw [if_pos e];rfl
   · rw [if_neg e];rfl
theorem RO.cut {h:Hp} {v:Value} {xs:List Nat} (hr:RO h v xs) {n:Nat} (hn:n<xs.length):∃ v1 v2,aJ6 RO h v xs n v1 v2:=by
 obtain ⟨b,o,rfl,h0,h1,h2⟩:=hr
 obtain ⟨s1,s2,s3⟩:=Dy 1 xs.length (by unfold eY;omega)
 have hsub:cM 1 xs.length - n=cM 1 (xs.length - n):=by
  show Nat.add (Nat.mul eY (Nat.succ 1)) xs.length - n=Nat.add (Nat.mul eY (Nat.succ 1)) (xs.length - n)
  generalize Nat.mul eY (Nat.succ 1)=Z
  show Z+xs.length - n=Z+(xs.length - n)
  omega
 have e2:slG (cB b o xs.length (cM 1 xs.length)) (A0 n)=some (cB b (o+n) (xs.length - n) (cM 1 (xs.length - n))):=by
  rw [← hsub]
  generalize cM 1 xs.length=k at *
  have e:slG (cB b o xs.length k) (A0 n)=gQ none [] .nil xs.length (sure k) (fun hi=>gQ (some (.val (A0 n))) [] .nil 0 hi (fun lw=>bif eU k then Qv b o 1 lw hi k else qW b o 1 lw hi k) none) none:=rfl
  rw [e,yL,pX,z_v,tM,cX (by omega),cond_true,s2,cond_true]
  unfold Qv
  by_cases h:n=0
  · subst h
    rw [Nat.beq_refl,cond_true];rfl
  · rw [dO h,cond_false,s3,show Nat.beq (1+1) (Nat.succ 1)=true from rfl,cond_true,s1,bU hn,cond_true]
    unfold xV
    rw [bD,bD,bD]
    show some (cB b (o+n*1) (xs.length - n) (k - n))=_
    rw [Nat.mul_one]
 refine ⟨_,_,aJ7 (by rw [s1,dO (by omega),Bool.and_false]) (by rw [s1];omega),e2,Xq (by omega) (by unfold eY;omega) (fun _=>h2),?_,fun c' hc=>?_,fun c' hc=>?_,by omega,rfl,rfl⟩
 · refine ⟨b,o+n,by rw [List.length_drop],by rw [List.length_drop];omega,by rw [List.length_drop];omega,?_⟩
   rw [← Sd]
   exact h2.drop (by rw [eZ];omega)
 · by_cases e:n=0
   · rw [if_pos e] at hc;rw [fB hc];exact ⟨_,_,_,rfl⟩
   · rw [if_neg e] at hc;rw [fB hc];exact ⟨_,_,_,rfl⟩
 · rw [fB hc];exact ⟨_,_,_,rfl⟩
theorem RC.bT {h H:Hp} {v:Value} {xs:List Nat} (hr:RC h v xs) (e:∀ c,0<xs.length→gY v c→H.at c=h.at c):RC H v xs:=by
 obtain ⟨b,o,c,rfl,h1,h2,h3⟩:=hr
 exact ⟨b,o,c,rfl,h1,h2,fun h0=>(h3 h0).bT (e b h0 ⟨_,_,_,rfl⟩)⟩
theorem RO.bT {h H:Hp} {v:Value} {xs:List Nat} (hr:RO h v xs) (e:∀ c,0<xs.length→gY v c→H.at c=h.at c):RO H v xs:=by
 obtain ⟨b,o,rfl,h1,h2,h3⟩:=hr
 exact ⟨b,o,rfl,h1,h2,h3.bT (e b h1 ⟨_,_,_,rfl⟩)⟩
structure p7 (P:Nat→Prop) (h H:Hp):Prop where
 base:H.base=h.base
 next:h.next≤H.next
 at_:∀ b,b<h.next→¬ P b→H.at b=h.at b
 ls:∀ x∈H.log,x∈h.log∨P x
 lg:(∀ x,x<h.next→P x→h.base≤x)→H.log=h.log
theorem p7.refl (P:Nat→Prop) (h:Hp):p7 P h h:=⟨rfl,Nat.le_refl _,fun _ _ _=>rfl,fun _ h=>.inl h,fun _=>rfl⟩
theorem Fr.lift {P:Nat→Prop} {h H:Hp} (f:Fr P h H):p7 P h H:=⟨f.base,f.next,f.at_,fun x hx=>.inl (by rw [← f.log];exact hx),fun _=>f.log⟩
theorem p7.lower {P:Nat→Prop} {h H:Hp} (f:p7 P h H) (hp:∀ x,x<h.next→P x→h.base≤x):Fr P h H:=⟨f.base,f.lg hp,f.next,f.at_⟩
theorem p7.trans {P Q:Nat→Prop} {a b c:Hp} (x:p7 P a b) (y:p7 Q b c) (ha:a.base≤a.next) (hq:∀ k,Q k→P k∨a.next≤k) (hl:∀ k,a.next≤k→Q k→k∉c.log∨P k):p7 P a c :=
 ⟨y.base.trans x.base,Nat.le_trans x.next y.next,fun k hk hp=>(y.at_ k (Nat.lt_of_lt_of_le hk x.next) fun h=>(hq k h).elim hp fun h'=>by omega).trans (x.at_ k hk hp),fun k hk=>by
   rcases y.ls k hk with h|h
   · exact x.ls k h
   · rcases hq k h with h1|h1
     · exact .inr h1
     · rcases hl k h1 h with h2|h2
       · exact absurd hk h2
       · exact .inr h2,fun hp=>by
   rw [y.lg fun k hk hQ=>?_]
   · exact x.lg hp
   · rw [x.base]
     by_cases h1:k<a.next
     · rcases hq k hQ with h2|h2
       · exact hp k h1 h2
       · omega
     · omega⟩
theorem p7.same {P Q:Nat→Prop} {a b c:Hp} (x:p7 P a b) (y:p7 Q b c) (ha:a.base≤a.next) (hq:∀ k,Q k→P k):p7 P a c:=x.trans y ha (fun k h=>.inl (hq k h)) fun k _ h=>.inr (hq k h)
theorem p7.dE {P:Nat→Prop} {a b:Hp} (x:p7 P a b) (o:dY):p7 P a (b.new o):=⟨x.base,by rw [aF];have:=x.next;omega,fun k hk hp=>by rw [aM,if_neg (by have:=x.next;omega)];exact x.at_ k hk hp,x.ls,x.lg⟩
theorem p7.cJ {P:Nat→Prop} {a b:Hp} (x:p7 P a b) {c:Nat} (o:Option dY) (ha:a.base≤a.next) (hp:c<a.next→P c):p7 P a (b.put c o):=by
 refine ⟨x.base,x.next,fun k hk hP=>?_,fun k hk=>?_,fun hq=>?_⟩
 · rw [aJ,if_neg (fun e=>hP (by rw [← e];exact hp (by rw [e];exact hk)))];exact x.at_ k hk hP
 · have hk':k∈jN b.base b.log c:=hk
   by_cases h:c<b.base
   · have hc:c<a.next:=by rw [x.base] at h;omega
     unfold jN at hk'
     rw [bU h,cond_true] at hk'
     cases hl:b.log with
     | nil =>
      rw [hl] at hk'
      have:k=c:=by simpa using hk'
      rw [this];exact .inr (hp hc)
     | cons d r =>
      rw [hl] at hk'
      cases hd:Nat.beq d c with
      | true =>
       have hk2:k∈(bif Nat.beq d c then d::r else c::d::r):=hk'
       rw [hd,cond_true] at hk2
       exact x.ls k (by rw [hl];exact hk2)
      | false =>
       have hk2:k∈(bif Nat.beq d c then d::r else c::d::r):=hk'
       rw [hd,cond_false] at hk2
       rcases List.mem_cons.1 hk2 with h1|h1
       · rw [h1];exact .inr (hp hc)
       · exact x.ls k (by rw [hl];exact h1)
   · have e:jN b.base b.log c=b.log:=by
      unfold jN
      rw [cI (by omega),cond_false]
     rw [e] at hk'
     exact x.ls k hk'
 · have h1:=x.lg hq
   by_cases hc:c<a.next
   · rw [kM (by rw [x.base];exact hq c hc (hp hc))];exact h1
   · rw [kM (by rw [x.base];omega)];exact h1
def aQV (K:Hp→Value→List Nat→Prop) (bx:Nat) (v:Value) (xs:List Nat) (n:Nat) (h:Hp) (r:Value) (H:Hp):Prop:=∃ v2,iL H r (xs.take n)∧Af H bx v2∧K H v2 (xs.drop n)∧(∀ c,gY r c→gY v c)∧(∀ c,gY v2 c→gY v c)∧Wf H∧p7 (fun k=>k=bx) h H∧H.next=h.next
theorem Xr {call:Call} {cd:cE} {K:Hp→Value→List Nat→Prop} (hK:∀ h H v xs,K h v xs→(∀ c,0<xs.length→gY v c→H.at c=h.at c)→K H v xs) {h:Hp} {bx n:Nat} {v v1 v2:Value} {xs:List Nat} (hw:Wf h) (hbx:Af h bx v) (hne:∀ c,gY v c→c≠bx) (hc:aJ6 K h v xs n v1 v2) :
 Yields (dD Sv call cd [bE bx 0,A0 n] h) (aQV K bx v xs n h):=by
 obtain ⟨c1,c2,c3,c4,c5,c6,c7,c8,c9⟩:=hc
 obtain ⟨cc,e,cl,hat,hcc⟩:=hbx
 have hlt:=hw.lt hat
 have q0:Nat.blt 0 1=true:=rfl
 have q1:Nat.blt xs.length n=false:=cI c7
 have q2:Nat.ble (0+1) 1=true:=rfl
 refine aP rfl ?_
 simp only [↓aQ,A3,reduceCtorEq,cN,cP,dI,dJ,hat,hcc,q0,c9,q1,aVg,aQU,c1,c2,c8,q2]
 refine .ret ?_
 simp only [↓aQ,A3,reduceCtorEq,eS]
 have hk:∀ c,gY v c→(h.put bx (some (.row (aL [v2] 0 cc fun t=>t) 1 e cl false))).at c=h.at c:=fun c hc=>by rw [aJ,if_neg (fun e=>hne c hc e.symm)]
 exact ⟨v2,c3.bT fun c _ hc=>hk c (c5 c hc),⟨_,e,cl,by rw [aJ,if_pos rfl],by rw [bM,if_pos ⟨Nat.le_refl _,by simp⟩];rfl⟩,hK _ _ _ _ c4 fun c _ hc=>hk c (c6 c hc),c5,c6,hw.put hlt _,(p7.refl _ _).cJ _ hw.base fun _=>rfl,rfl⟩
def num (l:List Nat):Nat:=l.foldl (fun n x=>n*256+x) 0
theorem Xs (l:List Nat) (x:Nat):num (l++[x])=num l*256+x:=by unfold num;rw [List.foldl_append];rfl
theorem aR5 (l:List Nat):(∀ x∈l,x<256)→num l<256 ^ l.length:=by
 refine Ei (P:=fun l=>(∀ x∈l,x<256)→num l<256 ^ l.length) (fun _=>by show (0:Nat)<1;omega) (fun l x ih hb=>?_) l
 have h1:=ih fun y hy=>hb y (by simp [hy])
 have h2:=hb x (by simp)
 rw [Xs,List.length_append]
 show _<256 ^ (l.length+1)
 rw [Nat.pow_succ]
 omega
theorem aR6:∀ (w n a:Nat),(be w n).foldl (fun n x=>n*256+x) a=a*256 ^ w+n % 256 ^ w:=by
 intro w
 induction w with
 | zero=>intro n a;show a=a*1+n % 1;omega
 | succ w ih =>
  intro n a
  show (be w n).foldl (fun n x=>n*256+x) (a*256+n / 256 ^ w % 256)=_
  rw [ih,Nat.pow_succ,Nat.add_mul,Nat.mul_assoc,Nat.mul_comm 256 (256 ^ w),Nat.mod_mul,Nat.mul_comm (n / 256 ^ w % 256)]
  omega
theorem Qa {w n:Nat} (h:n<256 ^ w):num (be w n)=n:=by
 have:=aR6 w n 0
 unfold num
 rw [this,Nat.mod_eq_of_lt h];omega
theorem aR7 {a x:Nat} (hx:x<256):Nat.lor (a*256) x=a*256+x:=by
 have:=Nat.two_pow_add_eq_or_of_lt (i:=8) (b:=x) hx a
 rw [show (2:Nat) ^ 8=256 from rfl,Nat.mul_comm] at this
 exact this.symm
theorem aR8 {a:Nat} (ha:a<16777216):aHv .i64 (.ofNat a) (.ofNat 8)=some (A0 (a*256)):=by
 show nU .i64 (aR .i64 (aHt (.ofNat a) (xU 8 64)))=_
 rw [jC,show aHt (.ofNat a) (xU 8 64)=.ofNat (a*256) from rfl,bF (by omega)]
theorem aR9 {a x:Nat} (hx:x<256) (ha:a<16777216):nn Nat.lor .i64 (.ofNat (a*256)) (.ofNat x)=some (A0 (a*256+x)):=by
 show (bN (Nat.lor (a*256) x) fun c=>bif Nat.blt c (half .i64) then some (A0 c) else none)=_
 rw [bD,aR7 hx,bU (by show a*256+x<9223372036854775808;omega)];rfl
def Ao (call:Call) (K:Hp→Value→List Nat→Prop):Prop:=∀ h bx n v v1 v2 xs,Wf h→Af h bx v→(∀ c,gY v c→c≠bx)→aJ6 K h v xs n v1 v2→Yields (call 50 [bE bx 0,A0 n] h) (aQV K bx v xs n h)
structure NS (w bx:Nat) (rv:Value) (ys:List Nat) (h:Hp) (i:Nat) (tm:T Value) (df:Df) (H:Hp):Prop where
 df:df=[]
 hh:H=h
 t5:tm.get [true,false]=some (A0 (num (ys.take i)))
 t10:tm.get [false,false,true]=some rv
 t11:tm.get [true,true,false]=some (A0 ys.length)
 t12:tm.get [false,true,false]=some (A0 i)
def aJ8 (K:Hp→Value→List Nat→Prop) (bx:Nat) (v:Value) (xs:List Nat) (n:Nat) (h:Hp) (r:Value) (H:Hp):Prop:=∃ v2,r=A0 (num (xs.take n))∧Af H bx v2∧K H v2 (xs.drop n)∧(∀ c,gY v2 c→gY v c)∧Wf H∧p7 (fun k=>k=bx) h H∧H.next=h.next
theorem Mb {call:Call} {cd:cE} {K:Hp→Value→List Nat→Prop} (hT:Ao call K) {h:Hp} {bx n:Nat} {v v1 v2:Value} {xs:List Nat} (hw:Wf h) (hbx:Af h bx v) (hne:∀ c,gY v c→c≠bx) (hc:aJ6 K h v xs n v1 v2) (hn3:n≤3) (hbyte:∀ x∈xs,x<256) :
 Yields (dD Gj call cd [bE bx 0,A0 n] h) (aJ8 K bx v xs n h):=by
 have hle:=hc.le
 obtain ⟨rv,H1,e1,w2,r1,r2,r3,r4,r5,r6,r7,r8⟩:=(hT h bx n v v1 v2 xs hw hbx hne hc).get
 have hsl:=r1.sl
 have hlen:=hsl.len
 have hyb:∀ x∈xs.take n,x<256:=fun x hx=>hbyte x (List.mem_of_mem_take hx)
 have hyl:(xs.take n).length=n:=by rw [List.length_take];omega
 generalize hY:xs.take n=ys at *
 refine aP rfl ?_
 simp only [↓aQ,A3,reduceCtorEq,cN,cP,e1,hlen]
 refine bC.lp (id:=0) (P:=NS n bx rv ys H1 ys.length) ?_ ?_
 · refine cT (n:=ys.length) (by omega) (NS n bx rv ys H1) (fun i tm df H hi hI=>?_) (fun tm df H hI=>?_) ?_
   · obtain ⟨rfl,rfl,t5,t10,t11,t12⟩:=hI
     obtain ⟨x,hx⟩:∃ x,ys[i]?=some x:=⟨ys[i],List.getElem?_eq_getElem hi⟩
     have hxb:=hyb x (List.mem_of_getElem? hx)
     obtain ⟨b,o,c,rfl,hhas⟩:=hsl.pos (by omega)
     obtain ⟨c1,m1,e1,cl1,ro1,hat1,hm1,hc1⟩:=hhas.get (iH hx)
     have q1:Nat.blt i ys.length=true:=bU hi
     have q2:Nat.blt (o+i*1) m1=true:=bU (by omega)
     have q3:c1.get (path (o+i*1))=some (A1 x):=by rw [Nat.mul_one];exact hc1
     have w1:aR .i64 (.ofNat (i+1))=.ofNat (i+1):=bF (by omega)
     have w2':aR .i64 (.ofNat x)=.ofNat x:=bF (by omega)
     have hnl:=aR5 (ys.take i) fun y hy=>hyb y (List.mem_of_mem_take hy)
     have hp:256 ^ (ys.take i).length≤256 ^ 3:=Nat.pow_le_pow_right (by decide) (by rw [List.length_take];omega)
     have hn16:num (ys.take i)<16777216:=Nat.lt_of_lt_of_le hnl hp
     have s1:=aR8 hn16
     have s2:=aR9 hxb hn16
     unfold vR
     simp only [↓aQ,A3,reduceCtorEq,t5,t10,t11,t12,q1,hat1,q2,q3,w1,w2',Ea,s1,s2]
     exact .go ⟨rfl,rfl,by rw [lI hx,Xs];simp [T.aB],by simp [t10],by simp [t11],by simp⟩
   · obtain ⟨rfl,rfl,t5,t10,t11,t12⟩:=hI
     have e1:Nat.blt ys.length ys.length=false:=cI (Nat.le_refl _)
     unfold vR
     simp only [↓aQ,A3,reduceCtorEq,t11,t12,e1]
     exact .ex ⟨rfl,rfl,rfl,by simp [t5],by simp [t10],by simp [t11],by simp [t12]⟩
   · exact ⟨rfl,rfl,by simp [num],by simp,by simp,by simp⟩
 rintro tm df H ⟨rfl,rfl,t5,t10,t11,t12⟩
 rw [List.take_length] at t5
 simp only [↓aQ,A3,reduceCtorEq,t5]
 refine .ret ?_
 simp only [↓aQ,A3,reduceCtorEq,eS]
 refine ⟨w2,by rw [hY],r2,r3,r5,r6,r7,r8⟩
def aJ9 (xs:List Nat) (h:Hp) (r:Value) (H:Hp):Prop:=Out 5 1 (fun k=>h.next≤k) H r xs.length (dR xs)∧Wf H∧Fr (fun _=>False) h H
theorem aKa (e:TypeId) (s b yb yo c:Nat) (h:Hp):mQ e s (cB b 0 0 0) (cB yb yo 0 c) h=.val (cB b 0 0 0) h:=rfl
theorem aBD {call:Call} {cd:cE} {h:Hp} {v:Value} {xs:List Nat} (hw:Wf h) (hv:iL h v xs) (hl:xs.length≤100000):Yields (dD Gi call cd [v] h) (aJ9 xs h):=by
 have hwb:=hw.base
 refine aP rfl ?_
 rcases hv with ⟨rfl,rfl|⟨b,o,c,rfl,hc⟩⟩|⟨b,o,c,rfl,h0,h1,h2,h3⟩
 · have q:aAG (.slice none 0 0)=some true:=rfl
   simp only [↓aQ,A3,reduceCtorEq,dQ,zP,q]
   refine .ret ?_
   simp only [↓aQ,A3,reduceCtorEq,eS]
   exact ⟨Out.nil,hw,Fr.refl _ _⟩
 · have q:aAG (cB b o 0 c)=some false:=rfl
   simp only [↓aQ,A3,reduceCtorEq,dQ,zP,q,gE,aKa]
   refine .ret ?_
   simp only [↓aQ,A3,reduceCtorEq,eS]
   exact ⟨⟨rfl,rfl,.inl ⟨rfl,.inl ⟨_,rfl⟩⟩⟩,hw.new _,Fr.new _⟩
 · have q:aAG (cB b o xs.length c)=some false:=rfl
   have hsl:Sl 1 (h.new (aT [] 0 5 true)) (cB b o xs.length c) xs.length (dR xs):=⟨by rw [eZ,Nat.mul_one],.inr ⟨b,o,c,rfl,h0,h3.bT (by rw [aM,if_neg (by have:=h3.lt hw;omega)])⟩⟩
   have ho:Out 5 1 (fun k=>h.next≤k) (h.new (aT [] 0 5 true)) (cB h.next 0 0 0) 0 []:=⟨rfl,rfl,.inl ⟨rfl,.inl ⟨_,rfl⟩⟩⟩
   obtain ⟨v',H,ea,ho2,wf2,nx2,fr2,_⟩:=vO (hw.new _) ho hsl (jJ _) h0 (by omega) (fun k hk=>by rw [dX];omega) (by rw [aF];omega)
   simp only [↓aQ,A3,reduceCtorEq,dQ,zP,q,gE,ea]
   refine .ret ?_
   simp only [↓aQ,A3,reduceCtorEq,eS]
   rw [Nat.zero_add,List.nil_append] at ho2
   exact ⟨ho2,wf2,(Fr.new (P:=fun _=>False) _).trans fr2 fun k hk h=>by omega⟩
theorem Mc {R:Type} (b o l c:Nat) (x:Value) (k:List Value→R) (z:R):oE 0 1 (cB b o l c) [x] k z=k [cB b o l c]:=rfl
def aSa (call:Call) (n:Nat):Prop:=∀ H cv text,Wf H→iL H cv (Rc.enc (cU n) text)→text.length≤1000→(∀ x∈text,x<256)→Yields (call 104 [A0 n,cv,A0 text.length] H) (aVd text H)
def aD7 (text:List Nat) (h:Hp) (r:Value) (H:Hp):Prop:=∃ bx v,r=bE bx 0∧h.next≤bx∧bx<H.next∧Af H bx v∧RC H v text∧(∀ c,gY v c→h.next≤c∧c<bx)∧Wf H∧Fr (fun _=>False) h H
theorem Ia {call:Call} {cd:cE} {n:Nat} {cv:Value} {text:List Nat} {h:Hp} (hD:aSa call n) (hw:Wf h) (hcv:iL h cv (Rc.enc (cU n) text)) (hlen:text.length≤1000) (hbyte:∀ x∈text,x<256) :
 Yields (dD Bj call cd [A0 n,cv,A0 text.length] h) (aD7 text h):=by
 obtain ⟨r,H1,e1,v,rfl,c1,c2,c3,c4⟩:=(hD h cv text hw hcv hlen hbyte).get
 have n1:=c4.next
 refine aP rfl ?_
 obtain ⟨b,c,e,cl,rfl,hat,hl,hg⟩:=id c1
 simp only [↓aQ,A3,reduceCtorEq,m0,m8,pW,e1,iX,nW,oD,Mc]
 refine .ret ?_
 simp only [↓aQ,A3,reduceCtorEq,eS]
 have hb:=c2 b ⟨_,_,_,rfl⟩
 refine ⟨H1.next,_,rfl,n1,by rw [aF];omega,⟨_,_,_,by rw [aM,if_pos rfl];rfl,by rw [bM,if_pos ⟨Nat.le_refl _,by simp⟩];rfl⟩,⟨b,0,text.length,rfl,Nat.le_refl _,by unfold eY;omega,fun h0=>?_⟩,fun c hc=>?_,c3.new _,c4.dE _⟩
 · obtain ⟨b',o',c',e',hh⟩:=c1.sl.pos h0
   cases e'
   exact hh.bT (by rw [aM,if_neg (by omega)])
 · rw [fB hc];exact hb
structure eJ where
 kind:Nat
 from_:Nat
 len:Nat
 b:Nat
 data:List Nat
structure eJ.Ok (o:eJ):Prop where
 kind:(o.kind=1∧o.b=0∧o.data=[])∨(o.kind=2∧o.b=0∧o.data.length=o.len)∨(o.kind=3∧o.from_=0∧o.data=[])∨(o.kind=4∧o.from_=0∧o.b=0∧o.data.length=o.len)
 f:o.from_<16777216
 l:o.len<16777216
 b:o.b<256
 d:o.data.length≤1000
 byte:∀ x∈o.data,x<256
def eJ.code (o:eJ):List Nat:=be 1 o.kind++(if o.kind=3 then be 3 o.len++be 1 o.b else if o.kind=4 then be 3 o.len else be 3 o.from_++be 3 o.len)
def Me (call:Call):Prop:=∀ h bx n v xs,Wf h→Af h bx v→(∀ c,gY v c→c≠bx)→RC h v xs→n≤xs.length→n≤3→(∀ x∈xs,x<256)→Yields (call 51 [bE bx 0,A0 n] h) (aJ8 RC bx v xs n h)
structure Rd (h:Hp) (bx lo:Nat) (xs:List Nat):Prop where
 byte:∀ x∈xs,x<256
 val:∃ v,Af h bx v∧RC h v xs∧∀ c,gY v c→c=lo
 lo:lo≠bx
theorem Rd.bT {h H:Hp} {bx lo:Nat} {xs:List Nat} (hr:Rd h bx lo xs) (e:∀ c,c=lo∨c=bx→H.at c=h.at c):Rd H bx lo xs:=by
 obtain ⟨h2,⟨v,⟨c,e',cl,hat,hc⟩,h4,h5⟩,h6⟩:=hr
 exact ⟨h2,⟨v,⟨c,e',cl,by rw [e bx (.inr rfl)];exact hat,hc⟩,h4.bT fun c _ hc=>e c (.inl (h5 c hc)),h5⟩,h6⟩
theorem Rd.num {call:Call} (hN:Me call) {h:Hp} {bx lo w n:Nat} {xs:List Nat} (hw:Wf h) (hr:Rd h bx lo (be w n++xs)) (hn:n<256 ^ w) (h3:w≤3):∃ H,call 51 [bE bx 0,A0 w] h=.val (A0 n) H∧Rd H bx lo xs∧Wf H∧p7 (fun k=>k=bx) h H∧H.next=h.next:=by
 obtain ⟨h2,⟨v,h4,h5,h6⟩,h7⟩:=hr
 obtain ⟨r,H,e,v2,rfl,a1,a2,a3,a4,a5,a6⟩:=(hN h bx w v _ hw h4 (fun c hc=>by have:=h6 c hc;omega) h5 (by rw [List.length_append,fD];omega) h3 h2).get
 have e1:(be w n++xs).take w=be w n:=List.take_left' (fD w n)
 have e2:(be w n++xs).drop w=xs:=List.drop_left' (fD w n)
 rw [e1,Qa hn] at e
 rw [e2] at a2
 exact ⟨H,e,⟨fun x hx=>h2 x (by simp [hx]),⟨v2,a1,a2,fun c hc=>h6 c (a3 c hc)⟩,h7⟩,a4,a5,a6⟩
theorem Rd.take {call:Call} (hT:Ao call RC) {h:Hp} {bx lo:Nat} {ys xs:List Nat} (hw:Wf h) (hr:Rd h bx lo (ys++xs)):∃ r H,call 50 [bE bx 0,A0 ys.length] h=.val r H∧iL H r ys∧(∀ c,gY r c→c=lo)∧Rd H bx lo xs∧Wf H∧p7 (fun k=>k=bx) h H∧H.next=h.next:=by
 obtain ⟨h2,⟨v,h4,h5,h6⟩,h7⟩:=hr
 obtain ⟨v1,v2,hc⟩:=h5.cut (n:=ys.length) (by rw [List.length_append];omega)
 obtain ⟨r,H,e,v2',a0,a1,a2,a3,a4,a5,a6,a7⟩:=(hT h bx ys.length v v1 v2 _ hw h4 (fun c hc=>by have:=h6 c hc;omega) hc).get
 rw [List.take_left] at a0
 rw [List.drop_left] at a2
 exact ⟨r,H,e,a0,fun c hc=>h6 c (a3 c hc),⟨fun x hx=>h2 x (by simp [hx]),⟨v2',a1,a2,fun c hc=>h6 c (a4 c hc)⟩,h7⟩,a5,a6,a7⟩
def Sx (call:Call):Prop:=∀ h v xs,Wf h→iL h v xs→xs.length≤100000→Yields (call 105 [v] h) (aJ9 xs h)
def OpV (h:Hp) (o:eJ) (r:Value) (P:Nat→Prop):Prop:=∃ dv,r=.agg ⟨[A0 o.kind,A0 o.from_,A0 o.len,A1 o.b,dv]⟩∧Sl 1 h dv o.data.length (dR o.data)∧(0<o.data.length→∀ c,gY dv c→P c)
def aFQ (o:eJ) (b1 b2 sC tR:Nat) (xs ys:List Nat) (h:Hp) (r:Value) (H:Hp):Prop:=OpV H o r (fun k=>h.next≤k∧k<H.next)∧Rd H b1 sC xs∧Rd H b2 tR ys∧Wf H∧p7 (fun k=>k=b1∨k=b2) h H
theorem Sy:Nat.ble (0+1) [A0 0,A0 0,A0 0,A1 0,.slice none 0 0].length=true:=rfl
theorem Sz (k:Value):over [A0 0,A0 0,A0 0,A1 0,.slice none 0 0] 0 [k]=[k,A0 0,A0 0,A1 0,.slice none 0 0]:=rfl
theorem yS (a b c d e:Value):Nat.beq [a,b,c,d,e].length 5=true:=rfl
theorem yT (a b c d e:Value):Nat.ble (0+[a,b,c,d,e].length) 5=true:=rfl
theorem Ta (k:Nat):bY [A0 k,A0 0,A0 0,A1 0,.slice none 0 0]=true:=rfl
theorem Tb (a b c d e:Value) (t:T Value):(aL [a,b,c,d,e] 0 t fun t=>t).get (path (0+0))=some a:=by rw [bM,if_pos ⟨Nat.zero_le _,by simp⟩];rfl
theorem fI {n:Nat} {p:List Bool} {tm:T Value} {h:Hp} {b:Nat} {c:T Value} {m:Nat} {e:TypeId} {cl ro:Bool} {l:List Value} (ht:tm.get p=some (bE b 0)) (hat:h.at b=some (.row c m e cl ro)) (hm:n≤m) (hl:cR c 0 n []=some l):Hr [.cell true n p] tm h=.val (.agg ⟨l⟩) h:=by
 have e1:Ae (.cell true n p) tm h=some (.agg ⟨l⟩):=by
  show kO (pS (tm.get p)) (fun b o=>pU h b (fun c n' _ _ _=>bif Nat.ble (o+n) n' then eC (cR c o n []) (fun l=>some (Value.agg ⟨l⟩)) none else none) none) none=_
  rw [ht]
  show pU h b (fun c n' _ _ _=>bif Nat.ble (0+n) n' then eC (cR c 0 n []) (fun l=>some (Value.agg ⟨l⟩)) none else none) none=_
  rw [Se,hat,rH,Az,cX (by omega),cond_true,hl];rfl
 show eC (eC (Ae (.cell true n p) tm h) (fun v=>some [v]) none) _ _=_
 rw [e1];rfl
theorem aKb {call:Call} {cd:cE} (hN:Me call) {o:eJ} (ho:o.Ok) (h3:o.kind=3) {b1 b2 sC tR:Nat} {xs ys:List Nat} {h:Hp} (hw:Wf h) (hr1:Rd h b1 sC (o.code++xs)) (hr2:Rd h b2 tR (o.data++ys)) (hb1:b1<h.next) (hb2:b2<h.next) (hne:b1≠b2) (hl1:tR≠b1) (hl2:sC≠b2) (hq1:sC<h.next) (hq2:tR<h.next) :
 Yields (dD Bk call cd [bE b1 0,bE b2 0] h) (aFQ o b1 b2 sC tR xs ys h):=by
 obtain ⟨kind,from_,len,b,data⟩:=o
 obtain rfl:kind=3:=h3
 obtain ⟨hk,hf,hl,hb,hd,hbyte⟩:=ho
 have hk2:from_=0∧data=[]:=by
  rcases hk with h|h|h|h
  · exact absurd (show (3:Nat)=_ from h.1) (by decide)
  · exact absurd (show (3:Nat)=_ from h.1) (by decide)
  · exact h.2
  · exact absurd (show (3:Nat)=_ from h.1) (by decide)
 obtain ⟨rfl,rfl⟩:=hk2
 have hcode:eJ.code ⟨3,0,len,b,[]⟩=be 1 3++(be 3 len++be 1 b):=rfl
 rw [hcode,List.append_assoc] at hr1
 have hz:=h.next
 let h1:=h.new (aT [A0 0,A0 0,A0 0,A1 0,.slice none 0 0] 5 68 true)
 have hr1':Rd h1 b1 sC (be 1 3++(be 3 len++be 1 b++xs)):=hr1.bT fun c hc=>by rw [aM,if_neg (by have:=hr1.lo;rcases hc with h|h<;>omega)]
 obtain ⟨H2,e2,r2,wf2,fr2,nx2⟩:=hr1'.num hN (hw.new _) (by decide) (by decide)
 refine aP rfl ?_
 have lo1h:=hr1.lo
 have lo2h:=hr2.lo
 have b3:H2.next≠b1:=by rw [nx2,aF];omega
 generalize hH3:(H2.new (aT [A0 0,A0 0,A0 0,A1 0,.slice none 0 0] 5 68 true))=H3
 have n0:Nat.blt 0 5=true:=rfl
 have n31:Nat.beq 3 1=false:=rfl
 have n32:Nat.beq 3 2=false:=rfl
 have n33:Nat.beq 3 3=true:=rfl
 simp only [↓aQ,A3,reduceCtorEq,cN,cP,e2,Sy,Sz,yS,yT,Ta,Tb,n0,n31,n32,n33]
 generalize hHX:Hp.put (H2.new _) H2.next _=HX
 have hn1:h1.next=h.next+1:=aF _ _
 have nH2:H2.next=h.next+1:=by rw [nx2,hn1]
 have nX:HX.next=h.next+2:=by rw [← hHX,aV,aF,nx2,hn1]
 have bX:HX.base=H2.base:=by rw [← hHX];rfl
 have atX:∀ c,c<h.next+1→HX.at c=H2.at c:=fun c hc=>by rw [← hHX,aJ,if_neg (by omega),aM,if_neg (by omega)]
 have wfX:Wf HX:=by rw [← hHX];exact (wf2.new _).put (by rw [aF];omega) _
 have rX:=r2.bT fun c hc=>atX c (by rcases hc with h|h<;>omega)
 rw [List.append_assoc] at rX
 obtain ⟨H4,e4,r4,wf4,fr4,nx4⟩:=rX.num hN wfX (by exact hl) (by decide)
 obtain ⟨H5,e5,r5,wf5,fr5,nx5⟩:=r4.num hN wf4 (by show b<256 ^ 1;exact hb) (by decide)
 have w8b:aR .u8 (.ofNat b)=.ofNat b:=w8 hb
 obtain ⟨CX,hatX,hCX⟩:∃ CX,HX.at H2.next=some (.row CX 5 68 true false)∧∀ k,k<5→CX.get (path k)=[A0 3,A0 0,A0 0,A1 0,.slice none 0 0][k]? :=
  ⟨_,by rw [← hHX,aJ,if_pos rfl],fun k hk=>by rw [bM,if_pos ⟨Nat.zero_le _,by simpa using hk⟩,Nat.sub_zero]⟩
 have hat5:H5.at H2.next=some (.row CX 5 68 true false):=by rw [fr5.at_ _ (by omega) (by omega),fr4.at_ _ (by omega) (by omega)];exact hatX
 have m1:Nat.ble (0+2+1) 5=true:=rfl
 have m2:Nat.ble (0+3+1) 5=true:=rfl
 have hCY:∀ k,k<5→(aL [A1 b] (0+3) (aL [A0 len] (0+2) CX fun t=>t) fun t=>t).get (path k)=[A0 3,A0 0,A0 len,A1 b,.slice none 0 0][k]?:=fun k hk=>by
  rw [bM,bM]
  match k,hk with
  | 0,_=>exact hCX 0 (by decide)
  | 1,_=>exact hCX 1 (by decide)
  | 2,_=>rfl
  | 3,_=>rfl
  | 4,_=>exact hCX 4 (by decide)
 generalize hCy:(aL [A1 b] (0+3) (aL [A0 len] (0+2) CX fun t=>t) fun t=>t)=CY at hCY
 have g0:CY.get (path (0+0))=some (A0 3):=hCY 0 (by decide)
 have n34:Nat.beq 3 4=false:=rfl
 have m5:Nat.ble (0+5) 5=true:=rfl
 have hLd:cR CY 0 5 []=some [A0 3,A0 0,A0 len,A1 b,.slice none 0 0]:=dV (o:=0) (vs:=[A0 3,A0 0,A0 len,A1 b,.slice none 0 0]) fun k hk=>by rw [Nat.zero_add];exact hCY k hk
 have hal:bY [A0 3,A0 0,A0 len,A1 b,.slice none 0 0]=true:=rfl
 have hne2:H2.next≠h.next:=by omega
 obtain ⟨C0,hat5h⟩:∃ C0,H5.at h.next=some (.row C0 5 68 true false):=⟨_,by
  rw [fr5.at_ _ (by omega) (by omega),fr4.at_ _ (by omega) (by omega),atX _ (by omega),fr2.at_ _ (by omega) (by omega),aM,if_pos rfl];rfl⟩
 simp only [↓aQ,A3,reduceCtorEq,e4,e5,w8b,hat5,m1,m2,hCy,g0,n0,n31,n32,n33,n34,m5,hLd,hal,hne2,hat5h,yS,yT]
 refine .ret ?_
 have hLd2:cR (aL [A0 3,A0 0,A0 len,A1 b,.slice none 0 0] 0 C0 fun t=>t) 0 5 []=some [A0 3,A0 0,A0 len,A1 b,.slice none 0 0]:=dV (o:=0) (vs:=[A0 3,A0 0,A0 len,A1 b,.slice none 0 0]) fun k hk=>by rw [Nat.zero_add,bM,if_pos ⟨Nat.zero_le _,by simpa using hk⟩,Nat.sub_zero]
 rw [fI (b:=h.next) (by simp) (by rw [aJ,if_pos rfl]) (Nat.le_refl _) hLd2]
 have n5:H5.next=h.next+2:=by rw [nx5,nx4,nX]
 have b5:H5.base=h.base:=by rw [fr5.base,fr4.base,bX,fr2.base];rfl
 have hwb:=hw.base
 have w1:=wf5.put (b:=H2.next) (by omega) (some (.row (aL [A0 len] (0+2) CX fun t=>t) 5 68 true false))
 have w2:=w1.put (b:=H2.next) (by rw [aV];omega) (some (.row CY 5 68 true false))
 have w3:=w2.put (b:=h.next) (by rw [aV,aV];omega) (some (.row (aL [A0 3,A0 0,A0 len,A1 b,.slice none 0 0] 0 C0 fun t=>t) 5 68 true false))
 have at5:∀ c,c<h.next→c≠b1→H5.at c=h.at c:=fun c hc hn=>by
  rw [fr5.at_ _ (by omega) hn,fr4.at_ _ (by omega) hn,atX _ (by omega),fr2.at_ _ (by omega) hn,aM,if_neg (by omega)]
 refine ⟨⟨.slice none 0 0,rfl,⟨rfl,.inl ⟨rfl,.inl rfl⟩⟩,fun _ c hc=>(aDZ hc).elim⟩,r5.bT fun c hc=>?_,hr2.bT fun c hc=>?_,w3,?_⟩
 · have:c<h.next:=by rcases hc with h|h<;>omega
   rw [aJ,if_neg (by omega),aJ,if_neg (by omega),aJ,if_neg (by omega)]
 · have:c<h.next∧c≠b1:=by rcases hc with h|h<;>omega
   rw [aJ,if_neg (by omega),aJ,if_neg (by omega),aJ,if_neg (by omega)]
   exact at5 c this.1 this.2
 · have f2:p7 (fun k=>k=b1∨k=b2) h H2:=(Fr.new (P:=fun k=>k=b1∨k=b2) _).lift.same fr2 hwb fun k h=>.inl h
   have fX:p7 (fun k=>k=b1∨k=b2) h HX:=by
    rw [← hHX]
    exact (f2.dE _).cJ _ hwb fun h=>by omega
   exact ((((fX.same fr4 hwb fun k h=>.inl h).same fr5 hwb fun k h=>.inl h).cJ _ hwb fun h=>by omega).cJ _ hwb fun h=>by omega).cJ _ hwb fun h=>by omega
theorem aKc {call:Call} {cd:cE} (hN:Me call) {o:eJ} (ho:o.Ok) (h3:o.kind=1) {b1 b2 sC tR:Nat} {xs ys:List Nat} {h:Hp} (hw:Wf h) (hr1:Rd h b1 sC (o.code++xs)) (hr2:Rd h b2 tR (o.data++ys)) (hb1:b1<h.next) (hb2:b2<h.next) (hne:b1≠b2) (hl1:tR≠b1) (hl2:sC≠b2) (hq1:sC<h.next) (hq2:tR<h.next) :
 Yields (dD Bk call cd [bE b1 0,bE b2 0] h) (aFQ o b1 b2 sC tR xs ys h):=by
 obtain ⟨kind,from_,len,b,data⟩:=o
 obtain rfl:kind=1:=h3
 obtain ⟨hk,hf,hl,hb,hd,hbyte⟩:=ho
 have hk2:b=0∧data=[]:=by
  rcases hk with h|h|h|h
  · exact h.2
  · exact absurd (show (1:Nat)=_ from h.1) (by decide)
  · exact absurd (show (1:Nat)=_ from h.1) (by decide)
  · exact absurd (show (1:Nat)=_ from h.1) (by decide)
 obtain ⟨rfl,rfl⟩:=hk2
 have hcode:eJ.code ⟨1,from_,len,0,[]⟩=be 1 1++(be 3 from_++be 3 len):=rfl
 rw [hcode,List.append_assoc] at hr1
 have hz:=h.next
 let h1:=h.new (aT [A0 0,A0 0,A0 0,A1 0,.slice none 0 0] 5 68 true)
 have hr1':Rd h1 b1 sC (be 1 1++(be 3 from_++be 3 len++xs)):=hr1.bT fun c hc=>by rw [aM,if_neg (by have:=hr1.lo;rcases hc with h|h<;>omega)]
 obtain ⟨H2,e2,r2,wf2,fr2,nx2⟩:=hr1'.num hN (hw.new _) (by decide) (by decide)
 refine aP rfl ?_
 have lo1h:=hr1.lo
 have lo2h:=hr2.lo
 have b3:H2.next≠b1:=by rw [nx2,aF];omega
 generalize hH3:(H2.new (aT [A0 0,A0 0,A0 0,A1 0,.slice none 0 0] 5 68 true))=H3
 have n0:Nat.blt 0 5=true:=rfl
 have n31:Nat.beq 1 1=true:=rfl
 have n32:Nat.beq 1 2=false:=rfl
 have n33:Nat.beq 1 4=false:=rfl
 simp only [↓aQ,A3,reduceCtorEq,cN,cP,e2,Sy,Sz,yS,yT,Ta,Tb,n0,n31,n32,n33]
 generalize hHX:Hp.put (H2.new _) H2.next _=HX
 have hn1:h1.next=h.next+1:=aF _ _
 have nH2:H2.next=h.next+1:=by rw [nx2,hn1]
 have nX:HX.next=h.next+2:=by rw [← hHX,aV,aF,nx2,hn1]
 have bX:HX.base=H2.base:=by rw [← hHX];rfl
 have atX:∀ c,c<h.next+1→HX.at c=H2.at c:=fun c hc=>by rw [← hHX,aJ,if_neg (by omega),aM,if_neg (by omega)]
 have wfX:Wf HX:=by rw [← hHX];exact (wf2.new _).put (by rw [aF];omega) _
 have rX:=r2.bT fun c hc=>atX c (by rcases hc with h|h<;>omega)
 rw [List.append_assoc] at rX
 obtain ⟨H4,e4,r4,wf4,fr4,nx4⟩:=rX.num hN wfX (by exact hf) (by decide)
 obtain ⟨H5,e5,r5,wf5,fr5,nx5⟩:=r4.num hN wf4 (by exact hl) (by decide)
 obtain ⟨CX,hatX,hCX⟩:∃ CX,HX.at H2.next=some (.row CX 5 68 true false)∧∀ k,k<5→CX.get (path k)=[A0 1,A0 0,A0 0,A1 0,.slice none 0 0][k]? :=
  ⟨_,by rw [← hHX,aJ,if_pos rfl],fun k hk=>by rw [bM,if_pos ⟨Nat.zero_le _,by simpa using hk⟩,Nat.sub_zero]⟩
 have hat5:H5.at H2.next=some (.row CX 5 68 true false):=by rw [fr5.at_ _ (by omega) (by omega),fr4.at_ _ (by omega) (by omega)];exact hatX
 have m1:Nat.ble (0+1+1) 5=true:=rfl
 have m2:Nat.ble (0+2+1) 5=true:=rfl
 have hCY:∀ k,k<5→(aL [A0 len] (0+2) (aL [A0 from_] (0+1) CX fun t=>t) fun t=>t).get (path k)=[A0 1,A0 from_,A0 len,A1 0,.slice none 0 0][k]?:=fun k hk=>by
  rw [bM,bM]
  match k,hk with
  | 0,_=>exact hCX 0 (by decide)
  | 1,_=>rfl
  | 2,_=>rfl
  | 3,_=>exact hCX 3 (by decide)
  | 4,_=>exact hCX 4 (by decide)
 generalize hCy:(aL [A0 len] (0+2) (aL [A0 from_] (0+1) CX fun t=>t) fun t=>t)=CY at hCY
 have g0:CY.get (path (0+0))=some (A0 1):=hCY 0 (by decide)
 have m5:Nat.ble (0+5) 5=true:=rfl
 have hLd:cR CY 0 5 []=some [A0 1,A0 from_,A0 len,A1 0,.slice none 0 0]:=dV (o:=0) (vs:=[A0 1,A0 from_,A0 len,A1 0,.slice none 0 0]) fun k hk=>by rw [Nat.zero_add];exact hCY k hk
 have hal:bY [A0 1,A0 from_,A0 len,A1 0,.slice none 0 0]=true:=rfl
 have hne2:H2.next≠h.next:=by omega
 obtain ⟨C0,hat5h⟩:∃ C0,H5.at h.next=some (.row C0 5 68 true false):=⟨_,by
  rw [fr5.at_ _ (by omega) (by omega),fr4.at_ _ (by omega) (by omega),atX _ (by omega),fr2.at_ _ (by omega) (by omega),aM,if_pos rfl];rfl⟩
 simp only [↓aQ,A3,reduceCtorEq,e4,e5,hat5,m1,m2,hCy,g0,n0,n31,n32,n33,m5,hLd,hal,hne2,hat5h,yS,yT]
 refine .ret ?_
 have hLd2:cR (aL [A0 1,A0 from_,A0 len,A1 0,.slice none 0 0] 0 C0 fun t=>t) 0 5 []=some [A0 1,A0 from_,A0 len,A1 0,.slice none 0 0]:=dV (o:=0) (vs:=[A0 1,A0 from_,A0 len,A1 0,.slice none 0 0]) fun k hk=>by rw [Nat.zero_add,bM,if_pos ⟨Nat.zero_le _,by simpa using hk⟩,Nat.sub_zero]
 rw [fI (b:=h.next) (by simp) (by rw [aJ,if_pos rfl]) (Nat.le_refl _) hLd2]
 have n5:H5.next=h.next+2:=by rw [nx5,nx4,nX]
 have b5:H5.base=h.base:=by rw [fr5.base,fr4.base,bX,fr2.base];rfl
 have hwb:=hw.base
 have w1:=wf5.put (b:=H2.next) (by omega) (some (.row (aL [A0 from_] (0+1) CX fun t=>t) 5 68 true false))
 have w2:=w1.put (b:=H2.next) (by rw [aV];omega) (some (.row CY 5 68 true false))
 have w3:=w2.put (b:=h.next) (by rw [aV,aV];omega) (some (.row (aL [A0 1,A0 from_,A0 len,A1 0,.slice none 0 0] 0 C0 fun t=>t) 5 68 true false))
 have at5:∀ c,c<h.next→c≠b1→H5.at c=h.at c:=fun c hc hn=>by
  rw [fr5.at_ _ (by omega) hn,fr4.at_ _ (by omega) hn,atX _ (by omega),fr2.at_ _ (by omega) hn,aM,if_neg (by omega)]
 refine ⟨⟨.slice none 0 0,rfl,⟨rfl,.inl ⟨rfl,.inl rfl⟩⟩,fun _ c hc=>(aDZ hc).elim⟩,r5.bT fun c hc=>?_,hr2.bT fun c hc=>?_,w3,?_⟩
 · have:c<h.next:=by rcases hc with h|h<;>omega
   rw [aJ,if_neg (by omega),aJ,if_neg (by omega),aJ,if_neg (by omega)]
 · have:c<h.next∧c≠b1:=by rcases hc with h|h<;>omega
   rw [aJ,if_neg (by omega),aJ,if_neg (by omega),aJ,if_neg (by omega)]
   exact at5 c this.1 this.2
 · have f2:p7 (fun k=>k=b1∨k=b2) h H2:=(Fr.new (P:=fun k=>k=b1∨k=b2) _).lift.same fr2 hwb fun k h=>.inl h
   have fX:p7 (fun k=>k=b1∨k=b2) h HX:=by
    rw [← hHX]
    exact (f2.dE _).cJ _ hwb fun h=>by omega
   exact ((((fX.same fr4 hwb fun k h=>.inl h).same fr5 hwb fun k h=>.inl h).cJ _ hwb fun h=>by omega).cJ _ hwb fun h=>by omega).cJ _ hwb fun h=>by omega
end cG
end Go
