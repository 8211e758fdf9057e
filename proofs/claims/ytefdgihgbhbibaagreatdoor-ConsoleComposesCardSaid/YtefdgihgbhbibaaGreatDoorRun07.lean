/-
Symbolic runs of the law's functions and of the program's, part 7.
Conditions: none.
-/
import Derived.Test.YtefdgihgbhbibaaGreatDoorRun06
set_option linter.unusedVariables false
set_option linter.unusedSimpArgs false
set_option linter.defProp false
set_option maxRecDepth 10000
namespace Go
namespace cG
noncomputable def stF (low rg:Nat) (ov:Value) (k:Nat):Value:=if k=0 then A0 low else if k=1 then A0 rg else ov
structure CyS (A:List Nat) (x j bo a:Nat) (h:Hp) (m:Nat) (tm:T Value) (df:Df) (H:Hp):Prop where
 df:df=[]
 t0:tm.get []=some (bE a 0)
 t2:tm.get [false]=some (A0 (j - 1 - m))
 wf:Wf H
 fr:p7 (fun k=>k=bo) h H
 nx:H.next=h.next
 row:Lq 5 H bo j (Gf A x j m)
def CyR (j q bo:Nat) (h:Hp) (H:Hp):Prop:=vN 5 H bo (dR (Rc.pZ j q))∧Wf H∧p7 (fun k=>k=bo) h H∧H.next=h.next
theorem aCg {call:Call} {cd:cE} {h:Hp} {a bo j q low rg:Nat} (hw:Wf h) (hq:q+1<256 ^ j) (hj:j<100000) (hown:vN 5 h bo (dR (Rc.pZ j q))) (hst:iR h a 3 (stF low rg (cB bo 0 j (cM 1 j)))) (hne:a≠bo) :
 Yields (dD Hh call cd [bE a 0] h) (fun v H=>v=.tuple ⟨[]⟩∧CyR j (q+1) bo h H):=by
 obtain ⟨k,y,A,c1,c2,c3,c4,c5⟩:=Rc.Xk j q hq
 have hbo:bo<h.next:=hown.lt hw
 have hF0:Lq 5 h bo j (Gf A y j 0):=hown.fn (by rw [eZ,Rc.iK]) fun p hp=>by
  have hget:(Rc.pZ j q)[p]?=some (uO A y j 0 p):=by
   rw [c4]
   unfold uO
   by_cases h1:p<A.length
   · rw [if_pos h1,List.getElem?_append_left h1,List.getD_eq_getElem?_getD,List.getElem?_eq_getElem h1];rfl
   · rw [if_neg h1,List.getElem?_append_right (by omega)]
     by_cases h2:p=A.length
     · rw [if_pos h2,h2,Nat.sub_self];rfl
     · rw [if_neg h2,if_pos (by omega),show p - A.length=(p - A.length - 1)+1 by omega,List.getElem?_cons_succ,List.getElem?_replicate,if_pos (by omega)]
  exact iH hget
 obtain ⟨cs,es,cls,hats,hcs⟩:=hst
 have hla:=hw.lt hats
 have gs:cs.get (path (0+2))=some (cB bo 0 j (cM 1 j)):=hcs 2 (by omega)
 have qs:Nat.blt (0+2) 3=true:=rfl
 have s3:gP .i64 (.ofNat j) (.ofNat 1)=some (.int .i64 (aR .i64 (.ofNat (j - 1)))):=jI _ (by omega)
 have s4:aR .i64 (.ofNat (j - 1))=.ofNat (j - 1):=bF (by omega)
 have x1:(bo=a)=False:=eq_false fun e=>hne e.symm
 have hats':∀ {H:Hp},p7 (fun k=>k=bo) h H→H.at a=some (.row cs 3 es cls false):=fun f=>by rw [f.at_ a hla hne];exact hats
 have yst:∀ (v:Value) (p:Nat) (c:T Value),(aL [v] p c fun t=>t).get (path p)=some v:=fun v p c=>by rw [bM,if_pos ⟨Nat.le_refl _,by simp⟩,Nat.sub_self];rfl
 refine aP rfl ?_
 simp only [↓aQ,A3,reduceCtorEq,dQ,dI,dJ,hats,gs,qs,s3,s4]
 refine bC.mT (φ:=fun ex tm df H=>ex=.ret∧df=[]∧CyR j (q+1) bo h H) ?_ ?_
 · refine cT (n:=k) (by omega) (CyS A y j bo a h) ?_ ?_ ?_
   · intro m tm df H hm hI
     obtain ⟨rfl,t0,t2,wf,fr,nx,⟨c,hat,hc⟩⟩:=hI
     have e0:Nat.blt (j - 1 - m) 0=false:=cI (Nat.zero_le _)
     have e1:Nat.blt (j - 1 - m) j=true:=bU (by omega)
     have e2:Nat.blt (0+(j - 1 - m)*1) j=true:=bU (by omega)
     have e3:c.get (path (0+(j - 1 - m)*1))=some (A1 255):=by
      rw [show 0+(j - 1 - m)*1=j - 1 - m by omega,hc _ (by omega)]
      unfold Gf uO
      rw [if_neg (by omega),if_neg (by omega),if_pos (by omega)]
     have e4:aR .u8 (.ofNat (255+1))=.ofNat 0:=rfl
     have e5:Nat.ble (0+(j - 1 - m)*1+1) j=true:=cX (by omega)
     have e6:=yst (A1 0) (0+(j - 1 - m)*1) c
     have e7:Nat.beq 0 0=true:=rfl
     have w1:aR .i64 (.ofNat (j - 1 - m - 1))=.ofNat (j - 1 - m - 1):=bF (by omega)
     have s1:gP .i64 (.ofNat (j - 1 - m)) (.ofNat 1)=some (.int .i64 (aR .i64 (.ofNat (j - 1 - m - 1)))):=jI _ (by omega)
     simp only [↓aQ,A3,reduceCtorEq,xC,dI,dJ,t0,t2,hats' fr,gs,qs,hat,e0,e1,e2,e3,e4,e5,e6,e7,s1,w1,x1]
     refine .go ⟨rfl,by simp [t0],by simp;omega,wf.put (by omega) _,fr.cJ _ hw.base (fun _=>rfl),nx,?_⟩
     refine (Ej hc (0+(j - 1 - m)*1) (A1 0)).congr fun p hp=>?_
     by_cases e:p=0+(j - 1 - m)*1
     · rw [if_pos e]
       unfold Gf uO
       rw [if_neg (by omega),if_neg (by omega),if_neg (by omega)]
     · rw [if_neg e]
       unfold Gf uO
       by_cases h1:p<A.length
       · rw [if_pos h1,if_pos h1]
       · rw [if_neg h1,if_neg h1]
         by_cases h2:p=A.length
         · rw [if_pos h2,if_pos h2]
         · rw [if_neg h2,if_neg h2]
           by_cases h3:p<j - m
           · rw [if_pos h3,if_pos (by omega)]
           · rw [if_neg h3,if_neg (by omega)]
   · intro tm df H hI
     obtain ⟨rfl,t0,t2,wf,fr,nx,⟨c,hat,hc⟩⟩:=hI
     have e0:Nat.blt (j - 1 - k) 0=false:=cI (Nat.zero_le _)
     have e1:Nat.blt (j - 1 - k) j=true:=bU (by omega)
     have e2:Nat.blt (0+(j - 1 - k)*1) j=true:=bU (by omega)
     have e3:c.get (path (0+(j - 1 - k)*1))=some (A1 y):=by
      rw [show 0+(j - 1 - k)*1=j - 1 - k by omega,hc _ (by omega)]
      unfold Gf uO
      rw [if_neg (by omega),if_pos (by omega)]
     have e4:aR .u8 (.ofNat (y+1))=.ofNat (y+1):=w8 (by omega)
     have e5:Nat.ble (0+(j - 1 - k)*1+1) j=true:=cX (by omega)
     have e6:=yst (A1 (y+1)) (0+(j - 1 - k)*1) c
     have e7:Nat.beq (y+1) 0=false:=rfl
     simp only [↓aQ,A3,reduceCtorEq,xC,dI,dJ,t0,t2,hats' fr,gs,qs,hat,e0,e1,e2,e3,e4,e5,e6,e7,x1]
     refine ⟨by simp,rfl,rfl,?_,wf.put (by omega) _,fr.cJ _ hw.base (fun _=>rfl),nx⟩
     refine (Ej (e:=5) (h:=H) (b:=bo) hc (0+(j - 1 - k)*1) (A1 (y+1))).own (by rw [eZ,Rc.iK]) fun p hp=>?_
     have hg:(Rc.pZ j (q+1))[p]?=some (if p=0+(j - 1 - k)*1 then y+1 else uO A y j k p):=by
      rw [c5]
      by_cases h1:p<A.length
      · rw [if_neg (by omega),List.getElem?_append_left h1]
        unfold uO
        rw [if_pos h1,List.getD_eq_getElem?_getD,List.getElem?_eq_getElem h1];rfl
      · rw [List.getElem?_append_right (by omega)]
        by_cases h2:p=A.length
        · rw [if_pos (by omega),h2,Nat.sub_self];rfl
        · rw [if_neg (by omega),show p - A.length=(p - A.length - 1)+1 by omega,List.getElem?_cons_succ,List.getElem?_replicate,if_pos (by omega)]
          unfold uO
          rw [if_neg h1,if_neg h2,if_neg (by omega)]
     rw [iH hg]
     by_cases h3:p=0+(j - 1 - k)*1
     · rw [if_pos h3,if_pos h3]
     · rw [if_neg h3,if_neg h3];rfl
   · exact ⟨rfl,by simp [dQ],by simp,hw,p7.refl _ _,rfl,hF0⟩
 rintro ex tm df H ⟨rfl,rfl,hr⟩
 refine .ret ?_
 rw [rK]
 exact ⟨rfl,hr⟩
def aWa (call:Call):Prop:=∀ H a bo j q low rg,Wf H→q+1<256 ^ j→j<100000→vN 5 H bo (dR (Rc.pZ j q))→iR H a 3 (stF low rg (cB bo 0 j (cM 1 j)))→a≠bo→Yields (call 77 [bE a 0] H) (fun v G=>v=.tuple ⟨[]⟩∧CyR j (q+1) bo H G)
structure AdS (a b x r:Nat) (tb:List Nat) (P:Nat→Prop) (h:Hp) (j q low rg:Nat) (tm:T Value) (df:Df) (H:Hp):Prop where
 df:df=[]
 t0:tm.get []=some (bE a 0)
 t1:tm.get [true]=some (bE b 0)
 t2:tm.get [false]=some (A1 x)
 t6:tm.get [false,false]=some (A0 r)
 wf:Wf H
 fr:p7 (fun k=>k=a∨P k) h H
 st:∃ ov,iR H a 3 (stF low rg ov)∧Out 5 1 P H ov j (dR (Rc.pZ j q))
 jE:RtR H b tb
def aLv (a:Nat) (P:Nat→Prop) (e:Rc.En) (H:Hp):Prop:=∃ ov,iR H a 3 (stF (e.N % 4294967296) e.s ov)∧Out 5 1 P H ov e.j (dR (Rc.pZ e.j (e.N / 4294967296)))
def aWb (a:Nat) (P:Nat→Prop) (e:Rc.En) (h:Hp) (v:Value) (H:Hp):Prop:=v=.tuple ⟨[]⟩∧aLv a P e H∧Wf H∧p7 (fun k=>k=a∨P k) h H
structure aWc (a b x:Nat) (tb:List Nat) (P:Nat→Prop) (e:Rc.En) (h:Hp):Prop where
 wf:Wf h
 st:aLv a P e h
 jE:RtR h b tb
 ok:Rc.Ok e
 j:e.j<80000
 tl:tb.length≤1000
 tby:∀ y∈tb,y<256
 x:x<256
 pn:∀ k,h.next≤k→P k
 na:¬ P a
 nb:¬ P b
 ab:a≠b
theorem Tw (low l2 rg:Nat) (ov:Value):∀ k,k<3→(if k=0+0 then A0 l2 else stF low rg ov k)=stF l2 rg ov k:=fun k hk=>by
 unfold stF
 by_cases e:k=0
 · rw [if_pos e,if_pos e]
 · rw [if_neg e,if_neg e,if_neg e]
theorem aLw (low r2 rg:Nat) (ov:Value):∀ k,k<3→(if k=0+1 then A0 r2 else stF low rg ov k)=stF low r2 ov k:=fun k hk=>by
 unfold stF
 by_cases e:k=1
 · rw [if_pos e,if_neg (by omega),if_pos e]
 · rw [if_neg e,if_neg e,if_neg e]
theorem aS6 (low rg:Nat) (ov o2:Value):∀ k,k<3→(if k=0+2 then o2 else stF low rg ov k)=stF low rg o2 k:=fun k hk=>by
 unfold stF
 by_cases e:k=2
 · rw [if_pos e,if_neg (by omega),if_neg (by omega)]
 · rw [if_neg e]
   by_cases e0:k=0
   · rw [if_pos e0,if_pos e0]
   · rw [if_neg e0,if_neg e0,if_pos (by omega),if_pos (by omega)]
theorem Out.put {e:TypeId} {s:Nat} {P:Nat→Prop} {h:Hp} {v:Value} {n a:Nat} {vs:List Value} {o:Option dY} (ho:Out e s P h v n vs) (hw:Wf h) (hna:¬ P a):Out e s P (h.put a o) v n vs:=ho.bT fun c hc _=>by rw [aJ,if_neg (fun e=>hna (by rw [e];exact hc))]
theorem aGk {n:Nat} {l dL:List Nat} {x:Nat} (h:x∈below n l dL):x∈l∨x∈dL:=by
 induction l with
 | nil=>exact .inr h
 | cons a l ih =>
  have e:below n (a::l) dL=bif Nat.blt a n then a::below n l dL else below n l dL:=rfl
  rw [e] at h
  cases hb:Nat.blt a n with
  | true =>
   rw [hb,cond_true] at h
   rcases List.mem_cons.1 h with h|h
   · exact .inl (by rw [h];simp)
   · rcases ih h with h|h
     · exact .inl (by simp [h])
     · exact .inr h
  | false =>
   rw [hb,cond_false] at h
   rcases ih h with h|h
   · exact .inl (by simp [h])
   · exact .inr h
theorem aGl (n:Nat) (l k dL:List Nat):below n l (below n k dL)=below n (l++k) dL:=by
 induction l with
 | nil=>rfl
 | cons a l ih =>
  have e:∀ o,below n (a::l) o=bif Nat.blt a n then a::below n l o else below n l o:=fun o=>rfl
  have e2:below n (a::l++k) dL=bif Nat.blt a n then a::below n (l++k) dL else below n (l++k) dL:=rfl
  rw [e,e2,ih]
theorem p7.sb {P:Nat→Prop} {h H Z:Hp} {L:List Nat} (x:p7 P h H) (ha:h.base≤h.next) (hn:H.next≤Z.next) (hat:∀ k,k<h.next→¬ P k→Z.at k=H.at k) (hls:∀ y∈L,P y):p7 P h (aS Z H.base (below H.base L H.log)):=by
 refine ⟨x.base,Nat.le_trans x.next hn,fun k hk hp=>(hat k hk hp).trans (x.at_ k hk hp),fun y hy=>?_,fun hp=>?_⟩
 · rcases aGk hy with h|h
   · exact .inr (hls y h)
   · exact x.ls y h
 · show below H.base L H.log=h.log
   rw [zY fun y hy=>?_,x.lg hp]
   rw [x.base]
   by_cases h1:y<h.next
   · exact hp y h1 (hls y hy)
   · omega
theorem iR.sb {h:Hp} {b m n:Nat} {l:List Nat} {f:Nat→Value} (hr:iR h b m f):iR (aS h n l) b m f:=hr
theorem Out.sb {e:TypeId} {s:Nat} {P:Nat→Prop} {h:Hp} {v:Value} {n k:Nat} {l:List Nat} {vs:List Value} (ho:Out e s P h v n vs):Out e s P (aS h k l) v n vs:=ho
theorem aLx {e:TypeId} {s:Nat} {P:Nat→Prop} {h:Hp} {x y:Value} {n m:Nat} {vs new:List Value} (hw:Wf h) (ho:Out e s P h x n vs) (hy:Sl s h y m new) (hone:bY new=true) (hm:0<m) (hnm:n+m≤100000) (hPn:P h.next) {lo:Nat} (hlo:h.next≤lo) :
 ∃ v' Z lg,mQ e s x y (aS h lo [])=.val v' (aS Z lo lg)∧(∀ c∈lg,P c∧0<n∧gY x c)∧Out e s P Z v' (n+m) (vs++new)∧Wf Z∧Z.next=h.next+1∧(∀ k,k<h.next→¬ P k→Z.at k=h.at k)∧bY [v']=true:=by
 obtain ⟨yb,yo,yc,rfl,hhas⟩:=hy.pos hm
 have hln:=hy.1
 have hc:=hhas.cells hln.symm
 have hc':cellsOf (aS h lo []) yb yo (m*s)=some new:=hc
 have hlen:(vs++new).length=(n+m)*s:=by rw [List.length_append,ho.1,hln,Nat.add_mul]
 have hall:bY (vs++new)=true:=Ba hone vs ho.2.1
 obtain ⟨hl,h1,⟨hn,hx⟩|⟨b,rfl,hn0,hown,hPb⟩⟩:=ho
 · have hv:vs=[]:=List.eq_nil_of_length_eq_zero (by rw [hl,hn,Nat.zero_mul])
   have e1:=zQ (e:=e) (yc:=yc) hx hm (by omega) hc'
   have en:n+m=m:=by omega
   rw [en,hv,List.nil_append]
   rw [en,hv,List.nil_append] at hlen
   refine ⟨_,h.new (aT new new.length e false),[],e1,fun c hc=>(by cases hc),⟨hlen,hone,.inr ⟨_,rfl,hm,?_,hPn⟩⟩,hw.new _,rfl,fun k hk _=>(by rw [aM,if_neg (by omega)]),rfl⟩
   exact nE rfl
 · have hlt:b<h.next:=hown.lt hw
   have hown':vN e (aS h lo []) b vs:=hown
   have e1:=Ed (yc:=yc) hm hnm hn0 hl hone hc' hown'
   rw [Lc,kQ (by omega)] at e1
   refine ⟨_,(h.put b none).new (aT (vs++new) (vs++new).length e false),[b],e1,fun c hc=>?_,⟨hlen,hall,.inr ⟨_,rfl,by omega,?_,hPn⟩⟩,(hw.put hlt _).new _,rfl,fun k hk hP=>?_,rfl⟩
   · rw [List.mem_singleton] at hc
     subst hc
     exact ⟨hPb,hn0,_,_,_,rfl⟩
   · exact nE rfl
   · rw [aM,if_neg (by rw [aV];omega),aJ,if_neg (fun e=>hP (by rw [← e];exact hPb))]
theorem aLy {call:Call} {cd:cE} (hB:aEt call) (hC:aWa call) {h:Hp} {a b x:Nat} {tb:List Nat} {P:Nat→Prop} {e:Rc.En} (hq:aWc a b x tb P e h) :
 Yields (dD Tu call cd [bE a 0,bE b 0,A1 x] h) (aWb a P (Rc.step tb e x) h):=by
 obtain ⟨hw,⟨ov,⟨cs,es,cls,hats,hcs⟩,hout⟩,htab,he,hej,htl,htby,hxb,hpn,hna,hnb,hab⟩:=hq
 have hla:=hw.lt hats
 have hlb:=htab.lt hw
 obtain ⟨ct,et,clt,hatt,hct⟩:=id htab
 have htot:=Lm (t:=tb) (by omega)
 have htot0:=Rc.Jg tb
 have hcum:=vP (t:=tb) (by omega) (k:=x) (by omega)
 have hcnt:=yO (t:=tb) (by omega) x
 have hhi:=he.hi
 have hlo:=he.lo
 have htop:=he.top
 have hmt:=Rc.zR (e:=e) (t:=tb) (c:=x) htby hxb
 have hms:=Rc.aD0 (e:=e) (t:=tb) (c:=x) he (by omega) htby hxb
 have hms0:0<e.s / Rc.iW tb*Rc.gO tb x:=hms.1
 have hrle:e.s / Rc.iW tb≤e.s:=Nat.div_le_self _ _
 have hN1:(Rc.sB tb e x).N=e.N+e.s / Rc.iW tb*Rc.jK tb x:=rfl
 have hS1:(Rc.sB tb e x).s=e.s / Rc.iW tb*Rc.gO tb x:=rfl
 have hJ1:(Rc.sB tb e x).j=e.j:=rfl
 have hquo:pE .i64 (.ofNat e.s) (.ofNat (Rc.iW tb))=some (.int .i64 (aR .i64 (.ofNat (e.s / Rc.iW tb)))):=tP _ (by omega)
 have hbef:=hB (aS h h.next []) b x tb (htab.bT (by rw [dM])) (by omega) hxb
 generalize hR:e.s / Rc.iW tb=R at *
 have gs0:cs.get (path (0+0))=some (A0 (e.N % 4294967296)):=hcs 0 (by omega)
 have gs1:cs.get (path (0+1))=some (A0 e.s):=hcs 1 (by omega)
 have qs0:Nat.blt (0+0) 3=true:=rfl
 have qs1:Nat.blt (0+1) 3=true:=rfl
 have qs2:Nat.blt (0+2) 3=true:=rfl
 have qf0:Nat.ble (0+0+1) 3=true:=rfl
 have qf1:Nat.ble (0+1+1) 3=true:=rfl
 have qf2:Nat.ble (0+2+1) 3=true:=rfl
 have gt:ct.get (path (0+256))=some (A0 (Rc.iW tb)):=hct 256 (by omega)
 have qt:Nat.blt (0+256) 257=true:=rfl
 have w1:aR .i64 (.ofNat R)=.ofNat R:=bF (by omega)
 refine aP rfl ?_
 refine bC.seq (φ:=AdS a b x R tb P h e.j (e.N / 4294967296) (e.N % 4294967296) e.s) ?_ ?_
 · simp only [↓aQ,A3,reduceCtorEq,m0,m8,dI,dJ,hats,hatt,gs1,qs1,gt,qt,hquo,w1]
   exact ⟨rfl,rfl,by simp [m0],by simp [m8],by simp [pW],by simp,hw,p7.refl _ _,⟨ov,⟨cs,es,cls,hats,hcs⟩,hout⟩,htab⟩
 rintro tm1 Vw H1 hI1
 have hU:R*Rc.jK tb x<4294967296:=by omega
 have m1:iU .i64 (.ofNat R) (.ofNat (Rc.jK tb x))=some (.int .i64 (aR .i64 (.ofNat (R*Rc.jK tb x)))):=lD _ _ _
 have m2:aR .i64 (.ofNat (R*Rc.jK tb x))=.ofNat (R*Rc.jK tb x):=bF (by omega)
 have m4:iU .i64 (.ofNat R) (.ofNat (Rc.gO tb x))=some (.int .i64 (aR .i64 (.ofNat (R*Rc.gO tb x)))):=lD _ _ _
 have m5:aR .i64 (.ofNat (R*Rc.gO tb x))=.ofNat (R*Rc.gO tb x):=bF (by omega)
 generalize hUU:R*Rc.jK tb x=U at *
 generalize hVV:R*Rc.gO tb x=V at *
 refine bC.seq (φ:=AdS a b x R tb P h e.j (e.N / 4294967296) (e.N % 4294967296+U) e.s) ?_ ?_
 · obtain ⟨rfl,t0,t1,t2,t6,wf,fr,⟨ov,⟨cs,es,cls,hats,hcs⟩,hout⟩,jE⟩:=hI1
   have hbef:=hB (aS H1 H1.next []) b x tb (jE.bT (by rw [dM])) (by omega) hxb
   have gs0:cs.get (path (0+0))=some (A0 (e.N % 4294967296)):=hcs 0 (by omega)
   have m3:aR .i64 (.ofNat (e.N % 4294967296+U))=.ofNat (e.N % 4294967296+U):=bF (by omega)
   have hl1:=wf.lt hats
   have hlog:jN H1.next [] a=[a]:=kQ hl1
   have k1:comp Qg 3 12=true:=by decide
   have hle:Nat.ble H1.next a=false:=eN hl1
   simp only [↓aQ,A3,reduceCtorEq,sW,dI,dJ,t0,t1,t2,t6,hats,gs0,qs0,qf0,hbef,hUU,m1,m2,m3,hlog,k1,hle]
   exact ⟨rfl,rfl,t0,t1,t2,t6,(wf.put hl1 _).Iq (by rw [aV];exact wf.base) _,fr.sb hw.base (Nat.le_refl _) (fun k _ hk=>by rw [aJ,if_neg (fun e=>hk (.inl e.symm))]) (fun y hy=>by rw [List.mem_singleton] at hy;exact .inl hy),⟨ov,iR.sb ((iI hcs (0+0) _).congr (Tw _ _ _ _)),Out.sb (hout.put wf hna)⟩,iR.sb (jE.bT (by rw [aJ,if_neg hab]))⟩
 rintro tm2 df2 H2 hI2
 refine bC.seq (φ:=AdS a b x R tb P h e.j ((e.N+U) / 4294967296) ((e.N+U) % 4294967296) e.s) ?_ ?_
 · obtain ⟨rfl,t0,t1,t2,t6,wf,fr,⟨ov,⟨cs,es,cls,hats,hcs⟩,hout⟩,jE⟩:=hI2
   have gs0:cs.get (path (0+0))=some (A0 (e.N % 4294967296+U)):=hcs 0 (by omega)
   have hl1:=wf.lt hats
   by_cases hcar:e.N % 4294967296+U<4294967296
   · have g1:Nat.blt (e.N % 4294967296+U) 4294967296=true:=bU hcar
     have d1:(e.N+U) % 4294967296=e.N % 4294967296+U:=by omega
     have d2:(e.N+U) / 4294967296=e.N / 4294967296:=by omega
     simp only [↓aQ,A3,reduceCtorEq,dI,dJ,t0,hats,gs0,qs0,g1]
     rw [d1,d2]
     exact ⟨rfl,rfl,by simp [t0],by simp [t1],by simp [t2],by simp [t6],wf,fr,⟨ov,⟨cs,es,cls,hats,hcs⟩,hout⟩,jE⟩
   · have g1:Nat.blt (e.N % 4294967296+U) 4294967296=false:=cI (by omega)
     have d1:(e.N+U) % 4294967296=e.N % 4294967296+U - 4294967296:=by omega
     have d2:(e.N+U) / 4294967296=e.N / 4294967296+1:=by omega
     have hq2:e.N / 4294967296+1<256 ^ e.j:=by
      rw [← d2]
      refine Nat.div_lt_of_lt_mul ?_
      omega
     have hj0:0<e.j:=by
      rcases Nat.eq_zero_or_pos e.j with h0|h0
      · rw [h0] at hq2;simp at hq2
      · exact h0
     obtain ⟨ol,oo,⟨on,_⟩|⟨bo,rfl,_,hown,hPb⟩⟩:=hout
     · omega
     have hbo:bo<H2.next:=hown.lt wf
     have hane:a≠bo:=fun e=>hna (by rw [e];exact hPb)
     have hbne:b≠bo:=fun e=>hnb (by rw [e];exact hPb)
     have s1:gP .i64 (.ofNat (e.N % 4294967296+U)) (.ofNat 4294967296)=some (.int .i64 (aR .i64 (.ofNat (e.N % 4294967296+U - 4294967296)))):=jI _ (by omega)
     have s2:aR .i64 (.ofNat (e.N % 4294967296+U - 4294967296))=.ofNat (e.N % 4294967296+U - 4294967296):=bF (by omega)
     obtain ⟨X,hX⟩:∃ X,H2.put a (some (dY.row (aL [A0 (e.N % 4294967296+U - 4294967296)] (0+0) cs fun t=>t) 3 es cls false))=X:=⟨_,rfl⟩
     have wX:Wf X:=by rw [← hX];exact wf.put hl1 _
     have fX:p7 (fun k=>k=a∨P k) h X:=by rw [← hX];exact fr.cJ _ hw.base (fun _=>.inl rfl)
     have rX:iR X a 3 (stF (e.N % 4294967296+U - 4294967296) e.s (cB bo 0 e.j (cM 1 e.j))):=by rw [← hX];exact (iI hcs (0+0) _).congr (Tw _ _ _ _)
     have oX:vN 5 X bo (dR (Rc.pZ e.j (e.N / 4294967296))):=hown.bT (by rw [← hX,aJ,if_neg hane])
     have tX:RtR X b tb:=jE.bT (by rw [← hX,aJ,if_neg hab])
     have nX:X.next=H2.next:=by rw [← hX];rfl
     obtain ⟨r,G,e1,rfl,oG,wG,fG,nG⟩:=(hC X a bo e.j (e.N / 4294967296) _ _ wX hq2 (by omega) oX rX hane).get
     simp only [↓aQ,A3,reduceCtorEq,dI,dJ,t0,hats,gs0,qs0,qf0,g1,s1,s2,hX,e1]
     rw [d1,d2]
     exact ⟨rfl,rfl,by simp [t0],by simp [t1],by simp [t2],by simp [t6],wG,fX.same fG hw.base fun k h=>.inr (by rw [h];exact hPb),⟨_,rX.bT (fG.at_ a (by omega) hane),⟨by rw [eZ,Rc.iK,Nat.mul_one],jJ _,.inr ⟨bo,rfl,hj0,oG,hPb⟩⟩⟩,tX.bT (fG.at_ b (tX.lt wX) hbne)⟩
 rintro tm3 df3 H3 hI3
 refine bC.seq (φ:=AdS a b x R tb P h e.j ((e.N+U) / 4294967296) ((e.N+U) % 4294967296) V) ?_ ?_
 · obtain ⟨rfl,t0,t1,t2,t6,wf,fr,⟨ov,⟨cs,es,cls,hats,hcs⟩,hout⟩,jE⟩:=hI3
   obtain ⟨ct,et,clt,hatt,hct⟩:=id jE
   have hl1:=wf.lt hats
   have g1:ct.get (path (0+0+x*1))=some (A0 (Rc.gO tb x)):=by
    rw [show 0+0+x*1=x by omega,hct x (by omega)];unfold rtF;rw [if_pos hxb]
   have g2:Nat.blt (0+0+x*1) 257=true:=bU (by omega)
   have g3:Nat.blt x 256=true:=bU hxb
   simp only [↓aQ,A3,reduceCtorEq,dI,dJ,t0,t1,t2,t6,hats,hatt,g1,g2,g3,qf1,m4,m5,hVV]
   exact ⟨rfl,rfl,t0,t1,t2,t6,wf.put hl1 _,fr.cJ _ hw.base (fun _=>.inl rfl),⟨ov,(iI hcs (0+1) _).congr (aLw _ _ _ _),hout.put wf hna⟩,jE.bT (by rw [aJ,if_neg hab])⟩
 rintro tm4 df4 H4 hI4
 obtain ⟨d,hd,hd1,hd2,hd3⟩:=Rc.yQ (e:=Rc.sB tb e x) (by rw [hS1];exact hms0)
 have hst:Rc.step tb e x=⟨(Rc.sB tb e x).N*256 ^ d,(Rc.sB tb e x).j+d,(Rc.sB tb e x).s*256 ^ d⟩:=hd3
 generalize hM:Rc.sB tb e x=M at *
 refine bC.mono (bC.Be (φ:=AdS a b x R tb P h (M.j+d) (M.N*256 ^ d / 4294967296) (M.N*256 ^ d % 4294967296) (M.s*256 ^ d)) (bC.mono (φ:=fun ex tm df H=>ex=.exit 0∧AdS a b x R tb P h (M.j+d) (M.N*256 ^ d / 4294967296) (M.N*256 ^ d % 4294967296) (M.s*256 ^ d) tm df H) ?_ fun ex tm df H hh=>⟨hh.1,hh.2⟩)) ?_
 · refine cT (n:=d) (by omega) (fun m tm df H=>AdS a b x R tb P h (M.j+m) (M.N*256 ^ m / 4294967296) (M.N*256 ^ m % 4294967296) (M.s*256 ^ m) tm df H) ?_ ?_ ?_
   · intro m tm df H hm hI
     have hsm:=hd1 m hm
     obtain ⟨rfl,t0,t1,t2,t6,wf,fr,⟨ov,⟨cs,es,cls,hats,hcs⟩,hout⟩,jE⟩:=hI
     have gs0:cs.get (path (0+0))=some (A0 (M.N*256 ^ m % 4294967296)):=hcs 0 (by omega)
     have gs1:cs.get (path (0+1))=some (A0 (M.s*256 ^ m)):=hcs 1 (by omega)
     have gs2:cs.get (path (0+2))=some ov:=hcs 2 (by omega)
     have hl1:=wf.lt hats
     have e1:Nat.blt (M.s*256 ^ m) 16777216=true:=bU hsm
     have hx:M.N*256 ^ m % 4294967296 / 16777216<256:=by omega
     have q1:pE .i64 (.ofNat (M.N*256 ^ m % 4294967296)) (.ofNat 16777216)=some (.int .i64 (aR .i64 (.ofNat (M.N*256 ^ m % 4294967296 / 16777216)))):=tP _ (by omega)
     have w1:aR .i64 (.ofNat (M.N*256 ^ m % 4294967296 / 16777216))=.ofNat (M.N*256 ^ m % 4294967296 / 16777216):=bF (by omega)
     have w2:aR .u8 (.ofNat (M.N*256 ^ m % 4294967296 / 16777216))=.ofNat (M.N*256 ^ m % 4294967296 / 16777216):=w8 hx
     have hpw:M.N*256 ^ (m+1)=M.N*256 ^ m*256:=by rw [Nat.pow_succ,Nat.mul_assoc]
     have hpush:=Rc.Xi (M.j+m) (M.N*256 ^ m)
     generalize hX:M.N*256 ^ m % 4294967296 / 16777216=X at *
     have y1:Nat.ble (0+1) 1=true:=rfl
     unfold Cj
     refine bC.seq (φ:=fun tm' df' H'=>df'=[]∧H'=H∧tm'.get []=some (bE a 0)∧tm'.get [true]=some (bE b 0)∧tm'.get [false]=some (A1 x)∧tm'.get [false,false]=some (A0 R)) ?_ ?_
     · simp only [↓aQ,A3,reduceCtorEq,dI,dJ,t0,hats,gs1,qs1,e1]
       exact ⟨rfl,rfl,rfl,by simp [t0],by simp [t1],by simp [t2],by simp [t6]⟩
     clear t0 t1 t2 t6
     rintro tm6 df6 H' ⟨rfl,hH',t0,t1,t2,t6⟩
     rw [hH']
     have hsl:Sl 1 (H.new (aT [A1 X] 1 5 true)) (cB H.next 0 1 1) 1 (dR [X]):=⟨rfl,.inr ⟨_,_,_,rfl,by omega,fS (vs:=[A1 X]) (n:=1) (e:=5) (cl:=true) (by rw [aM,if_pos rfl]) (Nat.le_refl _)⟩⟩
     have ho':Out 5 1 P (H.new (aT [A1 X] 1 5 true)) ov (M.j+m) (dR (Rc.pZ (M.j+m) (M.N*256 ^ m / 4294967296))):=hout.Py wf fun c _ _ hP hlt=>⟨hP,by rw [aM,if_neg (by omega)]⟩
     have nhH:=fr.next
     obtain ⟨v',Z,lg,ea,hlg,ho2,wf2,nx2,aZ0,hv1⟩:=aLx (wf.new _) ho' hsl (jJ _) (by omega) (by omega) (hpn _ (by rw [aF];omega)) (lo:=H.next+1) (Nat.le_refl _)
     rw [← lO,← hpush] at ho2
     have nZ:Z.next=H.next+2:=nx2
     have fZ:∀ k,k<H.next→¬ P k→Z.at k=H.at k:=fun k hk hP=>by
      rw [aZ0 k (by rw [aF];omega) hP,aM,if_neg (by omega)]
     have hlgH:∀ c∈lg,P c∧c<H.next:=fun c hc=>by
      obtain ⟨h1,h2,h3⟩:=hlg c hc
      exact ⟨h1,hout.sl.lt wf h2 h3⟩
     have aZ:Z.at a=some (.row cs 3 es cls false):=by rw [fZ a hl1 hna];exact hats
     have al1:∀ own,allowed (comp zZ) 12 true own { ns:=[(H.next,11)],rs:=[(8,a),(4,a)],ws:=[] } lg=true:=fun own=>tA fun y hy=>by
      obtain ⟨h1,h2⟩:=hlgH y hy
      have x1:Nat.ble H.next y=false:=eN h2
      have x2:Nat.beq a y=false:=dO fun e=>hna (by rw [e];exact h1)
      simp only [Pw,Wv,Ww,Wy,yI,x1,x2,cond_true,cond_false]
     have k1:comp zZ 4 15=true:=by decide
     have k2:comp zZ 8 15=true:=by decide
     have x1:Nat.ble (H.next+1) a=false:=eN (by omega)
     have x2:Nat.ble H.next a=false:=eN hl1
     have x3:jN (H.next+2) [] a=[a]:=kQ (by omega)
     obtain ⟨Y,hY⟩:∃ Y,aS (Z.put a (some (dY.row (aL [v'] (0+2) cs fun t=>t) 3 es cls false))) H.base (below H.base ([a]++(lg++[])) H.log)=Y:=⟨_,rfl⟩
     have wY:Wf Y:=by rw [← hY];exact (wf2.put (by omega) _).Iq (by rw [aV];have:=wf.base;omega) _
     have fY:p7 (fun k=>k=a∨P k) h Y:=by
      rw [← hY]
      refine fr.sb hw.base (by rw [aV];omega) (fun k hk hP=>?_) fun y hy=>?_
      · rw [aJ,if_neg (fun e=>hP (.inl e.symm)),fZ k (by omega) fun h=>hP (.inr h)]
      · rcases List.mem_append.1 hy with h|h
        · rw [List.mem_singleton] at h;exact .inl h
        · rw [List.append_nil] at h;exact .inr (hlgH y h).1
     have rY:iR Y a 3 (stF (M.N*256 ^ m % 4294967296) (M.s*256 ^ m) v'):=by rw [← hY];exact iR.sb ((iI hcs (0+2) _).congr (aS6 _ _ _ _))
     have oY:Out 5 1 P Y v' (M.j+m+1) (dR (Rc.pZ (M.j+m+1) (M.N*256 ^ m*256 / 4294967296))):=by rw [← hY];exact Out.sb (ho2.put wf2 hna)
     have tY:RtR Y b tb:=by
      refine jE.bT ?_
      rw [← hY,dM,aJ,if_neg hab]
      exact fZ b (jE.lt wf) hnb
     obtain ⟨c1,e1',cl1,atY,hc1⟩:=rY
     have gy0:c1.get (path (0+0))=some (A0 (M.N*256 ^ m % 4294967296)):=hc1 0 (by omega)
     have q2:iZ .i64 (.ofNat (M.N*256 ^ m % 4294967296)) (.ofNat 16777216)=some (A0 (M.N*256 ^ m % 4294967296 % 16777216)):=lN _ (by omega)
     have q3:iU .i64 (.ofNat (M.N*256 ^ m % 4294967296 % 16777216)) (.ofNat 256)=some (.int .i64 (aR .i64 (.ofNat (M.N*256 ^ m % 4294967296 % 16777216*256)))):=lD _ _ _
     have w3:aR .i64 (.ofNat (M.N*256 ^ m % 4294967296 % 16777216*256))=.ofNat (M.N*256 ^ m % 4294967296 % 16777216*256):=bF (by omega)
     have q4:iU .i64 (.ofNat (M.s*256 ^ m)) (.ofNat 256)=some (.int .i64 (aR .i64 (.ofNat (M.s*256 ^ m*256)))):=lD _ _ _
     have w4:aR .i64 (.ofNat (M.s*256 ^ m*256))=.ofNat (M.s*256 ^ m*256):=bF (by omega)
     obtain ⟨U2,hU2⟩:∃ U2,Y.put a (some (dY.row (aL [A0 (M.N*256 ^ m % 4294967296 % 16777216*256)] (0+0) c1 fun t=>t) 3 e1' cl1 false))=U2:=⟨_,rfl⟩
     have hlaY:=wY.lt atY
     have wU:Wf U2:=by rw [← hU2];exact wY.put hlaY _
     have fU:p7 (fun k=>k=a∨P k) h U2:=by rw [← hU2];exact fY.cJ _ hw.base (fun _=>.inl rfl)
     have rU:iR U2 a 3 (stF (M.N*256 ^ m % 4294967296 % 16777216*256) (M.s*256 ^ m) v'):=by rw [← hU2];exact (iI hc1 (0+0) _).congr (Tw _ _ _ _)
     have oU:Out 5 1 P U2 v' (M.j+m+1) (dR (Rc.pZ (M.j+m+1) (M.N*256 ^ m*256 / 4294967296))):=by rw [← hU2];exact oY.put wY hna
     have tU:RtR U2 b tb:=tY.bT (by rw [← hU2,aJ,if_neg hab])
     obtain ⟨c2,e2',cl2,atU,hc2⟩:=rU
     have gu1:c2.get (path (0+1))=some (A0 (M.s*256 ^ m)):=hc2 1 (by omega)
     simp only [↓aQ,A3,reduceCtorEq,sW,dI,dJ,t0,t1,t2,t6,hats,gs0,gs1,gs2,qs0,qs1,qs2,qf0,qf1,qf2,q1,w1,w2,y1,gE,ea,al1,aZ,hv1,aGl,k1,k2,x1,x2,x3,nZ,hY,atY,gy0,q2,q3,w3,hU2,atU,gu1,q4,w4]
     refine .go ⟨rfl,t0,t1,t2,t6,wU.put (wU.lt atU) _,fU.cJ _ hw.base (fun _=>.inl rfl),⟨v',?_,?_⟩,tU.bT (by rw [aJ,if_neg hab])⟩
     · rw [hpw,← Rc.Xj,Nat.pow_succ,← Nat.mul_assoc]
       exact (iI hc2 (0+1) _).congr (aLw _ _ _ _)
     · rw [hpw]
       exact oU.put wU hna
   · intro tm df H hI
     obtain ⟨rfl,t0,t1,t2,t6,wf,fr,⟨ov,⟨cs,es,cls,hats,hcs⟩,hout⟩,jE⟩:=hI
     have gs1:cs.get (path (0+1))=some (A0 (M.s*256 ^ d)):=hcs 1 (by omega)
     have e1:Nat.blt (M.s*256 ^ d) 16777216=false:=cI hd2
     simp only [↓aQ,A3,reduceCtorEq,Cj,dI,dJ,t0,hats,gs1,qs1,e1]
     exact .ex ⟨rfl,rfl,by simp [t0],by simp [t1],by simp [t2],by simp [t6],wf,fr,⟨ov,⟨cs,es,cls,hats,hcs⟩,hout⟩,jE⟩
   · rw [Nat.pow_zero,Nat.mul_one,Nat.mul_one,hN1,hS1,hJ1]
     exact hI4
 rintro ex tm5 df5 H5 ⟨rfl,⟨rfl,t0,t1,t2,t6,wf,fr,st,jE⟩⟩
 refine Ip.end ?_
 rw [rK,hst]
 exact ⟨rfl,st,wf,fr⟩
def aWd (call:Call):Prop:=∀ h a b x tb P e,aWc a b x tb P e h→Yields (call 41 [bE a 0,bE b 0,A1 x] h) (aWb a P (Rc.step tb e x) h)
structure ReS (n:Nat) (tv:Value) (text:List Nat) (h:Hp) (i:Nat) (tm:T Value) (df:Df) (H:Hp):Prop where
 df:df=[]
 t1:tm.get [true]=some tv
 t6:tm.get [false,false]=some (bE h.next 0)
 t7:tm.get [true,true,true]=some (bE (h.next+257) 0)
 t8:tm.get [false,true,true]=some (A0 i)
 wf:Wf H
 fr:Fr (fun _=>False) h H
 nx:h.next+258≤H.next
 ts:TsR H h.next n (text.take i)
 st:aLv (h.next+257) (fun k=>h.next+258≤k) (Rc.st (cU n) (text.take i)) H
structure TZ9 (b L:Nat) (vs:List Nat) (h:Hp) (m:Nat) (tm:T Value) (df:Df) (H:Hp):Prop where
 df:df=[]
 hh:H=h
 t9:tm.get [true,false,true]=some (cB b 0 (vs.length - m) (cM 1 L))
theorem aCh {call:Call} {h:Hp} {b L:Nat} {vs:List Nat} (hv:Has h b 0 (dR vs)) (hL:vs.length≤L) (hL2:L<1000000) {tm:T Value} {df:Df} (hst:TZ9 b L vs h 0 tm df h) :
 bC (iP (.loop lV) call tm df h) (fun e tm df H=>e=.exit 2∧df=[]∧H=h∧tm.get [true,false,true]=some (cB b 0 (Rc.eD vs).length (cM 1 L))):=by
 obtain ⟨k,hk⟩:=Rc.oQ vs
 have hkl:vs.length=(Rc.eD vs).length+k:=by
  have:=congrArg List.length hk
  rw [List.length_append,List.length_replicate] at this
  exact this
 obtain ⟨c,mm,e,cl,ro,hat,hmm,hc⟩:=hv
 rw [eZ] at hmm hc
 refine cT (n:=k) (by omega) (TZ9 b L vs h) ?_ ?_ hst
 · intro m tm df H hm p
   obtain ⟨rfl,rfl,t9⟩:=p
   have hz:vs[vs.length - m - 1]?=some 0:=by
    rw [hk,List.getElem?_append_right (by rw [← hk];omega),List.getElem?_replicate,if_pos (by rw [← hk];omega)]
   have q1:Nat.blt 0 (vs.length - m)=true:=bU (by omega)
   have s1:gP .i64 (.ofNat (vs.length - m)) (.ofNat 1)=some (.int .i64 (aR .i64 (.ofNat (vs.length - m - 1)))):=jI _ (by omega)
   have s2:aR .i64 (.ofNat (vs.length - m - 1))=.ofNat (vs.length - m - 1):=bF (by omega)
   have q2:Nat.blt (vs.length - m - 1) (vs.length - m)=true:=bU (by omega)
   have q3:Nat.blt (0+(vs.length - m - 1)*1) mm=true:=bU (by omega)
   have q4:c.get (path (0+(vs.length - m - 1)*1))=some (A1 0):=by
    rw [Nat.mul_one,hc _ (by omega)];exact iH hz
   have q5:Nat.beq 0 0=true:=rfl
   have q6:=Lr (b:=b) (o:=0) (l:=vs.length - m) (L:=L) (hi:=vs.length - m - 1) (by omega) hL2
   simp only [↓aQ,A3,reduceCtorEq,lV,t9,hat,q1,s1,s2,q2,q3,q4,q5,aJY,q6]
   exact .go ⟨rfl,rfl,by simp [Nat.sub_sub]⟩
 · intro tm df H p
   obtain ⟨rfl,rfl,t9⟩:=p
   have hlen:vs.length - k=(Rc.eD vs).length:=by omega
   rw [hlen] at t9
   rcases Lt vs with h0|⟨x,hx,hx0⟩
   · have q1:Nat.blt 0 (Rc.eD vs).length=false:=by rw [h0];rfl
     simp only [↓aQ,A3,reduceCtorEq,lV,t9,q1]
     exact .ex ⟨rfl,rfl,rfl,by simp [t9]⟩
   · have hpos:0<(Rc.eD vs).length:=by have:=(List.getElem?_eq_some_iff.1 hx).1;omega
     have hx2:vs[(Rc.eD vs).length - 1]?=some x:=by
      have hk2:=congrArg (fun l:List Nat=>l[(Rc.eD vs).length - 1]?) hk
      refine hk2.trans ?_
      show (Rc.eD vs++List.replicate k 0)[(Rc.eD vs).length - 1]?=_
      rw [List.getElem?_append_left (by omega)]
      exact hx
     have q1:Nat.blt 0 (Rc.eD vs).length=true:=bU hpos
     have s1:gP .i64 (.ofNat (Rc.eD vs).length) (.ofNat 1)=some (.int .i64 (aR .i64 (.ofNat ((Rc.eD vs).length - 1)))):=jI _ (by omega)
     have s2:aR .i64 (.ofNat ((Rc.eD vs).length - 1))=.ofNat ((Rc.eD vs).length - 1):=bF (by omega)
     have q2:Nat.blt ((Rc.eD vs).length - 1) (Rc.eD vs).length=true:=bU (by omega)
     have q3:Nat.blt (0+((Rc.eD vs).length - 1)*1) mm=true:=bU (by omega)
     have q4:c.get (path (0+((Rc.eD vs).length - 1)*1))=some (A1 x):=by
      rw [Nat.mul_one,hc _ (by omega)];exact iH hx2
     have q5:Nat.beq x 0=false:=dO hx0
     simp only [↓aQ,A3,reduceCtorEq,lV,t9,hat,q1,s1,s2,q2,q3,q4,q5]
     exact .ex ⟨rfl,rfl,rfl,by simp [t9]⟩
theorem Zg {call:Call} {cd:cE} (hB:aEw call) (hN:aLs call) (hA:aWd call) (hS:aEy call) {n:Nat} {tv:Value} {text:List Nat} {h:Hp} (hn:n=1∨n=2) (hw:Wf h) (htv:Sl 1 h tv text.length (dR text)) (hlen:text.length≤1000) (hbyte:∀ x∈text,x<256) :
 Yields (dD Ch call cd [A0 n,tv] h) (aJZ n text h):=by
 have hwb:=hw.base
 have hl:=htv.len
 have hg:=uN n
 have q0:Nat.blt n 0=false:=cI (Nat.zero_le _)
 have q1:Nat.blt 2 n=false:=cI (by omega)
 have q2:Nat.blt 65536 text.length=false:=cI (by omega)
 obtain ⟨r,H1,e1,rfl,ts1,w1,f1,n1⟩:=(hB h n hw hn).get
 refine aP rfl ?_
 have q3:Nat.ble (1+1) 3=true:=rfl
 simp only [↓aQ,A3,reduceCtorEq,cN,cP,q0,q1,hl,q2,e1,n1,q3]
 obtain ⟨K,hK⟩:∃ K,H1.new (aT [A0 0,A0 4294967295,Value.slice none 0 0] 3 108 true)=K:=⟨_,rfl⟩
 have wK:Wf K:=by rw [← hK];exact w1.new _
 have fK:Fr (fun _=>False) h K:=by rw [← hK];exact f1.dE _
 have nK:K.next=h.next+258:=by rw [← hK,aF,n1]
 have tK:TsR K h.next n []:=ts1.bT fun c h1 h2=>by rw [← hK,aM,if_neg (by omega)]
 have sK:aLv (h.next+257) (fun k=>h.next+258≤k) Rc.start K:=by
  refine ⟨.slice none 0 0,?_,Out.nil⟩
  rw [← hK,← n1]
  exact rL rfl fun k hk=>by
   match k,hk with
   | 0,_=>rfl
   | 1,_=>rfl
   | 2,_=>rfl
 refine bC.mT (φ:=Ho fun ex tm df H=>ex=.normal∧ReS n tv text h text.length tm df H) (bC.mT (φ:=Ho fun ex tm df H=>ex=.exit 0∧ReS n tv text h text.length tm df H) ?_ ?_) ?_
 · refine cT (n:=text.length) (by omega) (ReS n tv text h) ?_ ?_ ?_
   · intro i tm df H hi hI
     obtain ⟨rfl,t1,t6,t7,t8,wf,fr,nx,ts,st⟩:=hI
     obtain ⟨x,hx⟩:∃ x,text[i]?=some x:=⟨text[i],List.getElem?_eq_getElem hi⟩
     have hxb:x<256:=hbyte x (List.mem_of_getElem? hx)
     have hwb':∀ y∈text.take i,y<256:=fun y hy=>hbyte y (List.mem_of_mem_take hy)
     have hwl:(text.take i).length≤1000:=by rw [List.length_take];omega
     have hok:=Rc.Ll hg hwb' (by omega)
     have hj:=Rc.aFN (cU n) (text.take i)
     have hp:=(Xh (text.take i) hwb').1
     have hcur:=aEx (n:=n) hp
     have hhl:=hg.len (text.take i)
     have hhb:=hg.byte (text.take i) hwb'
     obtain ⟨bt,ot,ct,rfl,hht⟩:=htv.pos (by omega)
     have hbt:bt<h.next:=hht.lt hw
     obtain ⟨c,mm,ee,cl,ro,hat,hmm,hcc⟩:=(hht.bT (fr.at_ bt hbt fun h=>h)).get (iH hx)
     have e2:=hN (aS H H.next []) h.next n (text.take i) hn hp (ts.bT fun c _ _=>by rw [dM])
     have htab:=ts.jE _ hcur
     rw [aPc hn] at htab
     obtain ⟨r,G,e3,rfl,sG,wG,fG⟩:=(hA (aS H H.next []) (h.next+257) (h.next+(Ck n (text.take i)+1)) x (cU n (text.take i)) (fun k=>h.next+258≤k) _ ⟨wf.sb [],⟨st.choose,iR.sb st.choose_spec.1,Out.sb st.choose_spec.2⟩,iR.sb htab,hok,by omega,by omega,hhb,hxb,fun k hk=>by rw [cL] at hk;omega,by omega,by omega,by omega⟩).get
     have lG:∀ y∈G.log,h.next+257≤y:=fun y hy=>by
      rcases fG.ls y hy with h1|h1
      · cases h1
      · rcases h1 with h1|h1<;>omega
     have nG:H.next≤G.next:=fG.next
     have aG:∀ k,k<H.next→k<h.next+257→G.at k=H.at k:=fun k h1 h2=>fG.at_ k h1 (by omega)
     have hB1:below H.base G.log H.log=H.log:=zY fun y hy=>by rw [fr.base];have:=lG y hy;omega
     obtain ⟨Y,hY⟩:∃ Y,aS G H.base H.log=Y:=⟨_,rfl⟩
     have wY:Wf Y:=by rw [← hY];exact wG.Iq (by have:=wf.base;omega) _
     have fY:Fr (fun _=>False) h Y:=by rw [← hY];exact ⟨fr.base,fr.log,by rw [cL];omega,fun k hk _=>(by rw [dM,aG k (by omega) (by omega)];exact fr.at_ k hk fun h=>h)⟩
     have nY:Y.next=G.next:=by rw [← hY];rfl
     have tY:TsR Y h.next n (text.take i):=ts.bT fun c h1 h2=>by rw [← hY,dM,aG c (by omega) (by omega)]
     have sY:aLv (h.next+257) (fun k=>h.next+258≤k) (Rc.step (cU n (text.take i)) (Rc.st (cU n) (text.take i)) x) Y:=by
      rw [← hY]
      obtain ⟨ov,r1,r2⟩:=sG
      exact ⟨ov,iR.sb r1,Out.sb r2⟩
     have hatY:Y.at bt=some (.row c mm ee cl ro):=by rw [← hY,dM,aG bt (by omega) (by omega)];exact hat
     obtain ⟨r,Z,e4,rfl,tZ,wZ,fZ,nZ⟩:=(hS Y h.next n x (text.take i) wY hn hp (by omega) (by rw [fY.base];omega) hxb tY).get
     have k1:Nat.blt i text.length=true:=bU hi
     have k2:Nat.blt (ot+i*1) mm=true:=bU (by omega)
     have k3:c.get (path (ot+i*1))=some (A1 x):=by rw [Nat.mul_one];exact hcc
     have w3:aR .i64 (.ofNat (i+1))=.ofNat (i+1):=bF (by omega)
     have al:allowed (comp Et) 7 true [(0,true),(1,true),(2,true),(3,true),(4,true),(5,true),(6,true)] { ns:=[(H.next,2)],rs:=[(6,bt)],ws:=[] } G.log=true:=tA fun y hy=>by
      have x2:Nat.beq bt y=false:=dO (by have:=lG y hy;omega)
      rw [Pw]
      simp only [Wv,Ww,Wy,yI,x2,cond_false]
      cases Nat.ble H.next y<;>rfl
     simp only [↓aQ,A3,reduceCtorEq,tW,sW,t1,t6,t7,t8,k1,k2,k3,e2,hat,e3,hB1,hY,hatY,e4,w3,al]
     have nZ':Z.next=G.next:=nZ.trans nY
     refine .go ⟨rfl,by simp [t1],by simp [t6],by simp [t7],by simp,wZ,fY.trans fZ fun k hk h=>by omega,by omega,by rw [lI hx];exact tZ,?_⟩
     rw [lI hx,Rc.Eg]
     obtain ⟨ov,r1,r2⟩:=sY
     exact ⟨ov,r1.bT (fZ.at_ _ (by omega) (by omega)),r2.Py wY fun c _ _ hP hlt=>⟨hP,fZ.at_ c hlt (by omega)⟩⟩
   · intro tm df H hI
     obtain ⟨rfl,t1,t6,t7,t8,wf,fr,nx,ts,st⟩:=hI
     have k1:Nat.blt text.length text.length=false:=cI (Nat.le_refl _)
     simp only [↓aQ,A3,reduceCtorEq,tW,t1,t8,hl,k1]
     exact .ex ⟨rfl,⟨rfl,by simp [t1],by simp [t6],by simp [t7],by simp [t8],wf,fr,nx,ts,st⟩⟩
   · rw [hK]
     exact ⟨rfl,by simp [cP],by simp,by simp,by simp,wK,fK,by omega,tK,sK⟩
 · rintro ex tm df H ⟨⟨rfl,rest⟩⟩;exact ⟨rfl,rest⟩
 rintro ex tm df H ⟨⟨rfl,⟨rfl,t1,t6,t7,t8,wf,fr,nx,ts,st⟩⟩⟩
 rw [List.take_length] at st
 clear ts
 have hst:=Rc.Ll hg hbyte (by omega:text.length≤2000)
 have hjl:=Rc.aFN (cU n) text
 have htz:Rc.enc (cU n) text=Rc.eD (Rc.pZ ((Rc.st (cU n) text).j+4) (Rc.st (cU n) text).N):=rfl
 generalize hSS:Rc.st (cU n) text=S at *
 obtain ⟨ov,⟨cs,es,cls,hats,hcs⟩,hout⟩:=st
 generalize hlo:S.N % 4294967296=lo at *
 have hlo2:lo<4294967296:=by rw [← hlo];exact Nat.mod_lt _ (by decide)
 have gs0:cs.get (path (0+0))=some (A0 lo):=hcs 0 (by omega)
 have gs2:cs.get (path (0+2))=some ov:=hcs 2 (by omega)
 have qs0:Nat.blt (0+0) 3=true:=rfl
 have qs2:Nat.blt (0+2) 3=true:=rfl
 have a1:pE .i64 (.ofNat lo) (.ofNat 16777216)=some (.int .i64 (aR .i64 (.ofNat (lo / 16777216)))):=tP _ (by omega)
 have a2:pE .i64 (.ofNat lo) (.ofNat 65536)=some (.int .i64 (aR .i64 (.ofNat (lo / 65536)))):=tP _ (by omega)
 have a3:pE .i64 (.ofNat lo) (.ofNat 256)=some (.int .i64 (aR .i64 (.ofNat (lo / 256)))):=tP _ (by omega)
 have b1:aR .i64 (.ofNat (lo / 16777216))=.ofNat (lo / 16777216):=bF (by omega)
 have b2:aR .i64 (.ofNat (lo / 65536))=.ofNat (lo / 65536):=bF (by omega)
 have b3:aR .i64 (.ofNat (lo / 256))=.ofNat (lo / 256):=bF (by omega)
 have c2:iZ .i64 (.ofNat (lo / 65536)) (.ofNat 256)=some (A0 (lo / 65536 % 256)):=lN _ (by omega)
 have c3:iZ .i64 (.ofNat (lo / 256)) (.ofNat 256)=some (A0 (lo / 256 % 256)):=lN _ (by omega)
 have c4:iZ .i64 (.ofNat lo) (.ofNat 256)=some (A0 (lo % 256)):=lN _ (by omega)
 have d1:aR .u8 (.ofNat (lo / 16777216))=.ofNat (lo / 16777216):=w8 (by omega)
 have d2:aR .u8 (.ofNat (lo / 65536 % 256))=.ofNat (lo / 65536 % 256):=w8 (by omega)
 have d3:aR .u8 (.ofNat (lo / 256 % 256))=.ofNat (lo / 256 % 256):=w8 (by omega)
 have d4:aR .u8 (.ofNat (lo % 256))=.ofNat (lo % 256):=w8 (by omega)
 generalize hV4:[lo / 16777216,lo / 65536 % 256,lo / 256 % 256,lo % 256]=V4
 have hR4:[A1 (lo / 16777216),A1 (lo / 65536 % 256),A1 (lo / 256 % 256),A1 (lo % 256)]=dR V4:=by rw [← hV4];rfl
 have hsl:Sl 1 (H.new (aT (dR V4) 4 5 true)) (cB H.next 0 4 4) 4 (dR V4):=⟨by rw [← hV4];rfl,.inr ⟨_,_,_,rfl,by omega,fS (n:=4) (e:=5) (cl:=true) (by rw [aM,if_pos rfl]) (by rw [← hV4];exact Nat.le_refl _)⟩⟩
 have ho':Out 5 1 (fun k=>h.next+258≤k) (H.new (aT (dR V4) 4 5 true)) ov S.j (dR (Rc.pZ S.j (S.N / 4294967296))):=hout.Py wf fun c _ _ hP hlt=>⟨hP,by rw [aM,if_neg (by omega)]⟩
 obtain ⟨v',Z,lg,ea,hlg,ho3,wZ,nZ,aZ,hv1⟩:=aLx (wf.new _) ho' hsl (jJ _) (by omega) (by omega) (by show h.next+258≤H.next+1;omega) (lo:=H.next+1) (Nat.le_refl _)
 rw [← lO,← hV4,← hlo,← Rc.Xl] at ho3
 have hlgH:∀ c∈lg,h.next+258≤c∧c<H.next:=fun c hc=>by
  obtain ⟨h1,h2,h3⟩:=hlg c hc
  exact ⟨h1,hout.sl.lt wf h2 h3⟩
 have hB1:below H.base lg H.log=H.log:=zY fun y hy=>by rw [fr.base];have:=(hlgH y hy).1;omega
 have al:∀ own,allowed (comp Eu) 31 true own { ns:=[(H.next,30)],rs:=[(27,h.next+257),(20,h.next+257),(13,h.next+257),(7,h.next+257),(3,h.next+257)],ws:=[] } lg=true:=fun own=>tA fun y hy=>by
  obtain ⟨h1,h2⟩:=hlgH y hy
  have x1:Nat.ble H.next y=false:=eN h2
  have x2:Nat.beq (h.next+257) y=false:=dO (by omega)
  simp only [Pw,Wv,Ww,Wy,yI,x1,x2,cond_true,cond_false]
 have qb0:Nat.ble (0+1) 4=true:=rfl
 have qb1:Nat.ble (1+1) 4=true:=rfl
 have qb2:Nat.ble (2+1) 4=true:=rfl
 have qb3:Nat.ble (3+1) 4=true:=rfl
 have qv:(dR V4).length=4:=by rw [← hV4];rfl
 simp only [↓aQ,A3,reduceCtorEq,sW,dI,dJ,t7,hats,gs0,gs2,qs0,qs2,a1,a2,a3,b1,b2,b3,c2,c3,c4,d1,d2,d3,d4,hR4,qb0,qb1,qb2,qb3,qv,gE,ea,hB1,al]
 obtain ⟨Y,hY⟩:∃ Y,aS Z H.base H.log=Y:=⟨_,rfl⟩
 have nZ':Z.next=H.next+2:=nZ
 have wY:Wf Y:=by rw [← hY];exact wZ.Iq (by have:=wf.base;omega) _
 have fY:Fr (fun _=>False) h Y:=by rw [← hY];exact ⟨fr.base,fr.log,by rw [cL];omega,fun k hk _=>(by rw [dM,aZ k (by rw [aF];omega) (by omega),aM,if_neg (by omega)];exact fr.at_ k hk fun h=>h)⟩
 have ho4:Out 5 1 (fun k=>h.next+258≤k) Y v' (S.j+4) (dR (Rc.pZ (S.j+4) S.N)):=by rw [← hY];exact Out.sb ho3
 rw [hY]
 obtain ⟨ol,oo,⟨on,_⟩|⟨bo,rfl,_,hown,hPb⟩⟩:=ho4
 · omega
 refine bC.mT (φ:=Ho fun ex tm df H=>ex=.normal∧df=[]∧H=Y∧tm.get [true,false,true]=some (cB bo 0 (Rc.eD (Rc.pZ (S.j+4) S.N)).length (cM 1 (S.j+4)))) (bC.mT (aCh (b:=bo) (L:=S.j+4) (vs:=Rc.pZ (S.j+4) S.N) hown.has (by rw [Rc.iK];exact Nat.le_refl _) (by omega) ⟨rfl,rfl,by rw [Rc.iK];simp [T.aB]⟩) ?_) ?_
 · rintro ex tm df H ⟨rfl,rest⟩;exact ⟨rfl,rest⟩
 rintro ex tm df H' ⟨⟨rfl,rfl,hH,t9⟩⟩
 rw [hH]
 simp only [↓aQ,A3,reduceCtorEq,t9]
 refine .ret ?_
 simp only [iO,↓aQ,A3,reduceCtorEq]
 rw [← htz]
 obtain ⟨k,hk⟩:=Rc.oQ (Rc.pZ (S.j+4) S.N)
 rw [← htz] at hk
 have htake:(dR (Rc.pZ (S.j+4) S.N)).take (Rc.enc (cU n) text).length=dR (Rc.enc (cU n) text):=by
  rw [Ec]
  have:=congrArg (List.take (Rc.enc (cU n) text).length) hk
  rw [List.take_left] at this
  rw [this]
 refine ⟨_,rfl,⟨by rw [eZ,Nat.mul_one],?_⟩,fun c hc=>?_,wY,fY⟩
 · by_cases h0:(Rc.enc (cU n) text).length=0
   · exact .inl ⟨h0,.inr ⟨bo,0,_,by rw [h0]⟩⟩
   · refine .inr ⟨bo,0,_,rfl,by omega,?_⟩
     have:=hown.has.take (Rc.enc (cU n) text).length
     rw [htake] at this
     exact this
 · have:=fB hc
   subst this
   exact ⟨by omega,hown.lt wY⟩
def aQ8 (call:Call):Prop:=∀ H n tv text,Wf H→n=1∨n=2→Sl 1 H tv text.length (dR text)→text.length≤1000→(∀ x∈text,x<256)→Yields (call 21 [A0 n,tv] H) (aJZ n text H)
theorem aS7 {P:Nat→Prop} {H:Hp} {ov:Value} {a:List Nat} (y:Nat) (wf:Wf H) (ho:Out 5 1 P H ov a.length (dR a)) (hl:a.length≤90000) (hP:∀ k,P k→H.base≤k) (hPn:∀ k,H.next≤k→P k):∃ v' H',mQ 5 1 ov (cB H.next 0 1 1) (H.new (aT [A1 y] 1 5 true))=.val v' H'∧Out 5 1 P H' v' (a++[y]).length (dR (a++[y]))∧Wf H'∧Fr P H H'∧H.next≤H'.next∧∀ c,c<H.next→¬ (0<a.length∧gY ov c)→H'.at c=H.at c:=by
 have hsl:Sl 1 (H.new (aT [A1 y] 1 5 true)) (cB H.next 0 1 1) 1 (dR [y]):=⟨rfl,.inr ⟨_,_,_,rfl,by omega,fS (vs:=[A1 y]) (n:=1) (e:=5) (cl:=true) (by rw [aM,if_pos rfl]) (Nat.le_refl _)⟩⟩
 have ho':Out 5 1 P (H.new (aT [A1 y] 1 5 true)) ov a.length (dR a):=ho.Py wf fun c _ _ hP hlt=>⟨hP,by rw [aM,if_neg (by omega)]⟩
 obtain ⟨v2,Z2,eb2,ho2,wf2,nx2,fr2,kv,hkv⟩:=vO (wf.new _) ho' hsl (jJ _) (by omega) (by omega) (fun k hk=>by rw [dX];exact hP k hk) (hPn _ (by rw [aF];omega))
 refine ⟨v2,Z2,eb2,by rw [List.length_append,lO];exact ho2,wf2,(Fr.new _:Fr P H _).trans fr2 fun k hk h=>ho'.fE h.1 h.2,by rw [nx2,aF];omega,fun c hc h=>?_⟩
 rw [fr2.at_ c (by rw [aF];omega) h,aM,if_neg (by omega)]
def NwR (xs:List Nat) (h:Hp) (r:Value) (H:Hp):Prop:=Out 5 1 (fun k=>h.next≤k) H r xs.length (dR xs)∧Wf H∧Fr (fun _=>False) h H
structure N9 (x w:Nat) (h:Hp) (k:Nat) (tm:T Value) (df:Df) (H:Hp):Prop where
 df:df=[]
 t0:tm.get []=some (A0 x)
 t6:tm.get [false,false]=some (.int .i64 (dn (w - k)))
 wf:Wf H
 fr:Fr (fun _=>False) h H
 wr:∃ a ov,a++be (w - k) x=be w x∧tm.get [true,false]=some ov∧Out 5 1 (fun k=>h.next≤k) H ov a.length (dR a)
theorem Zh {call:Call} {cd:cE} {h:Hp} {x w:Nat} (hw:Wf h) (hw0:0<w) (hw3:w≤3) (hx:x<16777216):Yields (dD Cf call cd [A0 x,A0 w] h) (NwR (be w x) h):=by
 have hwb:=hw.base
 obtain ⟨w',rfl⟩:∃ w',w=w'+1:=⟨w - 1,by omega⟩
 have s1:gP .i64 (.ofNat (w'+1)) (.ofNat 1)=some (.int .i64 (aR .i64 (.ofNat (w'+1 - 1)))):=jI _ (by omega)
 have s2:aR .i64 (.ofNat (w'+1 - 1))=.ofNat w':=bF (by omega)
 refine aP rfl ?_
 simp only [↓aQ,A3,reduceCtorEq,cN,cP,s1,s2]
 refine bC.lp (id:=0) (P:=N9 x (w'+1) h (w'+1)) ?_ ?_
 · refine cT (n:=w'+1) (by omega) (N9 x (w'+1) h) (fun k tm df H hk hI=>?_) (fun tm df H hI=>?_) ?_
   · obtain ⟨rfl,t0,t6,wf,fr,⟨a,ov,ha,t5,hout⟩⟩:=hI
     obtain ⟨i,hi⟩:∃ i,w'+1 - k=i+1:=⟨w' - k,by omega⟩
     rw [hi] at t6 ha
     have t6':tm.get [false,false]=some (A0 i):=t6
     have e1:uB (.ofNat i) (.ofNat 0)=false:=rfl
     have m1:iU .i64 (.ofNat 8) (.ofNat i)=some (A0 (8*i)):=by
      unfold iU
      rw [jC,show aNw (.ofNat 8) (.ofNat i)=.ofNat (8*i) from rfl,bF (by omega)]
     have h3:i=0∨i=1∨i=2:=by omega
     have sh:Jt .i64 (.ofNat x) (.ofNat (8*i))=some (A0 (x / 256 ^ i)):=by
      rcases h3 with rfl|rfl|rfl
      all_goals (show nU .i64 (aEV (.ofNat x) _)=_;rw [jC];rfl)
     have sb:gP .i64 (.ofNat i) (.ofNat 1)=some (.int .i64 (dn i)):=by
      rcases h3 with rfl|rfl|rfl<;>rfl
     have w8:aR .u8 (.ofNat (x / 256 ^ i))=.ofNat (x / 256 ^ i % 256):=nD _
     have hbe:be (i+1) x=x / 256 ^ i % 256::be i x:=rfl
     rw [hbe] at ha
     generalize hY:x / 256 ^ i % 256=y at *
     have ha':(a++[y])++be i x=be (w'+1) x:=by rw [← ha];simp
     have hal:a.length≤3:=by
      have e1:=congrArg List.length ha
      rw [List.length_append,List.length_cons,fD,fD] at e1
      omega
     have nx:=fr.next
     obtain ⟨v',H',ea,ho2,wf2,fr2,nx2,_⟩:=aS7 y wf hout (by omega) (fun k hk=>by rw [fr.base];omega) (fun k hk=>by omega)
     have q1:Nat.ble (0+1) 1=true:=rfl
     simp only [↓aQ,A3,reduceCtorEq,tV,t0,t5,t6',e1,m1,sh,w8,sb,Ea,gE,q1,ea]
     exact .go ⟨rfl,by simp [t0],by rw [show w'+1 - (k+1)=i by omega];simp [T.aB],wf2,fr.trans fr2 fun k hk h=>by omega,⟨_,v',by rw [show w'+1 - (k+1)=i by omega];exact ha',by simp,ho2⟩⟩
   · obtain ⟨rfl,t0,t6,wf,fr,⟨a,ov,ha,t5,hout⟩⟩:=hI
     have t6':tm.get [false,false]=some (.int .i64 (.negSucc 0)):=by rw [t6,Nat.sub_self];rfl
     have e1:uB (.negSucc 0) (.ofNat 0)=true:=rfl
     simp only [↓aQ,A3,reduceCtorEq,tV,t6',e1]
     exact .ex ⟨rfl,rfl,by simp [t0],by simp [t6],wf,fr,⟨a,ov,ha,by simp [t5],hout⟩⟩
   · exact ⟨rfl,by simp [cN],by simp;rfl,hw.new _,Fr.new _,⟨[],_,rfl,by simp<;>rfl,⟨rfl,rfl,.inl ⟨rfl,.inl ⟨_,rfl⟩⟩⟩⟩⟩
 rintro tm df H ⟨rfl,t0,t6,wf,fr,⟨a,ov,ha,t5,hout⟩⟩
 rw [Nat.sub_self] at ha
 have ha2:a=be (w'+1) x:=by rw [← ha];simp [be]
 subst ha2
 simp only [↓aQ,A3,reduceCtorEq,t5]
 refine .ret ?_
 simp only [↓aQ,A3,reduceCtorEq]
 exact ⟨hout,wf,fr⟩
def Qh (call:Call):Prop:=∀ H x w,Wf H→0<w→w≤3→x<16777216→Yields (call 22 [A0 x,A0 w] H) (NwR (be w x) H)
structure RS (v:Value) (l:List Nat) (h:Hp) (i:Nat) (tm:T Value) (df:Df) (H:Hp):Prop where
 df:df=[]
 hh:H=h
 t0:tm.get []=some v
 t5:tm.get [true,false]=some (A0 i)
 t3:tm.get [true,true]=some (A0 ((ad (l.take i)).1))
 t4:tm.get [false,true]=some (A0 ((ad (l.take i)).2))
theorem aLz {call:Call} {cd:cE} (hN:Qh call) {v:Value} {l:List Nat} {h:Hp} (hw:Wf h) (hv:Sl 1 h v l.length (dR l)) (hl:l.length≤100000) (hbyte:∀ x∈l,x<256):Yields (dD Tt call cd [v] h) (NwR (Ag l) h):=by
 have hlen:=hv.len
 refine aP rfl ?_
 simp only [↓aQ,A3,reduceCtorEq,dQ,hlen]
 refine bC.lp (id:=0) (P:=RS v l h l.length) ?_ ?_
 · refine cT (n:=l.length) (by omega) (RS v l h) (fun i tm df H hi hI=>?_) (fun tm df H hI=>?_) ?_
   · obtain ⟨rfl,rfl,t0,t5,t3,t4⟩:=hI
     obtain ⟨x,hx⟩:∃ x,l[i]?=some x:=⟨l[i],List.getElem?_eq_getElem hi⟩
     have hxb:=hbyte x (List.mem_of_getElem? hx)
     obtain ⟨b,o,c,rfl,hhas⟩:=hv.pos (by omega)
     obtain ⟨c1,m1,e1,cl1,ro1,hat1,hm1,hc1⟩:=hhas.get (iH hx)
     have q1:Nat.blt i l.length=true:=bU hi
     have q2:Nat.blt (o+i*1) m1=true:=bU (by omega)
     have q3:c1.get (path (o+i*1))=some (A1 x):=by rw [Nat.mul_one];exact hc1
     have hal:=aD6 (l.take i)
     have w1:aR .i64 (.ofNat (i+1))=.ofNat (i+1):=bF (by omega)
     have w2:aR .i64 (.ofNat x)=.ofNat x:=bF (by omega)
     have hs:ad (l.take (i+1))=ad1 (ad (l.take i)) x:=by rw [lI hx,Sw]
     generalize ad (l.take i)=s at *
     have w3:aR .i64 (.ofNat (s.1+x))=.ofNat (s.1+x):=bF (by omega)
     have hm:=Nat.mod_lt (s.1+x) (y:=65521) (by decide)
     have r1:iZ .i64 (.ofNat (s.1+x)) (.ofNat 65521)=some (A0 ((s.1+x) % 65521)):=lN _ (by omega)
     have w4:aR .i64 (.ofNat (s.2+(s.1+x) % 65521))=.ofNat (s.2+(s.1+x) % 65521):=bF (by omega)
     have r2:iZ .i64 (.ofNat (s.2+(s.1+x) % 65521)) (.ofNat 65521)=some (A0 ((s.2+(s.1+x) % 65521) % 65521)):=lN _ (by omega)
     unfold Cg
     simp only [↓aQ,A3,reduceCtorEq,t0,t5,t3,t4,q1,hat1,q2,q3,w1,w2,w3,r1,w4,r2]
     exact .go ⟨rfl,rfl,by simp [t0],by simp,by rw [hs];simp [T.aB,ad1],by rw [hs];simp [T.aB,ad1]⟩
   · obtain ⟨rfl,rfl,t0,t5,t3,t4⟩:=hI
     have e1:Nat.blt l.length l.length=false:=cI (Nat.le_refl _)
     unfold Cg
     simp only [↓aQ,A3,reduceCtorEq,t0,t5,hlen,e1]
     exact .ex ⟨rfl,rfl,rfl,by simp [t0],by simp [t5],by simp [t3],by simp [t4]⟩
   · exact ⟨rfl,rfl,by simp [dQ],by simp,by simp [ad],by simp [ad]⟩
 rintro tm df H ⟨rfl,rfl,t0,t5,t3,t4⟩
 rw [List.take_length] at t3 t4
 have hal:=aD6 l
 have hwb:=hw.base
 obtain ⟨r1,H1,e1,o1,w1,f1⟩:=(hN H (ad l).2 2 hw (by decide) (by decide) (by omega)).get
 obtain ⟨r2,H2,e2,o2,w2,f2⟩:=(hN H1 (ad l).1 2 w1 (by decide) (by decide) (by omega)).get
 have n1:=f1.next
 have o1':Out 5 1 (fun k=>H.next≤k) H2 r1 (be 2 (ad l).2).length (dR (be 2 (ad l).2)):=o1.Py w1 fun c _ _ hP hlt=>⟨hP,f2.at_ c hlt fun h=>h⟩
 obtain ⟨v',H3,ea,o3,w3,n3,f3,_⟩:=zW (e:=5) w2 o1' o2.sl (jJ _) (by simp only [fD];omega) (fun k hk=>by rw [f2.base,f1.base];omega) (by have:=f2.next;omega)
 rw [← lO,← List.length_append] at o3
 have hsum:be 2 (ad l).2++be 2 (ad l).1=Ag l:=by unfold Ag;rw [Ts]
 rw [hsum] at o3
 simp only [↓aQ,A3,reduceCtorEq,t3,t4,e1,e2,gE,ea]
 refine .ret ?_
 simp only [↓aQ,A3,reduceCtorEq]
 exact ⟨o3,w3,(f1.trans (P:=fun _=>False) f2 fun _ _ h=>h).trans (P:=fun _=>False) f3 fun k hk h=>by have:=o1.fE h.1 h.2;omega⟩
def aQ9 (call:Call):Prop:=∀ H v l,Wf H→Sl 1 H v l.length (dR l)→l.length≤100000→(∀ x∈l,x<256)→Yields (call 23 [v] H) (NwR (Ag l) H)
structure Ls (lo b7:Nat) (R:Option dY) (v4 v5:Value) (l4 l5:List Nat) (h H:Hp):Prop where
 wf:Wf H
 fr:Fr (fun _=>False) h H
 sC:h.next≤lo
 tR:lo≤H.next
 o4:Out 5 1 (fun k=>lo≤k) H v4 l4.length (dR l4)
 o5:Out 5 1 (fun k=>lo≤k) H v5 l5.length (dR l5)
 dis:∀ c,WB v4 l4 c→¬ WB v5 l5 c
 lb:b7<H.next
 row:H.at b7=R
 n4:∀ c,WB v4 l4 c→c≠b7
 n5:∀ c,WB v5 l5 c→c≠b7
theorem Ls.frame {lo b7:Nat} {R:Option dY} {v4 v5:Value} {l4 l5:List Nat} {h H H':Hp} (hp:Ls lo b7 R v4 v5 l4 l5 h H) (w:Wf H') (f:Fr (fun _=>False) H H'):Ls lo b7 R v4 v5 l4 l5 h H' :=
 ⟨w,hp.fr.trans f fun _ _ h=>h,hp.sC,Nat.le_trans hp.tR f.next,hp.o4.Py hp.wf fun c _ _ hP hlt=>⟨hP,f.at_ c hlt fun h=>h⟩,hp.o5.Py hp.wf fun c _ _ hP hlt=>⟨hP,f.at_ c hlt fun h=>h⟩,hp.dis,Nat.lt_of_lt_of_le hp.lb f.next,by rw [f.at_ _ hp.lb fun h=>h];exact hp.row,hp.n4,hp.n5⟩
theorem Ls.aGm {lo b7:Nat} {R:Option dY} {v4 v5 y:Value} {l4 l5 new:List Nat} {h H:Hp} (hb:h.base≤h.next) (hp:Ls lo b7 R v4 v5 l4 l5 h H) (hy:Sl 1 H y new.length (dR new)) (hl:l4.length+new.length≤100000):∃ v' H',mQ 5 1 v4 y H=.val v' H'∧Ls lo b7 R v' v5 (l4++new) l5 h H':=by
 obtain ⟨wf,fr,sC,tR,o4,o5,dis,hb7,row,n4,n5⟩:=hp
 have hbb:=fr.base
 obtain ⟨v',H',ea,ho,w2,nx,f2,hb2,_⟩:=zW (e:=5) wf o4 hy (jJ _) hl (fun k hk=>by omega) tR
 rw [← lO,← List.length_append] at ho
 have hnew:∀ c,WB v' (l4++new) c→WB v4 l4 c∨H.next≤c:=fun c hc=>hb2 c (by have:=hc.1;rw [List.length_append] at this;exact this) hc.2
 refine ⟨v',H',ea,w2,fr.trans f2 fun k hk h=>by have:=o4.fE h.1 h.2;omega,sC,by omega,ho,o5.Py wf fun c h1 h2 hP hlt=>⟨hP,f2.at_ c hlt fun h=>dis c h ⟨h1,h2⟩⟩,fun c hc h5=>?_,by omega,by rw [f2.at_ _ hb7 fun h=>n4 _ h rfl];exact row,fun c hc=>?_,n5⟩
 · rcases hnew c hc with h1|h1
   · exact dis c h1 h5
   · have:=o5.sl.lt wf h5.1 h5.2;omega
 · rcases hnew c hc with h1|h1
   · exact n4 c h1
   · omega
theorem Ls.aPf {lo b7:Nat} {R:Option dY} {v4 v5 y:Value} {l4 l5 new:List Nat} {h H:Hp} (hb:h.base≤h.next) (hp:Ls lo b7 R v4 v5 l4 l5 h H) (hy:Sl 1 H y new.length (dR new)) (hl:l5.length+new.length≤100000):∃ v' H',mQ 5 1 v5 y H=.val v' H'∧Ls lo b7 R v4 v' l4 (l5++new) h H':=by
 obtain ⟨wf,fr,sC,tR,o4,o5,dis,hb7,row,n4,n5⟩:=hp
 obtain ⟨v',H',ea,q⟩:=Ls.aGm hb ⟨wf,fr,sC,tR,o5,o4,fun c h1 h2=>dis c h2 h1,hb7,row,n5,n4⟩ hy hl
 obtain ⟨wf,fr,sC,tR,o4,o5,dis,hb7,row,n4,n5⟩:=q
 exact ⟨v',H',ea,wf,fr,sC,tR,o5,o4,fun c h1 h2=>dis c h2 h1,hb7,row,n5,n4⟩
theorem Ls.byte {lo b7:Nat} {R:Option dY} {v4 v5:Value} {l4 l5:List Nat} {h H:Hp} (y:Nat) (hb:h.base≤h.next) (hp:Ls lo b7 R v4 v5 l4 l5 h H) (hl:l4.length+1≤100000):∃ v' H',mQ 5 1 v4 (cB H.next 0 1 1) (H.new (aT [A1 y] 1 5 true))=.val v' H'∧Ls lo b7 R v' v5 (l4++[y]) l5 h H' :=
 (hp.frame (hp.wf.new _) (Fr.new _)).aGm hb (new:=[y]) ⟨rfl,.inr ⟨_,_,_,rfl,by show 0<1;omega,fS (vs:=[A1 y]) (n:=1) (e:=5) (cl:=true) (by rw [aM,if_pos rfl]) (Nat.le_refl _)⟩⟩ hl
theorem Ls.num {call:Call} (hN:Qh call) {lo b7 w x:Nat} {R:Option dY} {v4 v5:Value} {l4 l5:List Nat} {h H:Hp} (hb:h.base≤h.next) (hp:Ls lo b7 R v4 v5 l4 l5 h H) (hl:l4.length+3≤100000) (hw0:0<w) (hw3:w≤3) (hx:x<16777216):∃ r H1 v' H',call 22 [A0 x,A0 w] H=.val r H1∧H1.at b7=R∧mQ 5 1 v4 r H1=.val v' H'∧Ls lo b7 R v' v5 (l4++be w x) l5 h H':=by
 obtain ⟨r,H1,e,o,w1,f1⟩:=(hN H x w hp.wf hw0 hw3 hx).get
 have p1:=hp.frame w1 f1
 obtain ⟨v',H',ea,p2⟩:=p1.aGm hb (new:=be w x) o.sl (by rw [fD];omega)
 exact ⟨r,H1,v',H',e,p1.row,ea,p2⟩
theorem be1 {x:Nat} (h:x<256):be 1 x=[x]:=by
 show [x / 256 ^ 0 % 256]=[x]
 rw [Nat.pow_zero,Nat.div_one,Nat.mod_eq_of_lt h]
structure RlS (b1:Nat) (ops:List eJ) (h:Hp) (i:Nat) (tm:T Value) (df:Df) (H:Hp):Prop where
 df:df=[]
 t1:tm.get [true]=some (bE b1 0)
 t6:tm.get [false,false]=some (A0 i)
 wf:Wf H
 fr:Fr (fun _=>False) h H
 st:∃ v4 v5,tm.get [false,true]=some v4∧tm.get [true,false]=some v5∧Out 5 1 (fun k=>h.next≤k) H v4 (dB (ops.take i)).length (dR (dB (ops.take i)))∧Out 5 1 (fun k=>h.next≤k) H v5 (dF (ops.take i)).length (dR (dF (ops.take i)))∧∀ c,WB v4 (dB (ops.take i)) c→¬ WB v5 (dF (ops.take i)) c
def aRa (ops:List eJ) (h:Hp) (r:Value) (H:Hp):Prop:=∃ v4 v5,r=.tuple ⟨[v4,v5]⟩∧Sl 1 H v4 (dB ops).length (dR (dB ops))∧Sl 1 H v5 (dF ops).length (dR (dF ops))∧Wf H∧Fr (fun _=>False) h H
theorem aGn {call:Call} {cd:cE} (hN:Qh call) {h:Hp} {n m:Nat} {ops:List eJ} {ov:Value} {P:Nat→Prop} (hw:Wf h) (hp:kF.Ok n m ops) (ho:gD h ov ops P) :
 Yields (dD Np call cd [.agg ⟨cQ false n m ov⟩] h) (aRa ops h):=by
 have hwb:=hw.base
 have hnum:=hp.num
 have hmm:=hp.m
 obtain ⟨K,hK⟩:∃ K,((h.new (aT (cQ false n m ov) 4 30 true)).new (aT [] 0 5 true)).new (aT [] 0 5 true)=K:=⟨_,rfl⟩
 have wK:Wf K:=by rw [← hK];exact ((hw.new _).new _).new _
 have fK:Fr (fun _=>False) h K:=by rw [← hK];exact ((Fr.new _).dE _).dE _
 have nK:K.next=h.next+3:=by rw [← hK];rfl
 have hKb:K.base≤K.next:=wK.base
 have a1:K.at h.next=some (aT (cQ false n m ov) 4 30 true):=by rw [← hK,aM,aF,aF,if_neg (by omega),aM,aF,if_neg (by omega),aM,if_pos rfl]
 have hoK:=ho.eH hw fK
 refine aP rfl ?_
 unfold cQ at hK a1
 simp only [↓aQ,NW,reduceCtorEq,cQ,dQ,gM,Sb,hK]
 refine bC.lp (id:=0) (P:=RlS h.next ops K ops.length) ?_ ?_
 · refine cT (n:=ops.length) (by omega) (RlS h.next ops K) (fun i tm df H hi hI=>?_) (fun tm df H hI=>?_) ?_
   · obtain ⟨rfl,t1,t6,wf,fr,⟨v4,v5,t4,t5,o4,o5,dis⟩⟩:=hI
     obtain ⟨x,hx⟩:∃ x,ops[i]?=some x:=⟨ops[i],List.getElem?_eq_getElem hi⟩
     have hrt:=hp.rt x (List.mem_of_getElem? hx)
     have hok:=hrt.ok
     obtain ⟨b,o,c,cc,mm,e,cl,ro,xv,rfl,hat0,hmm',hld,hxv⟩:=hoK.at_ hx
     have hat:H.at b=some (.row cc mm e cl ro):=by rw [fr.at_ b (wK.lt hat0) fun h=>h];exact hat0
     have hxvH:=hxv.gV (Q:=fun _=>False) wK fr (fun _ h=>h.elim)
     have nx:=fr.next
     have a1H:H.at h.next=some (aT [Value.bool false,A0 n,A0 m,cB b o ops.length c] 4 30 true):=by rw [fr.at_ _ (by omega) fun h=>h];exact a1
     have hcl:=qT (ops.take i)
     have htl:(ops.take i).length=i:=by rw [List.length_take];omega
     have hdl:=qU (ops.take i) fun y hy=>hp.rt y (List.mem_of_mem_take hy)
     have hdl2:=zT hx
     have hout':=hp.out
     have e1:Nat.blt i ops.length=true:=bU hi
     have e2:Nat.ble (o+i*5+5) mm=true:=cX hmm'
     have e3:=s6 (k:=x.kind) (f:=x.from_) (l:=x.len) (b:=x.b) hxv
     have w1:aR .i64 (.ofNat (i+1))=.ofNat (i+1):=bF (by omega)
     have w2:aR .u8 (.ofNat x.kind)=.ofNat x.kind:=w8 (by rcases hrt.k with h|h|h|h<;>omega)
     obtain ⟨X,hX,wX,fX,aX,nX⟩:=eP wf M3 (fW x.kind x.from_ x.len x.b xv) 5 68
     have p0:Ls K.next H.next (some (.row (aL (fW x.kind x.from_ x.len x.b xv) 0 (aL M3 0 .nil fun t=>t) fun t=>t) 5 68 true false)) v4 v5 (dB (ops.take i)) (dF (ops.take i)) K X:=⟨wX,fr.trans fX fun _ _ h=>h,Nat.le_refl _,by omega,o4.Py wf fun c _ _ hP hlt=>⟨hP,fX.at_ c hlt fun h=>h⟩,o5.Py wf fun c _ _ hP hlt=>⟨hP,fX.at_ c hlt fun h=>h⟩,dis,by omega,aX,fun c hc=>by have:=o4.sl.lt wf hc.1 hc.2;omega,fun c hc=>by have:=o5.sl.lt wf hc.1 hc.2;omega⟩
     obtain ⟨u2,H2,ea2,p2⟩:=p0.byte x.kind hKb (by omega)
     have a2:=p2.row
     have xvK:∀ {H':Hp} {u v:Value} {l k:List Nat} {R:Option dY},Ls K.next H.next R u v l k K H'→Sl 1 H' xv x.data.length (dR x.data):=fun q=>hxv.gV (Q:=fun _=>False) wK q.fr (fun _ h=>h.elim)
     rw [nX] at ea2
     have l2:(dB (ops.take i)++[x.kind]).length≤1000:=by rw [List.length_append,List.length_singleton];omega
     have fin:∀ (u v:Value) (code:List Nat) (Y:Hp) (tm':T Value),Ls K.next H.next (some (.row (aL (fW x.kind x.from_ x.len x.b xv) 0 (aL M3 0 .nil fun t=>t) fun t=>t) 5 68 true false)) u v (dB (ops.take i)++code) (dF (ops.take i)++x.data) K Y→code=x.code→tm'.get [true]=some (bE h.next 0)→tm'.get [false,false]=some (A0 (i+1))→tm'.get [false,true]=some u→tm'.get [true,false]=some v→RlS h.next ops K (i+1) tm' [] Y:=by
      intro u v code Y tm' q hc q1 q6 q4 q5
      have ec:dB (ops.take (i+1))=dB (ops.take i)++code:=by rw [qC hx,Bm,hc]
      have ed:dF (ops.take (i+1))=dF (ops.take i)++x.data:=by rw [qC hx,Bn]
      exact ⟨rfl,q1,q6,q.wf,q.fr,u,v,q4,q5,by rw [ec];exact q.o4,by rw [ed];exact q.o5,by rw [ec,ed];exact q.dis⟩
     have hd0:=hok.d
     unfold fW at hld e3 hX aX a2
     rcases hrt.k with hk|hk|hk|hk
     · obtain ⟨r3,G3,u3,H3,e3',g3,ea3,p3⟩:=p2.num hN hKb (w:=3) (by omega) (by omega) (by omega) hok.f
       obtain ⟨r4,G4,u4,H4,e4',g4,ea4,p4⟩:=p3.num hN hKb (w:=3) (by rw [List.length_append,fD];omega) (by omega) (by omega) hok.l
       have a3:=p3.row
       have a4:=p4.row
       obtain ⟨u5,H5,ea5,p5⟩:=p4.aPf hKb (xvK p4) (by omega)
       rw [List.append_assoc,List.append_assoc] at p5
       have hcode:[x.kind]++(be 3 x.from_++be 3 x.len)=x.code:=by unfold eJ.code;rw [if_neg (by omega),if_neg (by omega),be1 (by omega)]
       have n3:Nat.beq 1 3=false:=rfl
       have n1:Nat.beq 1 1=true:=rfl
       unfold fW at a3 a4
       rw [hk] at hld e3 hX aX a2 a3 a4 w2 ea2
       unfold mN
       simp only [↓aQ,NV,reduceCtorEq,pQ,oS,t1,t4,t5,t6,a1H,e1,e2,e3,w1,w2,n1,n3,hat,hld,hX,aX,nX,gE,ea2,a2,e3',ea3,a3,e4',ea4,a4,ea5]
       exact .go (fin _ _ _ _ _ p5 hcode (by simp [t1]) (by simp) (by simp) (by simp))
     · obtain ⟨r3,G3,u3,H3,e3',g3,ea3,p3⟩:=p2.num hN hKb (w:=3) (by omega) (by omega) (by omega) hok.f
       obtain ⟨r4,G4,u4,H4,e4',g4,ea4,p4⟩:=p3.num hN hKb (w:=3) (by rw [List.length_append,fD];omega) (by omega) (by omega) hok.l
       have a3:=p3.row
       have a4:=p4.row
       obtain ⟨u5,H5,ea5,p5⟩:=p4.aPf hKb (xvK p4) (by omega)
       rw [List.append_assoc,List.append_assoc] at p5
       have hcode:[x.kind]++(be 3 x.from_++be 3 x.len)=x.code:=by unfold eJ.code;rw [if_neg (by omega),if_neg (by omega),be1 (by omega)]
       have n3:Nat.beq 2 3=false:=rfl
       have n1:Nat.beq 2 1=false:=rfl
       have n2:Nat.beq 2 2=true:=rfl
       unfold fW at a3 a4
       rw [hk] at hld e3 hX aX a2 a3 a4 w2 ea2
       unfold mN
       simp only [↓aQ,NV,reduceCtorEq,pQ,oS,t1,t4,t5,t6,a1H,e1,e2,e3,w1,w2,n1,n2,n3,hat,hld,hX,aX,nX,gE,ea2,a2,e3',ea3,a3,e4',ea4,a4,ea5]
       exact .go (fin _ _ _ _ _ p5 hcode (by simp [t1]) (by simp) (by simp) (by simp))
     · obtain ⟨r3,G3,u3,H3,e3',g3,ea3,p3⟩:=p2.num hN hKb (w:=3) (by omega) (by omega) (by omega) hok.l
       have a3:=p3.row
       obtain ⟨u4,H4,ea4,p4⟩:=p3.byte x.b hKb (by rw [List.length_append,fD];omega)
       have a4:=p4.row
       obtain ⟨u5,H5,ea5,p5⟩:=p4.aPf hKb (xvK p4) (by omega)
       rw [List.append_assoc,List.append_assoc] at p5
       have hcode:[x.kind]++(be 3 x.len++[x.b])=x.code:=by unfold eJ.code;rw [if_pos hk,be1 (by omega),be1 hok.b]
       have n1:Nat.beq 3 1=false:=rfl
       have n2:Nat.beq 3 2=false:=rfl
       have n3:Nat.beq 3 3=true:=rfl
       have q1:Nat.ble (0+1) 1=true:=rfl
       unfold fW at a3 a4
       rw [hk] at hld e3 hX aX a2 a3 a4 w2 ea2
       unfold mN
       simp only [↓aQ,NV,reduceCtorEq,pQ,oS,t1,t4,t5,t6,a1H,e1,e2,e3,w1,w2,n1,n2,n3,q1,hat,hld,hX,aX,nX,gE,ea2,a2,e3',ea3,a3,ea4,a4,ea5]
       exact .go (fin _ _ _ _ _ p5 hcode (by simp [t1]) (by simp) (by simp) (by simp))
     · obtain ⟨r3,G3,u3,H3,e3',g3,ea3,p3⟩:=p2.num hN hKb (w:=3) (by omega) (by omega) (by omega) hok.l
       have a3:=p3.row
       obtain ⟨u5,H5,ea5,p5⟩:=p3.aPf hKb (xvK p3) (by omega)
       rw [List.append_assoc] at p5
       have hcode:[x.kind]++be 3 x.len=x.code:=by unfold eJ.code;rw [if_neg (by omega),if_pos hk,be1 (by omega)]
       have n1:Nat.beq 4 1=false:=rfl
       have n2:Nat.beq 4 2=false:=rfl
       have n3:Nat.beq 4 3=false:=rfl
       unfold fW at a3
       rw [hk] at hld e3 hX aX a2 a3 w2 ea2
       unfold mN
       simp only [↓aQ,NV,reduceCtorEq,pQ,oS,t1,t4,t5,t6,a1H,e1,e2,e3,w1,w2,n1,n2,n3,hat,hld,hX,aX,nX,gE,ea2,a2,e3',ea3,a3,ea5]
       exact .go (fin _ _ _ _ _ p5 hcode (by simp [t1]) (by simp) (by simp) (by simp))
   · obtain ⟨rfl,t1,t6,wf,fr,⟨v4,v5,t4,t5,o4,o5,dis⟩⟩:=hI
     have a1H:H.at h.next=some (aT [Value.bool false,A0 n,A0 m,ov] 4 30 true):=by rw [fr.at_ _ (by omega) fun h=>h];exact a1
     have hl:=gD.len hoK
     have e1:Nat.blt ops.length ops.length=false:=cI (Nat.le_refl _)
     unfold mN
     simp only [↓aQ,NV,reduceCtorEq,pQ,t1,t6,a1H,hl,e1]
     exact .ex ⟨rfl,rfl,by simp [t1],by simp [t6],wf,fr,⟨v4,v5,by simp [t4],by simp [t5],o4,o5,dis⟩⟩
   · exact ⟨rfl,by simp,by simp,wK,Fr.refl _ _,⟨_,_,by simp<;>rfl,by simp<;>rfl,⟨rfl,rfl,.inl ⟨rfl,.inl ⟨_,rfl⟩⟩⟩,⟨rfl,rfl,.inl ⟨rfl,.inl ⟨_,rfl⟩⟩⟩,fun c hc=>absurd hc.1 (Nat.lt_irrefl _)⟩⟩
 rintro tm df H ⟨rfl,t1,t6,wf,fr,⟨v4,v5,t4,t5,o4,o5,dis⟩⟩
 rw [List.take_length] at o4 o5
 simp only [↓aQ,NV,reduceCtorEq,t4,t5]
 refine .ret ?_
 simp only [↓aQ,NV,reduceCtorEq,iO]
 exact ⟨v4,v5,rfl,o4.sl,o5.sl,wf,fK.trans fr fun _ _ h=>h⟩
def aLA (call:Call):Prop:=∀ h n m ops ov P,Wf h→kF.Ok n m ops→gD h ov ops P→Yields (call 20 [.agg ⟨cQ false n m ov⟩] h) (aRa ops h)
theorem aPg {call:Call} {cd:cE} {h:Hp} (a b c:Int):dD aB9 call cd [.int .i64 a,.int .i64 b,.int .i64 c] h=.val (.bool (!uB a b && !uB c a)) h:=by
 refine EqR.get ?_
 refine aP rfl ?_
 cases h1:uB a b<;>cases h2:uB c a <;>
 · simp only [↓aQ,NW,reduceCtorEq,m0,m8,pW,h1,h2]
   refine .ret ?_
   simp only [↓aQ,NW,reduceCtorEq]
   exact ⟨rfl,rfl⟩
def aS9 (call:Call):Prop:=∀ H a b c,call 73 [.int .i64 a,.int .i64 b,.int .i64 c] H=.val (.bool (!uB a b && !uB c a)) H
theorem Ev {a b c:Nat} (h1:b≤a) (h2:a≤c):(!uB (.ofNat a) (.ofNat b) && !uB (.ofNat c) (.ofNat a))=true:=by
 rw [Rz,Rz,cI h1,cI h2];rfl
theorem aGo {c:T Value} {o n:Nat} {l:List Value} (h:cR c o n []=some l) (k:Nat) {v:Value} (hk:l[k]?=some v):c.get (path (o+k))=some v:=by
 obtain ⟨h1,h2⟩:=Kk c o n [] l h
 have hlt:=(List.getElem?_eq_some_iff.1 hk).1
 obtain ⟨w,h3,h4⟩:=h2.1 k (by simp at h1;omega)
 rw [h3]
 rw [h4] at hk
 exact hk
theorem Tx {call:Call} {cd:cE} (hI:aS9 call) {h:Hp} {o:eJ} {size:Nat} {dv:Value} (hrt:o.Rt size) (hs:size<1000000) (hl2:o.len≤1000) (hd:tT dv o.data.length) :
 Yields (dD zC call cd [.agg ⟨fW o.kind o.from_ o.len o.b dv⟩,A0 size] h) (QR (.bool true) h):=by
 have hok:=hrt.ok
 have hpos:=hrt.pos
 have e1:∀ H,call 73 [A0 o.len,A0 1,A0 65536] H=.val (.bool true) H:=fun H=>by rw [hI,Ev (by omega) (by omega)]
 unfold tT at hd
 have n0:Nat.beq 0 0=true:=rfl
 obtain ⟨kind,from_,len,b,data⟩:=o
 have hk:=hok.kind
 have hins:=hrt.ins
 simp only at hk hins hd e1 hpos hl2
 unfold fW
 simp only
 have hsub:∃ z,gP .i64 (.ofNat size) (.ofNat len)=some (.int .i64 z):=⟨_,jC _ _⟩
 obtain ⟨z,hz⟩:=hsub
 rcases hk with ⟨rfl,rfl,rfl⟩|⟨rfl,rfl,hdl⟩|⟨rfl,rfl,rfl⟩|⟨rfl,rfl,rfl,hdl⟩
 · have hle:=hins (by omega)
   have s1:gP .i64 (.ofNat size) (.ofNat len)=some (.int .i64 (aR .i64 (.ofNat (size - len)))):=jI _ (by omega)
   have s2:aR .i64 (.ofNat (size - len))=.ofNat (size - len):=bF (by omega)
   have e2:∀ H,call 73 [A0 from_,A0 0,A0 (size - len)] H=.val (.bool true) H:=fun H=>by rw [hI,Ev (by omega) (by omega)]
   have k1:Nat.beq 1 1=true:=rfl
   have hd':rW dv (fun _ _ l _=>some (A0 l)) (fun l _=>some (A0 l)) none=some (A0 0):=hd
   refine aP rfl ?_
   simp only [↓aQ,NV,reduceCtorEq,oS,cN,cP,e1,s1,s2,e2,k1,n0,hd']
   refine .ret ?_
   simp only [↓aQ,NV,reduceCtorEq]
   exact ⟨rfl,rfl⟩
 · have hle:=hins (by omega)
   have s1:gP .i64 (.ofNat size) (.ofNat len)=some (.int .i64 (aR .i64 (.ofNat (size - len)))):=jI _ (by omega)
   have s2:aR .i64 (.ofNat (size - len))=.ofNat (size - len):=bF (by omega)
   have e2:∀ H,call 73 [A0 from_,A0 0,A0 (size - len)] H=.val (.bool true) H:=fun H=>by rw [hI,Ev (by omega) (by omega)]
   have k1:Nat.beq 2 1=false:=rfl
   have k2:Nat.beq 2 2=true:=rfl
   have k4:Nat.beq len len=true:=Nat.beq_refl _
   rw [hdl] at hd
   refine aP rfl ?_
   simp only [↓aQ,NV,reduceCtorEq,oS,cN,cP,e1,s1,s2,e2,k1,k2,k4,n0,hd]
   refine .ret ?_
   simp only [↓aQ,NV,reduceCtorEq]
   exact ⟨rfl,rfl⟩
 · have k1:Nat.beq 3 1=false:=rfl
   have k2:Nat.beq 3 2=false:=rfl
   have k3:Nat.beq 3 3=true:=rfl
   have e2:=fun H=>hI H (.ofNat 0) (.ofNat 0) z
   have hd':rW dv (fun _ _ l _=>some (A0 l)) (fun l _=>some (A0 l)) none=some (A0 0):=hd
   refine aP rfl ?_
   simp only [↓aQ,NV,reduceCtorEq,oS,cN,cP,e1,hz,e2,k1,k2,k3,n0,hd']
   refine .ret ?_
   simp only [↓aQ,NV,reduceCtorEq]
   exact ⟨rfl,rfl⟩
 · have k1:Nat.beq 4 1=false:=rfl
   have k2:Nat.beq 4 2=false:=rfl
   have k3:Nat.beq 4 3=false:=rfl
   have k4:Nat.beq 4 4=true:=rfl
   have k5:Nat.beq len len=true:=Nat.beq_refl _
   have e2:=fun H=>hI H (.ofNat 0) (.ofNat 0) z
   rw [hdl] at hd
   refine aP rfl ?_
   simp only [↓aQ,NV,reduceCtorEq,oS,cN,cP,e1,hz,e2,k1,k2,k3,k4,k5,n0,hd]
   refine .ret ?_
   simp only [↓aQ,NV,reduceCtorEq]
   exact ⟨rfl,rfl⟩
def Qi (call:Call):Prop:=∀ H o size dv,eJ.Rt o size→size<1000000→o.len≤1000→tT dv o.data.length→call 74 [.agg ⟨fW o.kind o.from_ o.len o.b dv⟩,A0 size] H=.val (.bool true) H
structure RcS (h1:Hp) (b1:Nat) (ops:List eJ) (i:Nat) (tm:T Value) (df:Df) (H:Hp):Prop where
 df:df=[]
 hh:H=h1
 t1:tm.get [true]=some (bE b1 0)
 t4:tm.get [false,true]=some (A0 (iS (ops.take i)))
 t5:tm.get [true,false]=some (A0 i)
theorem aCj {call:Call} {cd:cE} {h:Hp} {n m:Nat} {ops:List eJ} {ov:Value} {P:Nat→Prop} (hw:Wf h) (hI:aS9 call) (hR:Qi call) (hp:kF.Ok n m ops) (ho:gD h ov ops P) :
 Yields (dD Hc call cd [.agg ⟨cQ false n m ov⟩] h) (QR (.tuple ⟨[A0 ops.length,A0 0]⟩) h):=by
 have hl:=gD.len ho
 have hnum:=hp.num
 have hn:=hp.n
 have hm:=hp.m
 have hout:=hp.out
 have i1:∀ H,call 73 [A0 n,A0 0,A0 65536] H=.val (.bool true) H:=fun H=>by rw [hI,Ev (by omega) (by omega)]
 have i2:∀ H,call 73 [A0 m,A0 0,A0 65536] H=.val (.bool true) H:=fun H=>by rw [hI,Ev (by omega) (by omega)]
 have q3:Nat.blt 4096 ops.length=false:=cI (by omega)
 refine aP rfl ?_
 simp only [↓aQ,NV,reduceCtorEq,pQ,cQ,dQ,gM,i1,i2,q3,hl]
 have a1:(h.new (aT [.bool false,A0 n,A0 m,ov] 4 30 true)).at h.next=some (aT [.bool false,A0 n,A0 m,ov] 4 30 true):=by rw [aM,if_pos rfl]
 have hlog:(h.new (aT [.bool false,A0 n,A0 m,ov] 4 30 true)).log=h.log:=rfl
 have ho1:=ho.eH hw (Fr.new (P:=fun _=>False) (aT [.bool false,A0 n,A0 m,ov] 4 30 true))
 generalize (h.new (aT [.bool false,A0 n,A0 m,ov] 4 30 true))=h1 at *
 refine bC.lp (id:=0) (P:=RcS h1 h.next ops ops.length) ?_ ?_
 · refine cT (n:=ops.length) (by omega) (RcS h1 h.next ops) (fun i tm df H hi hI=>?_) (fun tm df H hI=>?_) ?_
   · obtain ⟨rfl,rfl,t1,t4,t5⟩:=hI
     obtain ⟨x,hx⟩:∃ x,ops[i]?=some x:=⟨ops[i],List.getElem?_eq_getElem hi⟩
     have hrt:=hp.rt x (List.mem_of_getElem? hx)
     obtain ⟨b,o,c,cc,mm,e,cl,ro,dv,rfl,hat,hmm,hld,hdv⟩:=ho1.at_ hx
     have e1:Nat.blt i ops.length=true:=bU hi
     have e2:Nat.ble (o+i*5+5) mm=true:=cX hmm
     have hle:=zT hx
     have hr:=fun H=>hR H x n dv hrt (by omega) (by omega) hdv.aVA
     have g2:Nat.blt (o+i*5+2) mm=true:=bU (by omega)
     have g3:cc.get (path (o+i*5+2))=some (A0 x.len):=aGo hld 2 rfl
     have w1:aR .i64 (.ofNat (i+1))=.ofNat (i+1):=bF (by omega)
     have htk:iS (ops.take (i+1))=iS (ops.take i)+x.len:=by rw [qC hx,uP]
     have w2:aR .i64 (.ofNat (iS (ops.take i)+x.len))=.ofNat (iS (ops.take i)+x.len):=bF (by omega)
     have g4:Nat.blt m (iS (ops.take i)+x.len)=false:=cI (by omega)
     unfold fW at hld hr
     unfold wW
     simp only [↓aQ,NV,reduceCtorEq,pQ,oS,sW,aIQ,aIR,t1,t4,t5,a1,e1,e2,hat,hld,hr,g2,g3,w1,w2,g4,hl]
     exact .go ⟨rfl,rfl,by simp [t1],by rw [htk];simp [T.aB],by simp⟩
   · obtain ⟨rfl,rfl,t1,t4,t5⟩:=hI
     have e1:Nat.blt ops.length ops.length=false:=cI (Nat.le_refl _)
     unfold wW
     simp only [↓aQ,NV,reduceCtorEq,pQ,t1,t5,a1,hl,e1]
     exact .ex ⟨rfl,rfl,rfl,by simp [t1],by simp [t4],by simp [t5]⟩
   · exact ⟨rfl,rfl,by simp,by simp [Xu],by simp⟩
 rintro tm df H ⟨rfl,rfl,t1,t4,t5⟩
 rw [List.take_length,hp.out] at t4
 have e0:Nat.beq m m=true:=Nat.beq_refl _
 simp only [↓aQ,NV,reduceCtorEq,pQ,t1,t4,e0,a1,hl]
 refine .ret ?_
 simp only [↓aQ,NV,reduceCtorEq,iO]
 exact ⟨rfl,hlog⟩
def aEz (call:Call):Prop:=∀ H n m ops ov P,Wf H→kF.Ok n m ops→gD H ov ops P→call 39 [.agg ⟨cQ false n m ov⟩] H=.val (.tuple ⟨[A0 ops.length,A0 0]⟩) H
theorem aCk {call:Call} {cd:cE} (hC:aEz call) {h:Hp} {n m:Nat} {ops:List eJ} {ov:Value} {P:Nat→Prop} (hw:Wf h) (hp:kF.Ok n m ops) (ho:gD h ov ops P) :
 Yields (dD Hb call cd [.agg ⟨cQ false n m ov⟩] h) (QR (.bool true) h):=by
 have e1:=hC (h.new (aT (cQ false n m ov) 4 30 true)) n m ops ov P (hw.new _) hp (ho.eH hw (Fr.new _))
 have n0:Nat.beq 0 0=true:=rfl
 unfold cQ at e1
 refine aP rfl ?_
 simp only [↓aQ,NV,reduceCtorEq,pQ,cQ,dQ,gM,e1,iX,nW,oD,n0]
 refine .ret ?_
 simp only [↓aQ,NV,reduceCtorEq]
 exact ⟨rfl,rfl⟩
def aEA (call:Call):Prop:=∀ H n m ops ov P,Wf H→kF.Ok n m ops→gD H ov ops P→call 19 [.agg ⟨cQ false n m ov⟩] H=.val (.bool true) H
theorem aPh {h:Hp} {b yb yo yc m:Nat} {vs new:List Value} (h0:0<m) (h1:m≤1000) (hc:cellsOf h yb yo (m*1)=some new) (ho:Has h b 0 vs) (hl:vs.length=2) :
 mQ 5 1 (cB b 0 2 2) (cB yb yo m yc) h=.val (cB h.next 0 (2+m) (cM 1 (2+m))) (h.new (aT (vs++new) (vs++new).length 5 false)):=by
 have hb:Nat.beq m 0=false:=dO (by omega)
 have hold:cellsOf h b 0 (2*1)=some vs:=ho.cells hl.symm
 unfold mQ
 rw [Lf,hb,cond_false,hc]
 show rW (cB b 0 2 2) (oM 5 1 h m new) (tH 5 1 h m new) .none=_
 rw [yH]
 unfold oM
 rw [bD,show Nat.add 2 m=2+m from rfl,show sure 2=2 from rfl,eN (by omega),cond_false,cX (by omega),cond_true,show Nat.beq 2 0=false from rfl,cond_false,show Nat.mul 2 1=2*1 from rfl,hold,rH,show eU 2=false from rfl,cond_false]
 exact Je 5 1 (vs++new) (2+m) h
theorem aPi (a b c d:Nat):[A0 a,A0 b,A0 c,A0 d]=vS [a,b,c,d]:=rfl
structure RpS (va vb:Value) (q lo:Nat) (R:Option dY) (L0 lens:List Nat) (K:Hp) (i:Nat) (tm:T Value) (df:Df) (H:Hp):Prop where
 df:df=[]
 t6:tm.get [false,false]=some va
 t8:tm.get [false,true,true]=some vb
 t11:tm.get [true,true,false]=some (bE q 0)
 t12:tm.get [false,true,false]=some (A0 i)
 st:∃ v,tm.get [false,false,true]=some v∧Ls lo q R v (.slice none 0 0) (L0++zS 3 (lens.take i)) [] K H
theorem aLB {call:Call} (hN:Qh call) {va vb:Value} {q lo:Nat} {L0:List Nat} {a b c d:Nat} {cc:T Value} {e:TypeId} {cl:Bool} {K:Hp} (hK:K.base≤K.next) (hL0:L0.length≤1000) (ha:a<16777216) (hb:b<16777216) (hc:c<16777216) (hd:d<16777216) (hg:∀ i x,[a,b,c,d][i]?=some x→cc.get (path i)=some (A0 x)) {tm:T Value} {df:Df} {H:Hp}
 (hst:RpS va vb q lo (some (.row cc 4 e cl false)) L0 [a,b,c,d] K 0 tm df H):bC (iP (.loop tB) call tm df H) (fun ex tm df H=>ex=.exit 0∧RpS va vb q lo (some (.row cc 4 e cl false)) L0 [a,b,c,d] K 4 tm df H):=by
 refine cT (n:=4) (by omega) (RpS va vb q lo (some (.row cc 4 e cl false)) L0 [a,b,c,d] K) (fun i tm df H hi hI=>?_) (fun tm df H hI=>?_) hst
 · obtain ⟨rfl,t6,t8,t11,t12,⟨v,t10,hp⟩⟩:=hI
   obtain ⟨x,hx⟩:∃ x,[a,b,c,d][i]?=some x:=⟨[a,b,c,d][i]'hi,List.getElem?_eq_getElem hi⟩
   have hxb:x<16777216:=by
    have:=List.mem_of_getElem? hx
    simp only [List.mem_cons,List.not_mem_nil,or_false] at this
    rcases this with rfl|rfl|rfl|rfl<;>assumption
   have hlen:(L0++zS 3 ([a,b,c,d].take i)).length+3≤100000:=by
    rw [List.length_append,vT,List.length_take]
    have:min i [a,b,c,d].length≤4:=Nat.min_le_right _ _
    omega
   obtain ⟨r,H1,v',H',e1,_,ea,hp'⟩:=hp.num hN hK (w:=3) hlen (by omega) (by omega) hxb
   have hrow:=hp.row
   have g1:Nat.blt i 4=true:=bU hi
   have g2:Nat.blt (0+i*1) 4=true:=bU (by omega)
   have g3:cc.get (path (0+i*1))=some (A0 x):=by rw [show 0+i*1=i by omega];exact hg i x hx
   have w1:aR .i64 (.ofNat (i+1))=.ofNat (i+1):=bF (by omega)
   unfold tB
   simp only [↓aQ,NV,reduceCtorEq,t6,t8,t10,t11,t12,g1,hrow,g2,g3,e1,gE,ea,w1]
   refine .go ⟨rfl,by simp [t6],by simp [t8],by simp [t11],by simp,v',by simp,?_⟩
   rw [Xo hx,← List.append_assoc]
   exact hp'
 · obtain ⟨rfl,t6,t8,t11,t12,⟨v,t10,hp⟩⟩:=hI
   have g1:Nat.blt 4 4=false:=rfl
   unfold tB
   simp only [↓aQ,NV,reduceCtorEq,t12,g1]
   exact .ex ⟨rfl,rfl,by simp [t6],by simp [t8],by simp [t11],by simp [t12],v,by simp [t10],hp⟩
theorem aGp {call:Call} {cd:cE} (hN:Qh call) (hR:aEA call) (hL:aLA call) (hE:aQ8 call) (hS:aQ9 call) {h:Hp} {n m:Nat} {ops:List eJ} {ov:Value} {P:Nat→Prop} (hw:Wf h) (hp:kF.Ok n m ops) (ho:gD h ov ops P) :
 Yields (dD No call cd [.agg ⟨cQ false n m ov⟩] h) (aEi n m ops h):=by
 have hwb:=hw.base
 have hnum:=hp.num
 have hm:=hp.m
 have hn:=hp.n
 have hcl:=qT ops
 have hdl:=qU ops hp.rt
 have hout:=hp.out
 have hla:(Rc.enc (cU 1) (dB ops)).length≤4*(dB ops).length+4:=s9
 have hlb:(Rc.enc (cU 2) (dF ops)).length≤4*(dF ops).length+4:=s9
 have hbyte:=wV n m ops
 have hhead:=Gy n m ops
 obtain ⟨K,hK⟩:∃ K,h.new (aT (cQ false n m ov) 4 30 true)=K:=⟨_,rfl⟩
 have wK:Wf K:=by rw [← hK];exact hw.new _
 have fK:Fr (fun _=>False) h K:=by rw [← hK];exact Fr.new _
 have nK:K.next=h.next+1:=by rw [← hK];rfl
 have a1:K.at h.next=some (aT (cQ false n m ov) 4 30 true):=by rw [← hK,aM,if_pos rfl]
 have hoK:=ho.eH hw fK
 have e1:=hR K n m ops ov P wK hp hoK
 obtain ⟨r,H1,e2,v4,v5,rfl,s4,s5,w1,f1⟩:=(hL K n m ops ov P wK hp hoK).get
 obtain ⟨r,H2,e3,va,rfl,sa,ba,w2,f2⟩:=(hE H1 1 v4 _ w1 (.inl rfl) s4 (by omega) (wS ops)).get
 obtain ⟨r,H3,e4,vb,rfl,sb,bb,w3,f3⟩:=(hE H2 2 v5 _ w2 (.inr rfl) (s5.gV (Q:=fun _=>False) w1 f2 (fun _ h=>h.elim)) (by omega) (wT hp.rt)).get
 have n1:=f1.next
 have n2:=f2.next
 have n3:=f3.next
 have f13:=(f1.trans (P:=fun _=>False) f2 fun _ _ h=>h).trans (P:=fun _=>False) f3 fun _ _ h=>h
 have la:=sa.len
 have lb:=sb.len
 have l4:=s4.len
 have l5:=s5.len
 obtain ⟨K2,hK2⟩:∃ K2,H3.new (aT [A1 80,A1 0] 2 5 true)=K2:=⟨_,rfl⟩
 have wK2:Wf K2:=by rw [← hK2];exact w3.new _
 have fK2:Fr (fun _=>False) H3 K2:=by rw [← hK2];exact Fr.new _
 have nK2:K2.next=H3.next+1:=by rw [← hK2];rfl
 have hK2b:K2.base≤K2.next:=wK2.base
 have f1K:=f13.trans (P:=fun _=>False) fK2 fun _ _ h=>h
 have h80:Has K2 H3.next 0 (dR [80,0]):=by rw [← hK2];exact fS (vs:=dR [80,0]) (n:=2) (e:=5) (cl:=true) (by rw [aM,if_pos rfl];rfl) (Nat.le_refl _)
 have a1K:K2.at h.next=some (aT (cQ false n m ov) 4 30 true):=by rw [f1K.at_ _ (by omega) fun h=>h];exact a1
 have saK:Sl 1 K2 va _ _:=(sa.gV (Q:=fun _=>False) w2 f3 (fun _ h=>h.elim)).gV (Q:=fun _=>False) w3 fK2 (fun _ h=>h.elim)
 have sbK:Sl 1 K2 vb _ _:=sb.gV (Q:=fun _=>False) w3 fK2 (fun _ h=>h.elim)
 obtain ⟨r1,G1,g1,o1,wG1,fG1⟩:=(hN K2 n 3 wK2 (by omega) (by omega) (by omega)).get
 have kG1:=fG1.next
 obtain ⟨yb,yo,yc,rfl,hh⟩:=o1.sl.pos (by rw [fD];omega)
 rw [fD] at g1
 have hcells:cellsOf G1 yb yo (3*1)=some (dR (be 3 n)):=hh.cells (by rw [eZ,fD])
 have ea1:=aPh (h:=G1) (yc:=yc) (by omega) (by omega) hcells (h80.bT (fG1.at_ _ (by omega) fun h=>h)) rfl
 rw [← lO] at ea1
 have P1:Ls K2.next h.next (some (aT (cQ false n m ov) 4 30 true)) (cB G1.next 0 (2+3) (cM 1 (2+3))) (.slice none 0 0) ([80,0]++be 3 n) [] K2 (G1.new (aT (dR ([80,0]++be 3 n)) (dR ([80,0]++be 3 n)).length 5 false)):=by
  refine ⟨wG1.new _,fG1.dE _,Nat.le_refl _,by rw [aF];omega,?_,Out.nil,fun c h1 h2=>absurd h2.1 (Nat.lt_irrefl _),by rw [aF];omega,by rw [aM,if_neg (by omega),fG1.at_ _ (by omega) fun h=>h];exact a1K,fun c h1=>?_,fun c h2=>absurd h2.1 (Nat.lt_irrefl _)⟩
  · have hl5:([80,0]++be 3 n).length=2+3:=by rw [List.length_append,fD];rfl
    rw [hl5]
    exact ⟨by rw [eZ,hl5],jJ _,.inr ⟨_,rfl,by omega,nE rfl,kG1⟩⟩
  · rw [fB h1.2];omega
 obtain ⟨K3,hK3⟩:∃ K3,G1.new (aT (dR ([80,0]++be 3 n)) (dR ([80,0]++be 3 n)).length 5 false)=K3:=⟨_,rfl⟩
 rw [hK3] at P1 ea1
 have row1:=P1.row
 obtain ⟨r2,G2,v2,H5,g2,row2,ea2,P2⟩:=P1.num hN hK2b (w:=3) (x:=m) (by rw [List.length_append,fD];show 2+3+3≤_;omega) (by omega) (by omega) (by omega)
 have row2':=P2.row
 obtain ⟨r3,G3,v3,H6,g3,row3,ea3,P3⟩:=P2.num hN hK2b (w:=2) (x:=ops.length) (by simp only [List.length_append,fD];show 2+3+3+3≤_;omega) (by omega) (by omega) (by omega)
 obtain ⟨X,hX,wX,fX,aX,nX⟩:=eP P3.wf [A0 0,A0 0,A0 0,A0 0] [A0 ((dB ops).length),A0 ((Rc.enc (cU 1) (dB ops)).length),A0 ((dF ops).length),A0 ((Rc.enc (cU 2) (dF ops)).length)] 4 76
 have P4':=P3.frame wX fX
 have P4:Ls K2.next H6.next _ v3 (.slice none 0 0) ([80,0]++be 3 n++be 3 m++be 2 ops.length) [] K2 X:=⟨P4'.wf,P4'.fr,P4'.sC,P4'.tR,P4'.o4,P4'.o5,P4'.dis,by omega,aX,fun c hc=>by have:=P3.o4.sl.lt P3.wf hc.1 hc.2;omega,fun c h2=>absurd h2.1 (Nat.lt_irrefl _)⟩
 have hl13:([80,0]++be 3 n++be 3 m++be 2 ops.length).length=10:=by simp only [List.length_append,fD];rfl
 have b0:Nat.ble (0+1) 2=true:=rfl
 have b1:Nat.ble (1+1) 2=true:=rfl
 have hov:=gD.len ho
 unfold cQ at hK a1 e1 e2 a1K row1 row2 row2'
 refine aP rfl ?_
 simp only [↓aQ,NV,reduceCtorEq,ev2,pQ,cQ,dQ,gM,hK,a1,e1,e2,iX,nW,oD,e3,e4,b0,b1,hK2,a1K,g1,gE,ea1,row1,g2,ea2,row2',g3,ea3,hov,l4,la,l5,lb,hX]
 refine bC.lp (id:=0) (P:=RpS va vb H6.next K2.next (some (.row (aL [A0 ((dB ops).length),A0 ((Rc.enc (cU 1) (dB ops)).length),A0 ((dF ops).length),A0 ((Rc.enc (cU 2) (dF ops)).length)] 0 (aL [A0 0,A0 0,A0 0,A0 0] 0 .nil fun t=>t) fun t=>t) 4 76 true false)) ([80,0]++be 3 n++be 3 m++be 2 ops.length) [(dB ops).length,(Rc.enc (cU 1) (dB ops)).length,(dF ops).length,(Rc.enc (cU 2) (dF ops)).length] K2 4) ?_ ?_
 · refine aLB hN hK2b (by omega) (by omega) (by omega) (by omega) (by omega) ?_ ⟨rfl,by simp,by simp,by simp,by simp,v3,by simp,?_⟩
   · intro i x hx
     have hlt:=(List.getElem?_eq_some_iff.1 hx).1
     have h4:i<4:=hlt
     rw [bM,if_pos ⟨Nat.zero_le _,by show i<0+4;omega⟩,Nat.sub_zero,aPi]
     exact aD5 hx
   · have e0:zS 3 (List.take 0 [(dB ops).length,(Rc.enc (cU 1) (dB ops)).length,(dF ops).length,(Rc.enc (cU 2) (dF ops)).length])=[]:=rfl
     rw [e0,List.append_nil]
     exact P4
 rintro tm df H ⟨rfl,t6,t8,t11,t12,⟨v5',t10,Q0⟩⟩
 have e0:[80,0]++be 3 n++be 3 m++be 2 ops.length++zS 3 (List.take 4 [(dB ops).length,(Rc.enc (cU 1) (dB ops)).length,(dF ops).length,(Rc.enc (cU 2) (dF ops)).length])=xK n m ops:=by
  show _++zS 3 [(dB ops).length,(Rc.enc (cU 1) (dB ops)).length,(dF ops).length,(Rc.enc (cU 2) (dF ops)).length]=_
  unfold xK zS
  rw [be1 (by omega),be1 (by omega)]
  simp only [List.flatMap_cons,List.flatMap_nil,List.append_nil,List.append_assoc,List.cons_append,List.nil_append]
 rw [e0] at Q0
 obtain ⟨u1,Z1,za,Q1⟩:=Q0.aGm hK2b (saK.gV (Q:=fun _=>False) wK2 Q0.fr (fun _ h=>h.elim)) (by omega)
 obtain ⟨u2,Z2,zb,Q2⟩:=Q1.aGm hK2b (sbK.gV (Q:=fun _=>False) wK2 Q1.fr (fun _ h=>h.elim)) (by rw [List.length_append];omega)
 have hbody:xK n m ops++Rc.enc (cU 1) (dB ops)++Rc.enc (cU 2) (dF ops)=gK n m ops:=rfl
 rw [hbody] at Q2
 have hbl:(gK n m ops).length≤5000:=by rw [← hbody,List.length_append,List.length_append];omega
 obtain ⟨r,Z3,zs,o3,w3',f3'⟩:=(hS Z2 u2 (gK n m ops) Q2.wf Q2.o4.sl (by omega) hbyte).get
 have Q3:=Q2.frame w3' f3'
 have hsl:=uS (gK n m ops)
 obtain ⟨u4,Z4,zc,Q4⟩:=Q3.aGm hK2b o3.sl (by omega)
 have hpk:gK n m ops++Ag (gK n m ops)=gF n m ops:=rfl
 rw [hpk] at Q4
 have hpl:(gF n m ops).length=(gK n m ops).length+4:=by rw [← hpk,List.length_append,hsl]
 have hpos:26≤(gF n m ops).length:=by have:=Gz n m ops;omega
 simp only [↓aQ,NV,reduceCtorEq,t6,t8,t10,gE,za,zb,zs,zc]
 refine .ret ?_
 simp only [↓aQ,NV,reduceCtorEq,iO]
 have nQ:=Q4.fr.next
 exact ⟨u4,rfl,Q4.o4.ro (by omega) (by omega),fun c hc=>⟨by have:=Q4.o4.fE (by omega) hc;omega,Q4.o4.sl.lt Q4.wf (by omega) hc⟩,Q4.wf,(fK.trans (P:=fun _=>False) f1K fun _ _ h=>h).trans (P:=fun _=>False) Q4.fr fun _ _ h=>h⟩
def aLC (call:Call):Prop:=∀ h n m ops ov P,Wf h→kF.Ok n m ops→gD h ov ops P→Yields (call 7 [.agg ⟨cQ false n m ov⟩] h) (aEi n m ops h)
end cG
end Go
