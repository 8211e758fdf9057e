/-
Symbolic runs of the functions that the law reaches, part 04.
Conditions: none.
-/
import Derived.Test.YtekknahndoonjaaGreatDoorRun03
import Derived.Test.YtekknahndoonjaaGreatDoorRun02
import Derived.Test.YtekknahndoonjaaGreatDoorLit01
import Derived.Test.YtekknahndoonjaaGreatDoorRun01
set_option linter.all false
set_option maxRecDepth 10000
set_option maxHeartbeats 16000000
noncomputable section
namespace Go
namespace Abs
variable {A7:Call} {cd:C9} {H H' K h:Hp} {N b c cb i lo m:Nat} {s s1 s2 s3:ByteArray} {P Q:Nat→Prop} {vs:List A0} {bv dv dv' ev ev' kv ov qv sv sv' tv tv' uv uv' vv wv wv' x y:A0} {t:List Nat} {ops:List WM} {E:TypeId} {tm:T A0} {f:FM}
theorem A1L{v:A0}{l:List Nat}{n:Nat}(hv:UC h v l)(hl:l.length≤1000):C0 (G8 iM A7 cd [v,iN n] h) (fun r H=>∃x,VI (.int .i64 x) h r H):=by
 have vl:=hv.len;refine B5 rfl ?_;simp only[B0];refine D9.A9C (P:=fun tm df H=>df=[]∧H=h) (R:=fun tm df H=>df=[]∧H=h∧∃x,D0 tm [(V1,.int .i64 x)]) ?_ ?_ ?_
 · refine K6 (n:=l.length) (by omega) (fun i tm H=>D0 tm [([],v),(Q0,iN n),(U2,iN i)]∧H=h) ?_ (fun i tm H hi hI=>?_) (fun tm H hI=>?_)
   ·trivial
   · obtain⟨⟨t0,t1,t5,-⟩,rfl⟩:=hI;have vA:=hv.A (by omega);have hx:=O7 (G6 hi);unfold Ka;by_cases he:l.getD i 0=n
     ·simp(disch:=omega) only[B0,reduceCtorEq,t0,t1,t5,vA,hx];exact .ret (.inr ⟨rfl,rfl,rfl,_,by simp[D0,T.A9];rfl⟩)
     ·simp(disch:=omega) only[B0,reduceCtorEq,t0,t1,t5,vA,hx];exact .go ⟨by simp[D0,T.A9,t0,t1],rfl⟩
   ·obtain⟨⟨t0,t1,t5,-⟩,rfl⟩:=hI;unfold Ka;simp(disch:=omega) only[B0,t0,t5,vl];constructor<;>grind
 ·rintro tm df H ⟨rfl,rfl⟩;simp only[B0];refine .ret ?_;simp only[B0];exact⟨_,rfl,rfl⟩
 ·rintro tm df H ⟨rfl,rfl,x,t4,-⟩;refine .ret ?_;simp only[B0,t4];exact⟨x,rfl,rfl⟩
abbrev eJ(A7:Call):Prop:=∀H v l n,UC H v l→l.length≤1000→∃x,A7 157 [v,iN n] H=.val (.int .i64 x) H
abbrev Rg:=Nat×Nat
def AWZ(x:Rg):List A0:=[iN x.1,iN x.2]
def AK2(l:List Rg):List A0:=l.flatMap AWZ
def xB:List Rg→Nat
 | []=>0
 | x::l=>(x.2-x.1)+xB l
theorem VL:∀(a b:List Rg),xB (a++b)=xB a+xB b
 | [],b=>by simp[xB]
 | x::a,b=>by show _+xB (a++b)=_+xB a+xB b;rw[VL a b];omega
structure AN3(n:Nat)(l:List Rg):Prop where
 lt:∀x∈l,x.1<x.2∧x.2≤n
 sum:xB l≤n
theorem AAK{n:Nat}:∀ {l:List Rg},(∀x∈l,x.1<x.2∧x.2≤n)→l.length≤xB l
 | [],_=>by simp
 | x::l,h=>by have h1:=h x Ct;have h2:=AAK fun y hy=>h y (EM _ hy);show l.length+1≤(x.2-x.1)+xB l;omega
theorem AFY{l:List Rg}{x:Rg}(h:l[i]?=some x):(AK2 l)[i*2+0]?=some (iN x.1)∧(AK2 l)[i*2+1]?=some (iN x.2):=⟨NZ (f:=AWZ) (s:=2) (fun _=>rfl) h (j:=0) (by omega),NZ (f:=AWZ) (s:=2) (fun _=>rfl) h (j:=1) (by omega)⟩
theorem A9c(l:List Rg)(a b c:Nat):(AK2 (l++[(a,b)])).set (l.length*2+1) (iN c)=AK2 (l++[(a,c)]):=by have hl:(AK2 l).length=l.length*2:=ANn (f:=AWZ) (fun _=>rfl) l;unfold AK2 at *;rw[ALT,ALT,List.set_append_right _ _ (by omega),hl];congr 1;rw[show l.length*2+1-l.length*2=1 by omega];rfl
theorem pj{x:A0}(hx:K9 [x]=true):∀(l:List A0) (k:Nat),K9 l=true→K9 (l.set k x)=true
 | [],k,h=>h
 | a::l,0,h=>by
  rw[A3o];have hx':Bc x=false:=by cases h:Bc x with
   | false=>rfl
   | true=>have:(bif Bc x then false else true)=true:=hx;rw[h] at this;cases this
  have h':(bif Bc a then false else K9 l)=true:=h;show(bif Bc x then false else K9 l)=true;grind
 | a::l,k+1,h=>by
  rw[ADY];have h':(bif Bc a then false else K9 l)=true:=h;show(bif Bc a then false else K9 (l.set k x))=true;cases ha:Bc a with
  | true=>rw[ha] at h';cases h'
  | false=>rw[ha] at h';exact pj hx l k h'
theorem Bd.setAt{e:TypeId}{s:Nat}{n k:Nat}{c:T A0}(hb:Bd e s K Q H (F8 b 0 n (C4 s n)) n vs)(hK:Wf K)(h0:0<n)(hat:H.at b=some (.row c vs.length e false false))(hc:∀k,k<vs.length→c.get (path k)=vs[k]?)(hx:K9 [x]=true)(hk:k<vs.length):
 Bd e s K Q (H.put b (some (.row (C7 [x] k c fun t=>t) vs.length e false false))) (F8 b 0 n (C4 s n)) n (vs.set k x):=by
 have hKb:=hK.base;have hbb:=hb.fr.base;obtain⟨⟨hl,h1,⟨h2,_⟩|⟨b',hv,h3,h4,h5⟩⟩,w,f⟩:=hb
 ·omega
 ·cases hv;have hlt:=w.lt hat;refine⟨⟨by rw[Bu];exact hl,pj hx _ _ h1,.inr ⟨b,rfl,h3,⟨_,by rw[K0,Bu],fun j hj=>?_⟩,h5⟩⟩,w.put hlt _,f.O6 _ (fun hk=>by omega) (by omega)⟩;rw[Bu] at hj;rw[V3,A7o];grind
abbrev R01ChangedR(g:List A0→Hp→N3):Prop:=∀h av bv a b n,Wf h→Sl 1 h av n (M4 a)→Sl 1 h bv n (M4 b)→a.length=n→b.length=n→n≤3000→C0 (g [av,bv] h) (fun r H=>(∃l,AN3 n l∧Sl 2 H r l.length (AK2 l))∧Wf H∧Fr N5 h H)
theorem nc:R01ChangedR (G8 WI A7 cd):=by
 intro h av bv a b n hw ha hb hal hbl hn;have al:=ha.len;obtain⟨J,hJ,wJ,fJ,nJ,a1⟩:=J7 hw (B6 [] 0 229 true);have hwb:=hw.base;refine B5 rfl ?_;simp only[B0,hJ];refine D9.lp (P:=fun tm df H=>df=[]∧∃o l,D0 tm [(U2,o)]∧Bd 229 2 J N5 H o l.length (AK2 l)∧AN3 n l) ?_ ?_
 · refine K6 (n:=n) (by omega) (fun i tm H=>∃o l,D0 tm [([],av),(Q0,bv),(U2,o),(Q8,iN i)]∧Bd 229 2 J N5 H o l.length (AK2 l)∧AN3 i l) ?_ (fun i tm H hi hI=>?_) (fun tm H hI=>?_)
   ·exact⟨_,[],by simp[D0,T.A9,Fy,PY];rfl,Bd.OX wJ (Fr.refl _ _),⟨by simp,by simp[xB]⟩⟩
   · obtain⟨o,l,⟨t0,t1,t5,t6,-⟩,bd,hok⟩:=hI;have fh:=fJ.trans bd.fr fun _ _ h=>h;have bH:=bd.fr.base;have aA:=(ha.fr hw fh).A (by omega);have bA:=(hb.fr hw fh).A (by omega);have hx:=Q1 (G6 (show i<a.length by omega));have hy:=Q1 (G6 (show i<b.length by omega));have hll:=AAK hok.lt;have hsum:=hok.sum;have hok1:AN3 (i+1) l:=⟨fun x hx=>by have:=hok.lt x hx;omega,by omega⟩
     have ol:=bd.sl.len;generalize a.getD i 0=x at *;generalize b.getD i 0=y at *;unfold HK;by_cases hxy:x=y
     ·simp(disch:=omega) only[B0,reduceCtorEq,t0,t1,t6,aA,bA,hx,hy];exact .go ⟨o,l,by simp[D0,T.A9,t0,t1,t5],bd,hok1⟩
     · have fresh:∀ {o':A0} {H4:Hp},Bd 229 2 J N5 H4 o' (l++[(i,i+1)]).length (AK2 (l++[(i,i+1)]))→AN3 (i+1) (l++[(i,i+1)]):=fun _=>⟨fun z hz=>by
        rcases Gt.1 hz with h|h
        ·exact hok1.lt z h
        grind,by rw[VL];show xB l+((i+1-i)+0)≤i+1;omega⟩
       obtain⟨o',H4,e4,bd2,_,_⟩:=bd.ADp wJ (fun _=>rfl) (fun _=>rfl) (i,i+1) (by omega);have hok2:=fresh bd2;unfold AWZ at e4;dsimp only at e4;rcases List.eq_nil_or_concat l with rfl|⟨init,⟨ra,rb⟩,rfl⟩
       ·have ol0:Np o (fun _ _ l _=>some (Value.int .i64 (.ofNat l))) (fun l _=>some (Value.int .i64 (.ofNat l))) none=some (.int .i64 (.ofNat 0)):=ol;simp(disch:=first|omega|exact⟨rfl,rfl,rfl⟩|assumption) only[B0,reduceCtorEq,t0,t1,t5,t6,aA,bA,hx,hy,ol0,e4];exact .go ⟨o',_,by simp[D0,T.A9,t0,t1],bd2,hok2⟩
       · rw[List.concat_eq_append] at *;have hlen:(init++[(ra,rb)]).length=init.length+1:=by simp
         rw[hlen] at ol bd hll;obtain⟨r1,r2⟩:=hok.lt (ra,rb) (by simp);dsimp only at r1 r2;have hget:=AFY (l:=init++[(ra,rb)]) (i:=init.length) (x:=(ra,rb)) (by simp);have oA:=bd.sl.A (by omega);have e3:Nv .i64 (.ofNat (init.length+1)) (.ofNat 1)=some (iN init.length):=by rw[Fh .i64 (by omega),GC (by omega)];rfl
         by_cases hrb:rb=i
         · obtain⟨⟨hl,h1,⟨h2,_⟩|⟨b',rfl,h3,⟨c,hat,hc⟩,h5⟩⟩,w,f⟩:=id bd
           ·omega
           · have hL:(AK2 (init++[(ra,rb)])).length=(init.length+1)*2:=hl;have bd3:=bd.setAt wJ (by omega) hat hc (x:=iN (i+1)) (k:=init.length*2+1) rfl (by omega);rw[A9c] at bd3;have hc1:=hc (init.length*2+1) (by omega);rw[hget.2] at hc1;have hlt:=w.lt hat;rw[hL] at hat bd3;simp(disch:=omega) only[B0,reduceCtorEq,t0,t1,t5,t6,aA,bA,hx,hy,hat,Ag,hc1,e3];have hs0:=VL init [(ra,rb)];have hs1:=VL init [(ra,i+1)];have hs2:xB [(ra,rb)]=(rb-ra)+0:=rfl;have hs3:xB [(ra,i+1)]=(i+1-ra)+0:=rfl;refine .go ⟨_,init++[(ra,i+1)],by simp[D0,T.A9,t0,t1,t5];rfl,?_,⟨fun z hz=>?_,by omega⟩⟩
             ·rw[show(init++[(ra,i+1)]).length=init.length+1 by simp];exact bd3
             · rcases Gt.1 hz with h|h
               ·have:=hok.lt z (rQ _ h);omega
               ·rw[LZ.1 h];omega
         ·simp(disch:=first|omega|exact⟨rfl,rfl,rfl⟩|assumption) only[B0,reduceCtorEq,t0,t1,t5,t6,aA,bA,hx,hy,oA,hget.2,e3,e4];exact .go ⟨o',_,by simp[D0,T.A9,t0,t1],bd2,hok2⟩
   ·obtain⟨o,l,⟨t0,t1,t5,t6,-⟩,bd,hok⟩:=hI;unfold HK;simp(disch:=omega) only[B0,t0,t6,al];exact .ex ⟨rfl,rfl,o,l,by simp[D0,T.A9,t5],bd,hok⟩
 rintro tm df H ⟨rfl,o,l,⟨t5,-⟩,bd,hok⟩;simp only[B0,t5];refine .ret ?_;simp only[B0];exact⟨⟨l,hok,bd.sl⟩,bd.wf,fJ.trans bd.fr fun _ _ h=>h⟩
abbrev jD(A7:Call):Prop:=R01ChangedR (A7 158)
def Aac(B:Nat)(h:Hp)(r:A0)(H:Hp):Prop:=∃n,n≤B∧QR (iN n) h r H
theorem ALg{l:List Rg}{x:Rg}(h:l[i]?=some x):xB (l.take (i+1))=xB (l.take i)+(x.2-x.1):=by rw[take_one h,VL];rfl
theorem ASF{l:List Rg}(i:Nat):xB (l.take i)≤xB l:=by have:=VL (l.take i) (l.drop i);simp_all
theorem AAp(hC:jD A7){av:A0}{a b:List Nat}{n:Nat}(hw:Wf h)(ha:Sl 1 h av n (M4 a))(hb:Sl 1 h bv n (M4 b))(hal:a.length=n)(hbl:b.length=n)(hn:n≤3000):C0 (G8 xX A7 cd [av,bv] h) (Aac (5+5*n) h):=by
 obtain⟨v,H,e1,⟨l,hok,hv⟩,w,f⟩:=(hC h av bv a b n hw ha hb hal hbl hn).get;have vl:=hv.len;have hll:=AAK hok.lt;have hsum:=hok.sum;refine B5 rfl ?_;simp only[B0,reduceCtorEq,e1];refine D9.lp (P:=fun tm df H'=>df=[]∧H'=H∧D0 tm [(U2,iN (5+(4*l.length+xB l)))]) ?_ ?_
 · refine K6 (n:=l.length) (by omega) (fun i tm H'=>H'=H∧D0 tm [(U2,iN (5+(4*i+xB (l.take i)))),(Q8,v),(AL,iN i)]) ?_ (fun i tm H' hi hI=>?_) (fun tm H' hI=>?_)
   ·trivial
   · obtain⟨rfl,⟨t5,t6,t7,-⟩⟩:=hI;have hx:=X0 hi;have vA:=hv.A (by omega);have hg:=AFY hx;obtain⟨h1,h2⟩:=hok.lt _ (Dh hi);have hst:=ALg hx;have hle:=ASF (l:=l) (i+1);generalize l[i]=x at *;obtain⟨xa,xb⟩:=x;dsimp only at h1 h2 hst hg;have e3:Nv .i64 (.ofNat (4+xb)) (.ofNat xa)=some (iN (4+(xb-xa))):=by rw[Fh .i64 (by omega),GC (by omega),show 4+xb-xa=4+(xb-xa) by omega]
     unfold PT;simp(disch:=omega) only[B0,reduceCtorEq,t5,t6,t7,vA,hg.1,hg.2,e3];exact .go ⟨rfl,by simp[D0,T.A9,t6,hst];omega⟩
   ·obtain⟨rfl,⟨t5,t6,t7,-⟩⟩:=hI;rw[Rm] at t5;unfold PT;simp(disch:=omega) only[B0,t6,t7,vl];exact .ex ⟨rfl,rfl,rfl,by simp[D0,T.A9,t5]⟩
 rintro tm df H' ⟨rfl,rfl,⟨t5,-⟩⟩;simp only[B0,t5];refine .ret ?_;simp only[B0];exact⟨_,by omega,rfl,f.log⟩
abbrev A3U(A7:Call):Prop:=∀h av bv a b n,Wf h→Sl 1 h av n (M4 a)→Sl 1 h bv n (M4 b)→a.length=n→b.length=n→n≤3000→∃k,k≤5+5*n∧A7 73 [av,bv] h=.val (iN k) h
theorem A2w(hR:Ol A7)(hZ:VM A7)(hC:lP A7)(hI:eJ A7)(hS:dF A7){z:Nat}{q:List Nat}(hw:Wf h)(p:Yl z N)(hp:Rt (N*z) ops)(hv:Sl 5 h ov ops.length (A0n ops))(hq:UC h qv q)(ht:UC h tv t)(hql:q.length≤100)(htl:t.length≤100):C0 (G8 jS A7 cd [.agg ⟨VU z N (N*z) ov qv tv⟩] h) (AVG h):=by
 have hm:=p.mul;obtain⟨p1,p2,p3,p4⟩:=id p;obtain⟨J,hJ,wJ,fJ,nJ,a1⟩:=J7 hw (B6 (VU z N (N*z) ov qv tv) 8 47 true);have hwb:=hw.base;have cv:=hv.cell;have cq:=hq.cell;have ct:=ht.cell;have ql:=hq.len;have tl:=ht.len;have e1:=hR J ov ops (N*z) wJ hp (hv.fr hw fJ) (by omega);have e2:=hZ J z N ov qv tv wJ p cv cq ct;obtain⟨chv,H1,e3,⟨hch,hcy⟩,w1,g1⟩:=(hC J z N ov qv tv ops wJ p hp (hv.fr hw fJ) cq ct).get;have hchl:=ZC (DY ops) z N;generalize Vc (DY ops) z N=ch at *;have fh1:=fJ.trans g1 fun _ _ h=>h;have x1:=g1.A6;have cl:=hch.len;have cch:=hch.cell;obtain⟨r2,H2,e4,⟨rv,rows,rfl,hrows,hrl⟩,w2,g2⟩:=(hS H1 ov ops N z w1 hp (hv.fr hw fh1) p1 p2 p4).get;have fh2:=fh1.trans g2 fun _ _ h=>h;have g12:=g1.trans g2 fun _ _ h=>h;obtain⟨us,hul,hus,hur⟩:=hrows;have ul:=hus.len;have cu:=hus.cell;have A1:H1.at h.A6=some (B6 (VU z N (N*z) ov qv tv) 8 47 true):=by rw[g1.e _ (by omega)];exact a1
 have A2:H2.at h.A6=some (B6 (VU z N (N*z) ov qv tv) 8 47 true):=by rw[g12.e _ (by omega)];exact a1
 have hq1:=hq.fr hw fh1;have ht1:=ht.fr hw fh1;have hq2:=hq.fr hw fh2;have ht2:=ht.fr hw fh2;obtain⟨n,hn⟩:∃n,N*z=n:=⟨_,rfl⟩
 unfold VU at hJ a1 e2 e3 A1 A2 ⊢;unfold Jq at e1 e4;simp only[hn] at hJ a1 e1 e2 e3 e4 A1 A2 ⊢;have fin:∀ {tm:T A0} {H:Hp} {b:Bool},tm.get T1=some (.bool b)→Fr N5 h H→eW [CR.tmp T1] (AVG h) Ex.ret tm [] H:=fun ht hf=>by refine .ret ?_;simp only[B0,ht];exact⟨_,rfl,hf.log⟩
 refine B5 rfl ?_;by_cases hlen:q.length=ch.length
 · simp(disch:=first|omega|(simp only[C6]<;>omega)) only[B0,reduceCtorEq,hJ,a1,e1,e2,e3,g1.e,ql,cl];refine D9.A9C (P:=fun tm df H=>df=[]∧H=H1∧D0 tm [(Q0,C2 h.A6 0),(Q3,chv)]) (R:=fun tm df H=>df=[]∧H=H1∧D0 tm [(T1,.bool false)]) ?_ ?_ ?_
   · refine K6 (n:=ch.length) (by omega) (fun i tm H=>H=H1∧D0 tm [(Q0,C2 h.A6 0),(Q3,chv),(V1,iN i)]) ⟨rfl,by simp[D0,T.A9]⟩ (fun i tm H hi hI'=>?_) (fun tm H hI'=>?_)
     · obtain⟨rfl,⟨t1,t3,t4,-⟩⟩:=hI';have cA:=hch.A (by omega);have hx:=O7 (G6 hi);obtain⟨x,e5⟩:=hI (B8 H H.A6 []) qv q (ch.getD i 0) hq1 (by omega);generalize ch.getD i 0=y at *;unfold Jz;cases hb:PG x (.ofNat 0) with
       | true =>
        simp(disch:=first|omega|(simp only[C6]<;>omega)|assumption) only[B0,reduceCtorEq,t1,t3,t4,A1,cA,hx,e5,hb];exact .ret (.inr ⟨rfl,rfl,rfl,by simp[D0,T.A9]⟩)
       | false =>
        simp(disch:=first|omega|(simp only[C6]<;>omega)|assumption) only[B0,reduceCtorEq,t1,t3,t4,A1,cA,hx,e5,hb];exact .go ⟨rfl,by simp[D0,T.A9,t1,t3]⟩
     ·obtain⟨rfl,⟨t1,t3,t4,-⟩⟩:=hI';unfold Jz;simp(disch:=omega) only[B0,t3,t4,cl];exact .ex (.inl ⟨rfl,rfl,rfl,by simp[D0,T.A9,t1,t3]⟩)
   · rintro tm df H ⟨rfl,rfl,⟨t1,t3,-⟩⟩;simp only[B0];refine D9.A9C (P:=fun tm df H'=>df=[]∧H'=H∧D0 tm [(Q0,C2 h.A6 0),(Q3,chv)]) (R:=fun tm df H'=>df=[]∧H'=H∧D0 tm [(T1,.bool false)]) ?_ ?_ ?_
     · refine K6 (n:=t.length) (by omega) (fun i tm H'=>H'=H∧D0 tm [(Q0,C2 h.A6 0),(Q3,chv),(U2,iN i)]) ⟨rfl,by simp[D0,T.A9,t1,t3]⟩ (fun i tm H' hi hI'=>?_) (fun tm H' hI'=>?_)
       · obtain⟨rfl,⟨t1,t3,t5,-⟩⟩:=hI';have tA:=ht1.A (by omega);have hx:=O7 (G6 hi);obtain⟨x,e5⟩:=hI (B8 H' H'.A6 []) chv ch (t.getD i 0) hch (by omega);generalize t.getD i 0=y at *;unfold Lo;cases hb:PG x (.ofNat 0) with
         | true =>
          simp(disch:=first|omega|(simp only[C6]<;>omega)|assumption) only[B0,reduceCtorEq,t1,t3,t5,A1,tA,hx,e5,hb];exact .ret (.inr ⟨rfl,rfl,rfl,by simp[D0,T.A9]⟩)
         | false =>
          rcases Br i with h0|h0
          ·simp(disch:=first|omega|(simp only[C6]<;>omega)|assumption) only[B0,reduceCtorEq,t1,t3,t5,A1,tA,hx,e5,hb];exact .go ⟨rfl,by simp[D0,T.A9,t1,t3]⟩
          · obtain⟨j,hj⟩:∃j,i=j+1:=⟨i-1,by omega⟩
            have e3':Nv .i64 (.ofNat i) (.ofNat 1)=some (iN j):=by rw[hj,Fh .i64 (by omega),GC (by omega)];rfl
            have hx2:=O7 (G6 (show j<t.length by omega));generalize t.getD j 0=y2 at *;by_cases hyy:y≤y2
            ·simp(disch:=first|omega|(simp only[C6]<;>omega)|assumption) only[B0,reduceCtorEq,t1,t3,t5,A1,tA,hx,e5,hb,e3',hx2];exact .ret (.inr ⟨rfl,rfl,rfl,by simp[D0,T.A9]⟩)
            ·simp(disch:=first|omega|(simp only[C6]<;>omega)|assumption) only[B0,reduceCtorEq,t1,t3,t5,A1,tA,hx,e5,hb,e3',hx2];exact .go ⟨rfl,by simp[D0,T.A9,t1,t3]⟩
       ·obtain⟨rfl,⟨t1,t3,t5,-⟩⟩:=hI';unfold Lo;simp(disch:=first|omega|(simp only[C6]<;>omega)) only[B0,t1,t5,A1,tl];exact .ex (.inl ⟨rfl,rfl,rfl,by simp[D0,T.A9,t1,t3]⟩)
     · rintro tm df H' ⟨rfl,rfl,⟨t1,t3,-⟩⟩;simp(disch:=first|omega|(simp only[C6]<;>omega)) only[B0,Nat.reduceAdd,t1,A1,e4];refine D9.A9C (P:=fun tm df H=>df=[]∧H=H2) (R:=fun tm df H=>df=[]∧H=H2∧D0 tm [(T1,.bool false)]) ?_ ?_ ?_
       · refine K6 (n:=rows.length) (by omega) (fun i tm H=>H=H2∧D0 tm [(Q0,C2 h.A6 0),(Q8,rv),(Cj,iN i)]) ⟨rfl,by simp[D0,T.A9,t1]⟩ (fun i tm H hi hI'=>?_) (fun tm H hI'=>?_)
         · obtain⟨rfl,⟨t1,t6,t8,-⟩⟩:=hI';have uA:=hus.A (by omega);obtain⟨w,g0,hwr,hw1⟩:=hur i _ (X0 hi);generalize rows[i]=r at *;have wl:=hwr.len;unfold LI;simp(disch:=omega) only[B0,t6,t8,ul];refine D9.AU0 (P:=fun tm df H'=>df=[]∧H'=H∧D0 tm [(Q0,C2 h.A6 0),(Q8,rv),(Cj,iN i)]) (R:=fun tm df H'=>df=[]∧H'=H∧D0 tm [(T1,.bool false)]) ?_ ?_ ?_
           · refine K6 (n:=r.length) (by omega) (fun k tm H'=>H'=H∧D0 tm [(Q0,C2 h.A6 0),(Q8,rv),(Cj,iN i),(DZ,iN k)]) ⟨rfl,by simp[D0,T.A9,t1,t6,t8]⟩ (fun k tm H' hk hI'=>?_) (fun tm H' hI'=>?_)
             · obtain⟨rfl,⟨t1,t6,t8,t9,-⟩⟩:=hI';have wA:=hwr.A (by omega);have hx:=O7 (G6 hk);obtain⟨x1,e5⟩:=hI (B8 H' H'.A6 []) tv t (r.getD k 0) ht2 (by omega);obtain⟨x2,e6⟩:=hI (B8 H' H'.A6 []) qv q i hq2 (by omega);obtain⟨x3,e7⟩:=hI (B8 H' H'.A6 []) qv q (r.getD k 0) hq2 (by omega);generalize r.getD k 0=y at *;unfold LL;cases hb:PG x1 (.ofNat 0) with
               | false =>
                simp(disch:=first|omega|(simp only[C6]<;>omega)|assumption) only[B0,t1,t6,t8,t9,A2,uA,g0,wA,hx,e5,hb];exact .go ⟨rfl,by simp[D0,T.A9,t1,t6,t8]⟩
               | true =>
                cases hb2:PG x3 x2 with
                | false =>
                 simp(disch:=first|omega|(simp only[C6]<;>omega)|assumption) only[B0,t1,t6,t8,t9,A2,uA,g0,wA,hx,e5,hb,e6,e7,hb2];exact .go ⟨rfl,by simp[D0,T.A9,t1,t6,t8]⟩
                | true =>
                 simp(disch:=first|omega|(simp only[C6]<;>omega)|assumption) only[B0,t1,t6,t8,t9,A2,uA,g0,wA,hx,e5,hb,e6,e7,hb2];exact .ret (.inr ⟨rfl,rfl,rfl,by simp[D0,T.A9]⟩)
             ·obtain⟨rfl,⟨t1,t6,t8,t9,-⟩⟩:=hI';unfold LL;simp(disch:=omega) only[B0,t6,t8,t9,uA,g0,wl];exact .ex (.inl ⟨rfl,rfl,rfl,by simp[D0,T.A9,t1,t6,t8]⟩)
           ·rintro tm df H' ⟨rfl,rfl,⟨t1,t6,t8,-⟩⟩;simp(disch:=omega) only[B0,t8];exact .go ⟨rfl,by simp[D0,T.A9,t1,t6]⟩
           ·rintro tm df H' ⟨rfl,rfl,⟨t2,-⟩⟩;exact .ret (.inr ⟨rfl,rfl,rfl,by simpa[D0] using t2⟩)
         ·obtain⟨rfl,⟨t1,t6,t8,-⟩⟩:=hI';unfold LI;simp(disch:=omega) only[B0,t6,t8,ul];exact .ex (.inl ⟨rfl,rfl,rfl⟩)
       ·rintro tm df H ⟨rfl,rfl⟩;simp only[B0];exact fin (b:=true) (by simp[T.A9]) fh2
       ·rintro tm df H ⟨rfl,rfl,⟨t2,-⟩⟩;exact fin t2 fh2
     ·rintro tm df H' ⟨rfl,rfl,⟨t2,-⟩⟩;exact fin t2 fh1
   ·rintro tm df H ⟨rfl,rfl,⟨t2,-⟩⟩;exact fin t2 fh1
 ·simp(disch:=first|omega|(simp only[C6]<;>omega)) only[B0,reduceCtorEq,hJ,a1,e1,e2,e3,g1.e,ql,cl];exact fin (b:=false) (by simp[T.A9]) fh1
abbrev dz(A7:Call):Prop:=∀H z N ov qv tv q t ops,Wf H→Yl z N→Rt (N*z) ops→Sl 5 H ov ops.length (A0n ops)→UC H qv q→UC H tv t→q.length≤100→t.length≤100→∃b,A7 72 [.agg ⟨VU z N (N*z) ov qv tv⟩] H=.val (.bool b) H
def AZc(N:Nat)(h:Hp)(r:A0)(H:Hp):Prop:=∃s u x1 x2 x3 e:Nat,(s≤N∧u≤16)∧QR (.tuple ⟨[.agg ⟨[iN s,iN u,iN x1,iN x2,iN x3]⟩,iN e]⟩) h r H
def AFQ:List A0:=[i0,i0,i0,i0,i0]
theorem A3x(hV:dz A7)(hA:dL A7)(hC:bQ A7)(hR:A3U A7){z:Nat}{l q:List Nat}(hw:Wf h)(p:Yl z N)(hz:180≤z)(hp:Rt (N*z) ops)(hv:Sl 5 h ov ops.length (A0n ops))(hb:Sl 1 h bv (N*z) (M4 l))(hlb:l.length=N*z)(hq:UC h qv q)(ht:UC h tv t)(hql:q.length≤N)(htl:t.length≤N)(hqb:∀x∈q,x<N):C0 (G8 iI A7 cd [bv,.agg ⟨VU z N (N*z) ov qv tv⟩] h) (AZc N h):=by
 have hm:=p.mul;have hpos:=p.pos;obtain⟨p1,p2,p3,p4⟩:=id p;obtain⟨J,hJ,wJ,fJ,nJ,a1,a2⟩:=U7 hw (B6 (VU z N (N*z) ov qv tv) 8 47 true) (B6 AFQ 5 61 true);have hwb:=hw.base;have cv:=hv.cell;have cq:=hq.cell;have ct:=ht.cell;have cbv:=hb.cell;have ql:=hq.len;have tl:=ht.len;have bl:=hb.len;obtain⟨b,e1⟩:=hV J z N ov qv tv q t ops wJ p hp (hv.fr hw fJ) (hq.fr hw fJ) (ht.fr hw fJ) (by omega) (by omega);obtain⟨r2,H1,e2,⟨nv,nl,rfl,hnl,hns,hnb⟩,w1,f1⟩:=(hA J bv ov l ops (N*z) wJ (hb.fr hw fJ) hlb hp (hv.fr hw fJ) hpos (by omega)).get;have cnv:=hns.cell;have fh1:=fJ.trans f1 fun _ _ h=>h;have x1:=f1.A6;have b1:=fh1.base;have hbd:∀x,x<N→(x+1)*z≤N*z:=fun x hx=>BY _ hx;obtain⟨n,hn⟩:∃n,N*z=n:=⟨_,rfl⟩
 unfold AFQ at hJ a2;unfold VU at hJ a1 e1 ⊢;unfold Jq at e2;simp only[hn] at hJ a1 e1 e2 bl hb hlb hnl hns hm hbd ⊢;have A1:∀ {X:Hp},Fr N5 J X→X.at h.A6=some (B6 [iN z,iN N,.bool false,iN n,iN n,ov,qv,tv] 8 47 true):=fun f=>by rw[f.e _ (by omega)];exact a1
 have A2:∀ {X:Hp},Fr N5 J X→X.at (h.A6+1)=some (B6 [i0,i0,i0,i0,i0] 5 61 true):=fun f=>by rw[f.e _ (by omega)];exact a2
 have fin:∀ {tm:T A0} {X:Hp} {s u x1 x2 x3 e:Nat},tm.get V1=some (C2 (h.A6+1) 0)→tm.get U2=some (iN e)→Wf X→Fr N5 J X→s≤N→u≤16→eW [CR.cell true 5 V1,CR.tmp U2] (AZc N h) Ex.ret tm [] (X.put (h.A6+1) (some (.row (C7 [iN s,iN u,iN x1,iN x2,iN x3] 0 .nil fun t=>t) 5 61 true false))):=fun{tm X s u x1 x2 x3 e} t4 t5 wX fX hs hu=>by have:=fX.A6;refine .ret ?_;simp(disch:=first|omega|(simp only[C6]<;>omega)) only[B0,t4,t5];exact⟨s,u,x1,x2,x3,e,⟨hs,hu⟩,rfl,((Ky.mk wX (fJ.trans fX fun _ _ h=>h) rfl).put (by omega) (by omega) hw _).fr.log⟩
 refine B5 rfl ?_;cases b with
 | false =>
  simp(disch:=first|omega|(simp only[C6]<;>omega)) only[B0,hJ,a1,a2,e1];exact fin (e:=190) (by simp[T.A9]) (by simp[T.A9]) wJ (Fr.refl _ _) (by omega) (by omega)
 | true =>
  simp(disch:=first|omega|(simp only[C6]<;>omega)) only[B0,reduceCtorEq,hJ,a1,e1,bl,e2];refine D9.lp (P:=fun tm df H=>df=[]∧∃total g,D0 tm [(Q3,C2 h.A6 0),(V1,C2 (h.A6+1) 0),(DZ,iN total),(MC,iN g)]∧total≤N*(5+5*z)∧g≤5+5*z∧Wf H∧Fr N5 J H) ?_ ?_
  · refine K6 (n:=q.length) (by omega) (fun i tm H=>∃total g,D0 tm [([],bv),(Q3,C2 h.A6 0),(V1,C2 (h.A6+1) 0),(AL,nv),(DZ,iN total),(MC,iN g),(Ku,iN i)]∧total≤i*(5+5*z)∧g≤5+5*z∧Wf H∧Fr N5 H1 H) ?_ (fun i tm H hi hI=>?_) (fun tm H hI=>?_)
    ·exact⟨0,0,by simp[D0,T.A9,Fy],by omega,by omega,w1,Fr.refl _ _⟩
    · obtain⟨total,g,⟨t0,t3,t4,t7,t9,t10,t11,-⟩,htot,hg,wH,fH⟩:=hI;have fJH:=f1.trans fH fun _ _ h=>h;have fhH:=fJ.trans fJH fun _ _ h=>h;have hP:=A1 fJH;have bH:=fhH.base;have nH:=fJH.A6;have qA:=(hq.fr hw fhH).A (by omega);have hx:=O7 (G6 hi);have hxb:=hqb _ (s6 (G6 hi));generalize q.getD i 0=x at *;have hxz:=hbd x hxb;have his:(i+1)*(5+5*z)=i*(5+5*z)+(5+5*z):=uI _ _;have hiN:(i+1)*(5+5*z)≤3*(5+5*z):=BY _ (by omega);obtain⟨v2,G1',G1,c1,l1,s1,n1,⟨hv2,_⟩,y1,g1⟩:=drawn (P:=fun v H=>Sl 1 H v (AJ l x z).length (M4 (AJ l x z))∧True) wH (fun _ _ _ _ p=>p) ((hC (B8 H H.A6 []) bv l x z (wH.sb []) (by rw[hlb];exact(hb.fr hw fhH).sb _ _) (by omega) (by omega) (by omega) (by omega)).mono fun v X ⟨⟨x1,_⟩,x2,x3⟩=>⟨⟨x1,trivial⟩,x2,x3⟩);rw[Ah] at hv2;obtain⟨v3,G2',G2,c2,l2,s2,n2,⟨hv3,_⟩,y2,g2⟩:=drawn (P:=fun v H=>Sl 1 H v (AJ nl x z).length (M4 (AJ nl x z))∧True) y1 (fun _ _ _ _ p=>p) ((hC (B8 G1 G1.A6 []) nv nl x z (y1.sb []) (by rw[hnl];exact(hns.fr w1 (fH.trans g1 fun _ _ h=>h)).sb _ _) (by omega) (by omega) (by omega) (by omega)).mono fun v X ⟨⟨x1,_⟩,x2,x3⟩=>⟨⟨x1,trivial⟩,x2,x3⟩);rw[Ah] at hv3;obtain⟨k,hk,c3⟩:=hR (B8 G2 G2.A6 []) v2 v3 _ _ z (y2.sb []) ((hv2.fr y1 g2).sb _ _) (hv3.sb _ _) (Ah _ _ _) (Ah _ _ _) (by omega);have q1:=g1.A6;have q2:=g2.A6;have fHG:=g1.trans g2 fun _ _ h=>h;have s2':B8 G2' G2.A6 []=B8 G2 G2.A6 []:=by rw[←s2];rfl
      have AKm:=(((hq.fr hw fhH).S (by omega)).A2z wH)
      unfold LK;simp(disch:=first|omega|(simp only[C6]<;>omega)|assumption) only[B0,reduceCtorEq,Nat.reduceAdd,t0,t3,t7,t9,t10,t11,hP,qA,hx,c1,l1,s1,g1.e,c2,l2,s2,c3];refine .go ⟨_,_,by simp[D0,T.A9,t0,t3,t4,t7];exact⟨rfl,rfl⟩,by omega,by omega,y2,fH.trans fHG fun _ _ h=>h⟩
    ·obtain⟨total,g,⟨t0,t3,t4,t7,t9,t10,t11,-⟩,htot,hg,wH,fH⟩:=hI;have fJH:=f1.trans fH fun _ _ h=>h;have hP:=A1 fJH;have hqN:q.length*(5+5*z)≤N*(5+5*z):=BY _ hql;unfold LK;simp(disch:=first|omega|(simp only[C6]<;>omega)) only[B0,t3,t11,hP,ql];exact .ex ⟨rfl,rfl,total,g,by simp[D0,T.A9,t3,t4,t9,t10],by omega,hg,wH,fJH⟩
  rintro tm df H ⟨rfl,total,g,⟨t3,t4,t9,t10,-⟩,htot,hg,wH,fH⟩;have hP:=A1 fH;have hP2:=A2 fH;have nH:=fH.A6;have hN3:N*(5+5*z)≤3*(5+5*z):=BY _ p4;have hu:(total+z-1)/z<17:=Nat.div_lt_of_lt_mul (by omega);have e3:Nv .i64 (.ofNat (total+z)) (.ofNat 1)=some (iN (total+z-1)):=by rw[Fh .i64 (by omega),GC (by omega)]
  have e4:Nv .i64 (.ofNat z) (.ofNat 8)=some (iN (z-8)):=by rw[Fh .i64 (by omega),GC (by omega)]
  obtain⟨u,hud⟩:∃u,(total+z-1)/z=u:=⟨_,rfl⟩
  obtain⟨w,hwd⟩:∃w,max 1 ((z-8)/30)=w:=⟨_,rfl⟩
  have hw1:1≤w:=by omega
  obtain⟨c,hcd⟩:∃c,(u+t.length+5*q.length+12)/w=c:=⟨_,rfl⟩
  have hcb:c≤u+t.length+5*q.length+12:=by rw[←hcd];exact ACw _ _
  rw[hud] at hu;clear hbd hqb;simp(disch:=first|omega|(simp only[C6]<;>omega)|exact⟨rfl,rfl,rfl⟩|assumption) only[↓CG,B0,reduceCtorEq,Nat.reduceAdd,Nat.reduceMul,Nat.reduceSub,t3,t4,t9,t10,hP,hP2,ql,tl,e3,hud,e4,hwd,hcd];exact fin (e:=0) (by simp[T.A9,t4]) (by simp[T.A9]) wH fH htl (by omega)
abbrev fD(A7:Call):Prop:=∀h z N bv ov qv tv l q t ops,Wf h→Yl z N→180≤z→Rt (N*z) ops→Sl 5 h ov ops.length (A0n ops)→Sl 1 h bv (N*z) (M4 l)→l.length=N*z→UC h qv q→UC h tv t→q.length≤N→t.length≤N→(∀x∈q,x<N)→∃s u x1 x2 x3 e:Nat,(s≤N∧u≤16)∧A7 22 [bv,.agg ⟨VU z N (N*z) ov qv tv⟩] h=.val (.tuple ⟨[.agg ⟨[iN s,iN u,iN x1,iN x2,iN x3]⟩,iN e]⟩) h
def Nq(H:Hp)(v:A0)(l:List Pr):Prop:=Ng H v l∧∀c,0<l.length→Ch v c→cE H c=187
theorem Nq.fr{v:A0}{l:List Pr}(x:Nq h v l)(hw:Wf h)(f:Fr N5 h H):Nq H v l:=⟨x.1.fr hw f,fun c h0 hc=>by rw[Y9 (f.e _ (x.1.lt hw h0 hc))];exact x.2 c h0 hc⟩
theorem Nq.put{v:A0}{l:List Pr}(x:Nq H v l)(o:Option N2)(hb:cE H b≠187):Nq (H.put b o) v l:=by have k:∀c,0<l.length→Ch v c→(H.put b o).at c=H.at c:=fun c h0 hc=>E9 fun e=>hb (by rw[e];exact x.2 c h0 hc);exact⟨x.1.K7 k,fun c h0 hc=>by rw[Y9 (k c h0 hc)];exact x.2 c h0 hc⟩
theorem Nq.nil:Nq H B7 []:=⟨⟨rfl,.inl ⟨rfl,.inl rfl⟩⟩,fun c h0=>absurd h0 (by decide)⟩
theorem ARk.AKm{l:List Pr}{r:A0}(x:ARk l lo r H):Nq H r l:=⟨x.1,fun c h0 hc=>(x.2 c h0 hc).2⟩
theorem ASw(x:Int):∃c,c<256∧W4 .u8 x=.ofNat c:=by
 cases x with
 | ofNat a=>exact⟨a%256,by omega,QH a⟩
 | negSucc a =>
  refine⟨255-a%256,by omega,?_⟩;show fin 256 256 (255-a%256)=_;unfold fin;rw[BW (by omega)];rfl
theorem AVt(a b:Nat):∃c,c<256∧Nv .u8 (.ofNat a) (.ofNat b)=some (bN c):=by obtain⟨c,h1,h2⟩:=ASw (.ofNat a-.ofNat b);refine⟨c,h1,?_⟩;show GA .u8 (W4 .u8 (.ofNat a-.ofNat b))=_;rw[Cg,h2]
inductive Ru where
 | AQq (a b:Nat) | put (a v:Nat) | drop (a:Nat)
variable {us:List Ru}
def aT:Ru→List A0
 | .AQq a b=>[iN 1,.string (W2 a),.string (W2 b),.string (O2 [])]
 | .put a v=>[iN 2,.string (W2 a),.string (O2 []),.string (cj v)]
 | .drop a=>[iN 3,.string (W2 a),.string (O2 []),.string (O2 [])]
theorem AFP(r:Ru):(aT r).length=4:=by cases r<;>rfl
theorem AOW(r:Ru):K9 (aT r)=true:=by cases r<;>rfl
abbrev Q4:=Nat×Nat×Nat×Nat
def APS(x:Q4):List A0:=[bN x.1,bN x.2.1,bN x.2.2.1,bN x.2.2.2]
def ALa(x:Q4):Prop:=x.1<256∧x.2.1<256∧x.2.2.1<256∧x.2.2.2<256
theorem AYz(n:Nat):n%3=0∨n%3=1∨n%3=2:=by omega
theorem A5n(hV:VH A7)(hC:ZO A7){x:Q4}(hw:Wf h)(hx:ALa x):C0 (G8 oR A7 cd [.agg ⟨APS x⟩] h) (fun r H=>∃u,QR (.agg ⟨aT u⟩) h r H):=by
 obtain⟨x0,x1,x2,x3⟩:=x;obtain⟨y0,y1,y2,y3⟩:=hx;dsimp only at y0 y1 y2 y3;obtain⟨J0,hJ0,wJ0,fJ0,nJ0,a1,a2⟩:=U7 hw (B6 (APS (x0,x1,x2,x3)) 4 23 true) (B6 [i0,.string (O2 []),.string (O2 []),.string (O2 [])] 4 143 true);have hwb:=hw.base;have e1:=hV J0 (x1,x2) wJ0 y1 y2;obtain⟨J,hJ,wJ,f1,nJ,a3⟩:=O5 wJ0 [.string (O2 []),.string (O2 [])] (GL (valueOf (x1,x2))) 2 187;have fJ:=fJ0.trans f1 fun _ _ h=>h;have bJ:=fJ.base;have A1:J.at h.A6=some (B6 (APS (x0,x1,x2,x3)) 4 23 true):=by rw[f1.e _ (by omega)];exact a1
 have A2:J.at (h.A6+1)=some (B6 [i0,.string (O2 []),.string (O2 []),.string (O2 [])] 4 143 true):=by rw[f1.e _ (by omega)];exact a2
 unfold APS at hJ0 a1 A1 ⊢;unfold valueOf GL at e1 hJ a3;dsimp only at hJ0 a1 A1 e1 hJ a3 ⊢;have fin:∀(u:Ru) {tm:T A0},tm.get T1=some (C2 (h.A6+1) 0)→eW [CR.cell true 4 T1] (fun r H=>∃u,QR (.agg ⟨aT u⟩) h r H) Ex.ret tm [] (J.put (h.A6+1) (some (.row (C7 (aT u) 0 .nil fun t=>t) 4 143 true false))):=fun u {tm} ht=>by
  refine .ret ?_;have hlog:=((Ky.mk wJ fJ (by omega)).put (b:=h.A6+1) (by omega) (by omega) hw (some (.row (C7 (aT u) 0 .nil fun t=>t) 4 143 true false))).fr.log;cases u with
  | AQq a b=>unfold aT at hlog ⊢;simp(disch:=first | omega | (simp only[C6]<;>omega)) only[B0,ht];exact⟨.AQq a b,rfl,hlog⟩
  | put a b=>unfold aT at hlog ⊢;simp(disch:=first | omega | (simp only[C6]<;>omega)) only[B0,ht];exact⟨.put a b,rfl,hlog⟩
  | drop a=>unfold aT at hlog ⊢;simp(disch:=first | omega | (simp only[C6]<;>omega)) only[B0,ht];exact⟨.drop a,rfl,hlog⟩
 refine B5 rfl ?_;rcases AYz x0 with e|e|e
 · obtain⟨c,hc,e2⟩:=AVt x3 x1;have hcall:=fun n hn=>hC (B8 J J.A6 []) n (wJ.sb []) hn;by_cases hz:c%8=0
   ·have e3:W4 .u8 (.ofNat (x3+1))=.ofNat ((x3+1)%256):=QH _;have e4:=hcall ((x3+1)%256) (by omega);simp(disch:=first|omega|(simp only[C6]<;>omega)|exact⟨rfl,rfl,rfl⟩|assumption) only[↓CG,B0,reduceCtorEq,Nat.reduceAdd,hJ0,a1,e1,hJ,A1,A2,a3,e,e2,e3,e4];exact fin (.AQq x1 ((x3+1)%256)) (by simp[T.A9])
   ·have e4:=hcall x3 y3;simp(disch:=first|omega|(simp only[C6]<;>omega)|exact⟨rfl,rfl,rfl⟩|assumption) only[↓CG,B0,reduceCtorEq,Nat.reduceAdd,Nat.reduceMul,Nat.reduceSub,hJ0,a1,e1,hJ,A1,A2,a3,e,e2,e4,fJ0.n,fJ.n];exact fin (.AQq x1 x3) (by simp[T.A9])
 ·simp(disch:=first|omega|(simp only[C6]<;>omega)|exact⟨rfl,rfl,rfl⟩|assumption) only[B0,reduceCtorEq,Nat.reduceAdd,hJ0,a1,e1,hJ,A1,A2,a3,e];exact fin (.put x1 x2) (by simp[T.A9])
 ·simp(disch:=first|omega|(simp only[C6]<;>omega)|exact⟨rfl,rfl,rfl⟩|assumption) only[↓CG,B0,reduceCtorEq,Nat.reduceAdd,hJ0,a1,e1,hJ,A1,A2,a3,e];exact fin (.drop x1) (by simp[T.A9])
abbrev mz(A7:Call):Prop:=∀H x,Wf H→ALa x→∃u,A7 78 [.agg ⟨APS x⟩] H=.val (.agg ⟨aT u⟩) H
theorem dE(hN:Yq A7)(hT:Zu A7){u:Ru}(hw:Wf h):C0 (G8 RT A7 cd [.agg ⟨aT u⟩] h) (AVG h):=by
 obtain⟨J,hJ,wJ,fJ,nJ,a1⟩:=J7 hw (B6 (aT u) 4 143 true);have hwb:=hw.base;refine B5 rfl ?_;have e1:=fun n=>hN J (W2 n) (XS n);have e2:=fun n=>hT J (cj n) (fb n);have ee:PH ([]:List UInt8) []=true:=rfl;cases u with
 | AQq a b =>
  unfold aT at hJ a1 ⊢;cases hc:PH (bl (W2 a)) (bl (W2 b)) with
  | true =>
   simp(disch:=first|omega|(simp only[C6]<;>omega)) only[B0,reduceCtorEq,Nat.reduceAdd,hJ,a1,e1,hc];refine .ret ?_;simp only[B0];exact⟨_,rfl,fJ.log⟩
  | false =>
   simp(disch:=first|omega|(simp only[C6]<;>omega)) only[B0,reduceCtorEq,Nat.reduceAdd,hJ,a1,e1,hc,ee];refine .ret ?_;simp only[B0];exact⟨_,rfl,fJ.log⟩
 | put a v =>
  unfold aT at hJ a1 ⊢;simp(disch:=first|omega|(simp only[C6]<;>omega)) only[↓CG,B0,reduceCtorEq,Nat.reduceAdd,hJ,a1,e1,e2,ee];refine .ret ?_;simp only[B0];exact⟨_,rfl,fJ.log⟩
 | drop a =>
  unfold aT at hJ a1 ⊢;simp(disch:=first|omega|(simp only[C6]<;>omega)) only[↓CG,B0,reduceCtorEq,Nat.reduceAdd,hJ,a1,e1,ee];refine .ret ?_;simp only[B0];exact⟨_,rfl,fJ.log⟩
abbrev fU(A7:Call):Prop:=∀H u,Wf H→∃b,A7 165 [.agg ⟨aT u⟩] H=.val (.bool b) H
theorem Bd.AKm{v:A0}{l:List Pr}(hb:Bd 187 2 K Q H v l.length (YQ l)):Nq H v l:=by
 have hs:=hb.sl;obtain⟨⟨hl,h2,⟨h3,_⟩|⟨b,rfl,h4,h5,h6⟩⟩,w,f⟩:=hb
 ·constructor<;>grind
 ·exact⟨hs,fun c _ hc=>by rw[X3 hc];exact h5.cE⟩
def AaH(n:Nat)(h:Hp)(r:A0)(H:Hp):Prop:=(∃v l x,r=.tuple ⟨[v,.agg ⟨GL x⟩]⟩∧Ng H v l∧l.length≤n∧∀c,0<l.length→Ch v c→h.A6≤c∧c≠h.A6∧cE H c=187)∧Wf H∧Fr N5 h H
abbrev R23OutR(g:List A0→Hp→N3):Prop:=∀h v l nm,Wf h→Ng h v l→l.length≤1000→C0 (g [v,.string nm] h) (AaH l.length h)
theorem AA8:R23OutR (G8 zW A7 cd):=by
 intro h v l nm hw hv hl;have vl:=hv.len;obtain⟨J0,hJ0,wJ0,fJ0,nJ0,a1,a2⟩:=U7 hw (B6 [.string (O2 []),.string (O2 [])] 2 187 true) (B6 [] 0 187 true);obtain⟨J,hJ,wJ,f1,nJ,a3⟩:=O5 wJ0 [.string (O2 []),.string (O2 [])] [.string (O2 []),.string (O2 [])] 2 187;have hwb:=hw.base;have fJ:=fJ0.trans f1 fun _ _ h=>h;have bJ:=fJ.base;have hne:J0.new (B6 [.string (O2 []),.string (O2 [])] 2 187 true)=J0.new (B6 [.string (O2 []),.string (O2 [])] 2 187 true):=rfl;have A1:J.at h.A6=some (B6 [.string (O2 []),.string (O2 [])] 2 187 true):=by rw[f1.e _ (by omega)];exact a1
 refine B5 rfl ?_;simp(disch:=omega) only[B0,hJ0,hJ];refine D9.lp (P:=fun tm df H=>df=[]∧∃o out x,D0 tm [(U2,C2 h.A6 0),(Q8,o),(AL,C2 J0.A6 0)]∧Bd 187 2 J (fun k=>k=J0.A6) H o out.length (YQ out)∧out.length≤l.length∧H.at J0.A6=some (B6 (GL x) 2 187 true)) ?_ ?_
 · refine K6 (n:=l.length) (by omega) (fun i tm H=>∃o out x,D0 tm [([],v),(Q0,.string nm),(U2,C2 h.A6 0),(Q8,o),(AL,C2 J0.A6 0),(Cj,iN i)]∧Bd 187 2 J (fun k=>k=J0.A6) H o out.length (YQ out)∧out.length≤i∧H.at J0.A6=some (B6 (GL x) 2 187 true)) ?_ (fun i tm H hi hI=>?_) (fun tm H hI=>?_)
   ·exact⟨_,[],(O2 [],O2 []),by simp[D0,T.A9,Fy,PY];rfl,Bd.OX wJ (Fr.refl _ _),by simp,a3⟩
   · obtain⟨o,out,x,⟨t0,t1,t5,t6,t7,t8,-⟩,bd,hol,b7⟩:=hI;have nH:=bd.fr.A6;have bH:=bd.fr.base;have hvH:Ng H v l:=hv.K7 fun c h0 hc=>by
      have:=hv.lt hw h0 hc;rw[bd.fr.M5 _ (by omega) (by omega),fJ.e _ (by omega)]
     have vA:=hvH.A (by omega);have hx:=X0 hi;have g0:=Kd hx;have gl:=TC hx;generalize l[i]=y at *;unfold GL at gl b7;unfold Qh;cases hc:PH (bl y.1) (bl nm) with
     | true =>
      simp(disch:=first|omega|(simp only[C6]<;>omega)) only[B0,reduceCtorEq,t0,t1,t7,t8,vA,g0,gl,hc,b7];exact .go ⟨o,out,y,by simp[D0,T.A9,t0,t1,t5,t6,t7],bd.put wJ rfl (by omega) (by omega) _,by omega,by rw[K0];rfl⟩
     | false =>
      obtain⟨o',H4,e4,bd2⟩:=bd.yT wJ y (by omega);have b7':H4.at J0.A6=some (B6 (GL x) 2 187 true):=by obtain⟨v2,H2,e2,_,_,_,f2⟩:=(bd.step (bd.wf.new (B6 (GL y) 2 187 true)) (Fr.new _)).app wJ (y:=F8 H.A6 0 1 1) ⟨rfl,.inr ⟨_,_,_,rfl,by omega,O3 Dm (by simp[GL])⟩⟩ rfl (by omega) (by omega);rw[e4] at e2;injection e2 with _ e3;subst e3;rw[f2.M5 _ (by rw[Q6];omega) fun hq=>by have:=bd.out.S6 hq.1 hq.2;omega,CN (by omega)];exact b7
      unfold GL at e4;simp(disch:=omega) only[B0,reduceCtorEq,t0,t1,t6,t8,vA,g0,gl,hc,e4];exact .go ⟨o',_,x,by simp[D0,T.A9,t0,t1,t5,t7],bd2,by simp;omega,b7'⟩
   ·obtain⟨o,out,x,⟨t0,t1,t5,t6,t7,t8,-⟩,bd,hol,b7⟩:=hI;unfold Qh;simp(disch:=omega) only[B0,t0,t8,vl];exact .ex ⟨rfl,rfl,o,out,x,by simp[D0,T.A9,t5,t6,t7],bd,hol,b7⟩
 rintro tm df H ⟨rfl,o,out,x,⟨t5,t6,t7,-⟩,bd,hol,b7⟩;have nH:=bd.fr.A6;have bH:=bd.fr.base;have co:=bd.cell;have b5:H.at h.A6=some (B6 [.string (O2 []),.string (O2 [])] 2 187 true):=by rw[bd.fr.M5 _ (by omega) (by omega)];exact A1
 unfold GL at b7;simp(disch:=first|omega|(simp only[C6]<;>omega)|assumption) only[B0,t5,t6,t7,b5,b7];refine .ret ?_;simp(disch:=first|omega|(simp only[C6]<;>omega)) only[B0,t5];have hv':=bd.AKm;refine⟨⟨o,out,x,rfl,hv'.1.K7 fun c h0 hc=>E9 fun e=>?_,hol,fun c h0 hc=>?_⟩,bd.wf.put (by omega) _,?_⟩
 ·have:=bd.out.S6 h0 hc;omega
 ·have hb:=bd.out.S6 h0 hc;exact⟨by omega,by omega,by rw[Y9 (E9 (by omega))];exact hv'.2 c h0 hc⟩
 ·exact(fJ.trans bd.fr fun k hk e=>by omega).O6 _ (fun hk=>by omega) (by omega)
abbrev kx(A7:Call):Prop:=R23OutR (A7 163)
def AXf(n m:Nat)(vv kv:A0)(H:Hp):Prop:=∃l k,Nq H vv l∧Nq H kv k∧l.length≤n∧k.length≤m
def AUQ(n m:Nat)(h:Hp)(r:A0)(H:Hp):Prop:=(∃vv kv b,r=.tuple ⟨[.agg ⟨[iN 4,vv,kv]⟩,.bool b]⟩∧AXf n m vv kv H)∧Wf H∧Fr N5 h H
abbrev R23renameR(g:List A0→Hp→N3):Prop:=∀h vv kv l k s1 s2,Wf h→Nq h vv l→Nq h kv k→l.length≤100→C0 (g [.agg ⟨[iN 4,vv,kv]⟩,.agg ⟨[.string s1,.string s2]⟩] h) (AUQ (l.length+1) k.length h)
theorem wU(hF:Zr A7)(hO:kx A7)(hI:Ss A7):R23renameR (G8 aS A7 cd):=by
 intro h vv kv l k s1 s2 hw hv hk hl;have cvv:=hv.1.cell;have ckv:=hk.1.cell;obtain⟨J,hJ,wJ,fJ,nJ,a1,a2,a3⟩:=PB hw (B6 [iN 4,vv,kv] 3 57 true) (B6 [.string s1,.string s2] 2 259 true) (B6 [i0,B7,B7] 3 57 true);have hwb:=hw.base;have bJ:=fJ.base;have hvJ:=hv.fr hw fJ;have hkJ:=hk.fr hw fJ;have e1:=hF J vv l s1 wJ hvJ.1 (by omega);have e2:=hF J vv l s2 wJ hvJ.1 (by omega);obtain⟨r3,H1,e3,⟨ov,ol,x,rfl,ho,hol,hob⟩,w1,f1⟩:=(hO J vv l s1 wJ hvJ.1 (by omega)).get;obtain⟨H2,hH2,w2,f2,n2,c2⟩:=O5 w1 [.string (O2 []),.string (O2 [])] (GL x) 2 187;obtain⟨H3,hH3⟩:∃K,H2.put H1.A6 (some (.row (C7 [.string s2,.string x.2] 0 .nil fun t=>t) 2 187 true false))=K:=⟨_,rfl⟩
 have k3:Ky H1 H3 (H1.A6+1):=by rw[←hH3];exact(Ky.mk w2 f2 n2).put (by omega) (by omega) w1 _
 have c3:H3.at H1.A6=some (.row (C7 [.string s2,.string x.2] 0 .nil fun t=>t) 2 187 true false):=by rw[←hH3,K0]
 obtain⟨r4,H4,e4,⟨hi,hib⟩,w4,f4⟩:=(hI H3 ov ol (s2,x.2) k3.wf (ho.fr w1 k3.fr) (by omega)).get;have hlen:=zm (s2,x.2) ol;have fJ3:=f1.trans k3.fr fun _ _ h=>h;have fJ2:=f1.trans f2 fun _ _ h=>h;have fJ4:=fJ3.trans f4 fun _ _ h=>h;have m1:=f1.A6;have m4:=f4.A6;have m3:=k3.nx;have y1:=f1.base;have y3:=k3.fr.base;have y4:=f4.base;have cov:=ho.cell;have cr4:=hi.cell;have a14:H4.at h.A6=some (B6 [iN 4,vv,kv] 3 57 true):=by rw[fJ4.e _ (by omega)];exact a1
 have a34:H4.at (h.A6+1+1)=some (B6 [i0,B7,B7] 3 57 true):=by rw[fJ4.e _ (by omega)];exact a3
 have a22:H2.at (h.A6+1)=some (B6 [.string s1,.string s2] 2 259 true):=by rw[fJ2.e _ (by omega)];exact a2
 unfold GL at hH2 c2 e3 e4;dsimp only at e4;have hfalse:∀(tm:T A0),tm.get V1=some (C2 (h.A6+1+1) 0)→tm.get U2=some (.bool false)→eW [CR.cell true 3 V1,CR.tmp U2] (AUQ (l.length+1) k.length h) Ex.ret tm [] (J.put (h.A6+1+1) (some (.row (C7 [iN 4,vv,kv] 0 .nil fun t=>t) 3 57 true false))):=fun tm t4 t5=>by refine .ret ?_;simp(disch:=first|omega|(simp only[C6]<;>omega)) only[B0,t4,t5];have kZ:=(Ky.mk wJ fJ nJ).put (b:=h.A6+1+1) (by omega) (by omega) hw (some (.row (C7 [iN 4,vv,kv] 0 .nil fun t=>t) 3 57 true false));exact⟨⟨vv,kv,false,rfl,l,k,hvJ.put _ (by rw[M6 a3];decide),hkJ.put _ (by rw[M6 a3];decide),by omega,M8 _⟩,kZ.wf,kZ.fr⟩
 refine B5 rfl ?_;cases hb1:PG (findAt s1 l 0) (.ofNat 0) with
 | true =>
  simp(disch:=first|omega|(simp only[C6]<;>omega)) only[B0,reduceCtorEq,Nat.reduceAdd,hJ,a1,a2,a3,e1,hb1];exact hfalse _ (by simp[T.A9]) (by simp[T.A9])
 | false =>
  cases hb2:PG (findAt s2 l 0) (.ofNat 0) with
  | false =>
   simp(disch:=first|omega|(simp only[C6]<;>omega)) only[B0,reduceCtorEq,Nat.reduceAdd,hJ,a1,a2,a3,e1,hb1,e2,hb2];exact hfalse _ (by simp[T.A9]) (by simp[T.A9])
  | true =>
   simp(disch:=first|omega|(simp only[C6]<;>omega)|assumption) only[↓CG,B0,reduceCtorEq,Nat.reduceAdd,hJ,a1,a2,e1,hb1,e2,hb2,e3,hH2,c2,a22,hH3,c3,e4,a14,a34];refine .ret ?_;simp(disch:=first|omega|(simp only[C6]<;>omega)) only[B0,reduceCtorEq];have v4:=ARk.AKm ⟨hi,hib⟩;have k4:=hkJ.fr wJ fJ4;obtain⟨X,hX⟩:∃X,H4.put h.A6 (some (N2.row (C7 [iN 4,r4,kv] 0 T.nil fun t=>t) 3 57 true false))=X:=⟨_,rfl⟩
   have E1:cE H4 h.A6≠187:=by rw[M6 a14];decide
   have vX:Nq X r4 (ry (s2,x.2) ol):=by rw[←hX];exact v4.put _ E1
   have kX':Nq X kv k:=by rw[←hX];exact k4.put _ E1
   have E2:cE X (h.A6+1+1)≠187:=by rw[←hX,Y9 (E9 (by omega)),M6 a34];decide
   have kX:Ky h X H4.A6:=by rw[←hX];exact(Ky.mk w4 (fJ.trans fJ4 fun _ _ h=>h) rfl).put (by omega) (by omega) hw _
   rw[hX];have kZ:=kX.put (b:=h.A6+1+1) (by omega) (by omega) hw (some (.row (C7 [iN 4,r4,kv] 0 .nil fun t=>t) 3 57 true false));exact⟨⟨r4,kv,true,rfl,_,k,vX.put _ E2,kX'.put _ E2,by omega,M8 _⟩,kZ.wf,kZ.fr⟩
abbrev YC(A7:Call):Prop:=R23renameR (A7 162)
theorem ALn{e s:Nat}(hy:Sl s H y 0 vs):DJ e s (F8 b 0 0 0) y H=.val (F8 b 0 0 0) H:=by
 refine A7D (P:=fun _=>True) (vs:=[]) ⟨by simp,rfl,.inl ⟨rfl,.inl ⟨_,rfl⟩⟩⟩ (by omega) ?_;obtain⟨_,⟨_,rfl|⟨b,o,c,rfl⟩⟩|⟨b,o,c,rfl,h0,_⟩⟩:=hy
 ·exact .inl rfl
 ·exact .inr ⟨b,o,c,rfl⟩
 ·omega
theorem ACV{X:Hp}{k:Nat}{ws:List A0}(b:Nat)(hs:Sl 2 X x k ws)(h0:0<k)(hk:k≤100000):DJ E 2 (F8 b 0 0 0) x (B8 X X.A6 [])=.val (F8 X.A6 0 k (C4 2 k)) (B8 (X.new (B6 ws ws.length E false)) X.A6 []):=by obtain⟨yb,yo,yc,rfl,hhas⟩:=hs.pos h0;exact Jr (.inl ⟨b,rfl⟩) h0 hk (hhas.cells hs.1.symm)
theorem AMw{H2:Hp}(w2:Wf H2){k:List Pr}{x:Pr}(hk:Ng H2 kv k)(hl:k.length≤1000):∃H3,H2.new (B6 [] 0 187 true)=H3∧Wf H3∧Fr N5 H2 H3∧H3.A6=H2.A6+1∧∃v1 X,DJ 187 2 (F8 H2.A6 0 0 0) kv (B8 H3 H3.A6 [])=.val v1 (B8 X H3.A6 [])∧Cell v1∧Wf X∧Fr N5 H3 X∧∃Y,X.new (B6 (GL x) 2 187 true)=Y∧Wf Y∧Fr N5 X Y∧Y.A6=X.A6+1∧∃v2 Z Z',DJ 187 2 v1 (F8 X.A6 0 1 1) (B8 Y Y.A6 [])=.val v2 Z'∧B8 Z' Y.base Y.log=Z∧Z'.A6=Z.A6∧(Z'.log=[]∨Z'.log=[H2.A6]∨(Z'.log=[H3.A6]∧H3.A6<X.A6))∧Bd 187 2 H2 N5 Z v2 (k++[x]).length (YQ (k++[x]))∧Z.A6=Y.A6+1∧(∀c,c<H2.A6→Z'.at c=Y.at c):=by
 obtain⟨H3,hH3,w3,f3,n3,b3⟩:=J7 w2 (B6 [] 0 187 true);refine⟨H3,hH3,w3,f3,n3,?_⟩;have bb:=w2.base;have y3:=f3.base;rcases Br k.length with h0|h0
 ·have:=IU h0;subst this;have hs:Sl 2 (B8 H3 H3.A6 []) kv 0 (YQ []):=(hk.fr w2 f3).sb _ _;refine⟨_,H3,ALn hs,VO,w3,Fr.refl _ _,?_⟩;obtain⟨Y,hY,wY,fY,nY,bY⟩:=J7 w3 (B6 (GL x) 2 187 true);refine⟨Y,hY,wY,fY,nY,?_⟩;have bd:Bd 187 2 H2 N5 H3 (F8 H2.A6 0 0 0) 0 []:=Bd.OX w3 f3;obtain⟨v',Z,Z',e1,e2,e3,hlg,bd2,nZ,aZ,fZ⟩:=bd.AKa wY fY w2 (y:=F8 H3.A6 0 1 1) ⟨rfl,.inr ⟨_,_,_,rfl,by omega,O3 bY (by simp[GL])⟩⟩ rfl (by omega) (by omega);refine⟨v',Z,Z',e1,e2,e3,?_,bd2,nZ,aZ⟩;grind
 · have hs:Ng H3 kv k:=hk.fr w2 f3;obtain⟨X,hX,wX,fX,nX,bX⟩:=J7 w3 (B6 (YQ k) (YQ k).length 187 false);have e0:=ACV (E:=187) H2.A6 hs h0 (by omega);rw[hX] at e0;refine⟨_,X,e0,VO,wX,fX,?_⟩;obtain⟨Y,hY,wY,fY,nY,bY⟩:=J7 wX (B6 (GL x) 2 187 true);refine⟨Y,hY,wY,fY,nY,?_⟩;have bd:Bd 187 2 H2 N5 X (F8 H3.A6 0 k.length (C4 2 k.length)) k.length (YQ k):=⟨⟨AFT k,AFb k,.inr ⟨H3.A6,rfl,h0,by rw[←hX];exact Dy rfl,by omega⟩⟩,wX,f3.trans fX fun _ _ h=>h⟩
   obtain⟨v',Z,Z',e1,e2,e3,hlg,bd2,nZ,aZ,fZ⟩:=bd.AKa wY fY w2 (y:=F8 X.A6 0 1 1) ⟨rfl,.inr ⟨_,_,_,rfl,by omega,O3 bY (by simp[GL])⟩⟩ rfl (by omega) (by omega);refine⟨v',Z,Z',e1,e2,e3,?_,by rw[Bz,lE];exact bd2,nZ,aZ⟩;grind
theorem ACt{n:Nat}{b:Bool}(hw:Wf h)(wK:Wf K)(fK:Fr N5 h K)(nK:h.A6+3≤K.A6)(aK:K.at (h.A6+1+1)=some (B6 [i0,B7,B7] 3 57 true))(hs:AXf n m vv kv K)(t4:tm.get V1=some (C2 (h.A6+1+1) 0))(t5:tm.get U2=some (.bool b)):eW [CR.cell true 3 V1,CR.tmp U2] (AUQ n m h) Ex.ret tm [] (K.put (h.A6+1+1) (some (.row (C7 [iN 4,vv,kv] 0 .nil fun t=>t) 3 57 true false))):=by obtain⟨l',k',h1,h2,h3,h4⟩:=hs;have c1:=h1.1.cell;have c2:=h2.1.cell;have hwb:=hw.base;refine .ret ?_;simp(disch:=first|omega|(simp only[C6]<;>omega)) only[B0,t4,t5];have kZ:=(Ky.mk wK fK rfl).put (b:=h.A6+1+1) (by omega) (by omega) hw (some (.row (C7 [iN 4,vv,kv] 0 .nil fun t=>t) 3 57 true false));exact⟨⟨vv,kv,b,rfl,l',k',h1.put _ (by rw[M6 aK];decide),h2.put _ (by rw[M6 aK];decide),h3,h4⟩,kZ.wf,kZ.fr⟩
theorem AGP(hR:YC A7){l k:List Pr}(hw:Wf h)(hv:Nq h vv l)(hk:Nq h kv k)(hl:l.length≤100):C0 (G8 ah A7 cd [.agg ⟨[iN 4,vv,kv]⟩,.agg ⟨[iN 1,.string s1,.string s2,.string s3]⟩] h) (AUQ (l.length+1) (k.length+1) h):=by
 have cvv:=hv.1.cell;have ckv:=hk.1.cell;obtain⟨J,hJ,wJ,fJ,nJ,a1,a2,a3⟩:=PB hw (B6 [iN 4,vv,kv] 3 57 true) (B6 [iN 1,.string s1,.string s2,.string s3] 4 143 true) (B6 [i0,B7,B7] 3 57 true);have hwb:=hw.base;have bJ:=fJ.base;have hvJ:=hv.fr hw fJ;have hkJ:=hk.fr hw fJ;obtain⟨r1,H1,e1,⟨vv1,kv1,bb,rfl,hst⟩,w1,f1⟩:=(hR J vv kv l k s1 s2 wJ hvJ hkJ hl).get;obtain⟨l1,k1,g1,g2,g3,g4⟩:=id hst;have c1:=g1.1.cell;have c2:=g2.1.cell;have m1:=f1.A6;have y1:=f1.base;have a31:H1.at (h.A6+1+1)=some (B6 [i0,B7,B7] 3 57 true):=by rw[f1.e _ (by omega)];exact a3
 refine B5 rfl ?_;simp(disch:=first|omega|(simp only[C6]<;>omega)|exact⟨rfl,rfl,rfl⟩|assumption) only[B0,reduceCtorEq,Nat.reduceAdd,hJ,a1,a2,e1,a31];exact ACt (b:=bb) hw w1 (fJ.trans f1 fun _ _ h=>h) (by omega) a31 ⟨l1,k1,g1,g2,by omega,by omega⟩ (by simp[T.A9]) (by simp[T.A9])
theorem zj(hO:kx A7)(hI:Ss A7){l k:List Pr}{kd:Nat}(hkd:kd=2∨kd=3)(hw:Wf h)(hv:Nq h vv l)(hk:Nq h kv k)(hl:l.length≤100)(hkl:k.length≤100):C0 (G8 ah A7 cd [.agg ⟨[iN 4,vv,kv]⟩,.agg ⟨[iN kd,.string s1,.string s2,.string s3]⟩] h) (AUQ (l.length+1) (k.length+1) h):=by
 have cvv:=hv.1.cell;have ckv:=hk.1.cell;obtain⟨J,hJ,wJ,fJ,nJ,a1,a2,a3⟩:=PB hw (B6 [iN 4,vv,kv] 3 57 true) (B6 [iN kd,.string s1,.string s2,.string s3] 4 143 true) (B6 [i0,B7,B7] 3 57 true);have hwb:=hw.base;have bJ:=fJ.base;have hvJ:=hv.fr hw fJ;have hkJ:=hk.fr hw fJ;obtain⟨r3,H1,e1,⟨ov,ol,x,rfl,ho,hol,hob⟩,w1,f1⟩:=(hO J vv l s1 wJ hvJ.1 (by omega)).get;obtain⟨H2,hH2,w2,f2,n2,c2⟩:=O5 w1 [.string (O2 []),.string (O2 [])] (GL x) 2 187;have fJ2:=f1.trans f2 fun _ _ h=>h;have hk2:=hkJ.fr wJ fJ2;obtain⟨H3,hH3,w3,f3,n3,v1,X,e3,cv1,wX,fX,Y,hY,wY,fY,nY,v2,Z,Z',e4,e5,e6,hlg,bd,nZ,aZ⟩:=AMw w2 (x:=x) hk2.1 (by omega);have m1:=f1.A6;have m3:=f3.A6;have mX:=fX.A6;have y1:=f1.base;have y2:=f2.base;have y3:=f3.base;have yX:=fX.base;have yY:=fY.base;have yZ:=bd.fr.base;have cov:=ho.cell;have cv2:=bd.cell;have f2Y:=(f3.trans fX fun _ _ h=>h).trans fY fun _ _ h=>h;have aZH:∀c,c<H2.A6→Z.at c=H2.at c:=fun c hc=>by rw[bd.fr.e c hc]
 have A1:H2.at h.A6=some (B6 [iN 4,vv,kv] 3 57 true):=by rw[fJ2.e _ (by omega)];exact a1
 have A2:H2.at (h.A6+1)=some (B6 [iN kd,.string s1,.string s2,.string s3] 4 143 true):=by rw[fJ2.e _ (by omega)];exact a2
 have A3:H2.at (h.A6+1+1)=some (B6 [i0,B7,B7] 3 57 true):=by rw[fJ2.e _ (by omega)];exact a3
 have Z1:Z.at h.A6=some (B6 [iN 4,vv,kv] 3 57 true):=by rw[aZH _ (by omega)];exact A1
 have Z2:Z.at (h.A6+1)=some (B6 [iN kd,.string s1,.string s2,.string s3] 4 143 true):=by rw[aZH _ (by omega)];exact A2
 have Z3:Z.at (h.A6+1+1)=some (B6 [i0,B7,B7] 3 57 true):=by rw[aZH _ (by omega)];exact A3
 have z1':Z'.at h.A6=some (B6 [iN 4,vv,kv] 3 57 true):=by rw[aZ _ (by omega),f2Y.e _ (by omega)];exact A1
 have f2X:=f3.trans fX fun _ _ h=>h;have e5':B8 Z' X.base X.log=Z:=by rw[←e5,fY.base,fY.log]
 have e5q:B8 Z' H2.base H2.log=Z:=by rw[←e5,f2Y.base,f2Y.log]
 have e5h:B8 Z' h.base h.log=Z:=by rw[←e5q,fJ2.base,fJ2.log,fJ.base,fJ.log]
 unfold GL at hH2 c2 hY e1;have k31:H3.at h.A6=some (B6 [iN 4,vv,kv] 3 57 true):=by rw[f3.e _ (by omega)];exact A1
 have x7:X.at H1.A6=some (B6 [.string x.1,.string x.2] 2 187 true):=by rw[f2X.e _ (by omega)];exact c2
 have m1:comp YE 3 9=true:=rfl;have m2:comp YE 3 11=true:=rfl;have vo:=(Nq.fr (h:=H1) ⟨ho,fun c h0 hc=>(hob c h0 hc).2.2⟩ w1 (f2.trans (P:=N5) bd.fr fun _ _ h=>h))
 have vk:=bd.AKm;have hE1:cE Z h.A6≠187:=by rw[M6 Z1];decide
 obtain⟨Zp,hZp⟩:∃Zp,Z.put h.A6 (some (.row (C7 [iN 4,ov,v2] 0 .nil fun t=>t) 3 57 true false))=Zp:=⟨_,rfl⟩
 have vo':Nq Zp ov ol:=by rw[←hZp];exact vo.put _ hE1
 have vk':Nq Zp v2 (k++[x]):=by rw[←hZp];exact vk.put _ hE1
 have nZ2:=bd.fr.A6;have fhZ:=(fJ.trans (P:=N5) fJ2 fun _ _ h=>h).trans bd.fr fun _ _ h=>h;have kZ:Ky h Zp Z.A6:=by rw[←hZp];exact(Ky.mk bd.wf fhZ rfl).put (by omega) (by omega) hw _
 have p1:Zp.at h.A6=some (B6 [iN 4,ov,v2] 3 57 true):=by rw[←hZp,K0];rfl
 have p2:Zp.at (h.A6+1)=some (B6 [iN kd,.string s1,.string s2,.string s3] 4 143 true):=by rw[←hZp,E9 (by omega)];exact Z2
 have p3:Zp.at (h.A6+1+1)=some (B6 [i0,B7,B7] 3 57 true):=by rw[←hZp,E9 (by omega)];exact Z3
 have nzp:=kZ.nx;have hzs:B8 Zp Z.base Z.log=Zp:=by rw[←hZp];show B8 (Z.put h.A6 _) Z.base Z.log=_;rw[AFf (by omega)];rfl
 refine B5 rfl ?_;rcases hkd with rfl|rfl
 · obtain⟨r4,H4,e7,⟨hi,hib⟩,w4,f4⟩:=(hI Zp ov ol (s1,s3) kZ.wf vo'.1 (by omega)).get;have hlen:=zm (s1,s3) ol;have cr4:=hi.cell;have m4:=f4.A6;have y4:=f4.base;have yzp:=kZ.fr.base;have q1:H4.at h.A6=some (B6 [iN 4,ov,v2] 3 57 true):=by rw[f4.e _ (by omega)];exact p1
   have q3:H4.at (h.A6+1+1)=some (B6 [i0,B7,B7] 3 57 true):=by rw[f4.e _ (by omega)];exact p3
   unfold GL at e7;dsimp only at e7;have hE4:cE H4 h.A6≠187:=by rw[M6 q1];decide
   have kX:=(Ky.mk w4 (kZ.fr.trans f4 fun _ _ h=>h) rfl).put (b:=h.A6) (by omega) (by omega) hw (some (.row (C7 [iN 4,r4,v2] 0 .nil fun t=>t) 3 57 true false));have BT:AXf (l.length+1) (k.length+1) r4 v2 (H4.put h.A6 (some (.row (C7 [iN 4,r4,v2] 0 .nil fun t=>t) 3 57 true false))):=⟨_,_,(ARk.AKm ⟨hi,hib⟩).put _ hE4,(vk'.fr kZ.wf f4).put _ hE4,by omega,by simp⟩
   rcases hlg with hlg|hlg|⟨hlg,hb3⟩ <;>
   ·simp(disch:=first|omega|(simp only[C6]<;>omega)|exact⟨rfl,rfl,rfl⟩|assumption) only[↓CG,B0,reduceCtorEq,Nat.reduceAdd,Nat.reduceMul,Nat.reduceSub,hJ,a1,a2,a3,e1,hH2,hH3,k31,e3,x7,hY,e4,e5,e5',e5q,e5h,e6,hlg,z1',Z1,m1,m2,hZp,hzs,p1,p2,e7,q1,q3,fJ.n,f1.n,f2.n,fJ2.n,f3.n,fX.n,fY.n,f2X.n,f2Y.n,f4.n];refine ACt (b:=true) hw kX.wf kX.fr (by rw[zh];omega) (by rw[E9 (by omega)];exact q3) BT ?_ ?_<;>simp[T.A9]
 · rcases hlg with hlg|hlg|⟨hlg,hb3⟩ <;>
   ·simp(disch:=first|omega|(simp only[C6]<;>omega)|exact⟨rfl,rfl,rfl⟩|assumption) only[↓CG,B0,reduceCtorEq,Nat.reduceAdd,Nat.reduceMul,Nat.reduceSub,hJ,a1,a2,a3,e1,hH2,hH3,k31,e3,x7,hY,e4,e5,e5',e5q,e5h,e6,hlg,z1',Z1,m1,m2,hZp,hzs,p1,p2,p3,fJ.n,f1.n,f2.n,fJ2.n,f3.n,fX.n,fY.n,f2X.n,f2Y.n];exact ACt (b:=true) hw kZ.wf kZ.fr (by omega) p3 (⟨_,_,vo',vk',by omega,by simp⟩:AXf (l.length+1) (k.length+1) ov v2 Zp) (by simp[T.A9]) (by simp[T.A9])
abbrev R23doR(g:List A0→Hp→N3):Prop:=∀h vv kv l k u,Wf h→Nq h vv l→Nq h kv k→l.length≤100→k.length≤100→C0 (g [.agg ⟨[iN 4,vv,kv]⟩,.agg ⟨aT u⟩] h) (AUQ (l.length+1) (k.length+1) h)
theorem AGs(hR:YC A7)(hO:kx A7)(hI:Ss A7):R23doR (G8 ah A7 cd):=by
 intro h vv kv l k u hw hv hk hl hkl;cases u with
 | AQq a b=>exact AGP hR hw hv hk hl
 | put a v=>exact zj hO hI (.inl rfl) hw hv hk hl hkl
 | drop a=>exact zj hO hI (.inr rfl) hw hv hk hl hkl
def AUR(l:List Ru):List A0:=l.flatMap aT
def AUS(l:List Q4):List A0:=l.flatMap APS
theorem AKk{l:List Ru}{x:Ru}(h:l[i]?=some x):((AUR l).drop (i*4)).take 4=aT x:=A4P AFP h
theorem ATN{l:List Q4}{x:Q4}(h:l[i]?=some x):((AUS l).drop (i*4)).take 4=APS x:=A4P (f:=APS) (s:=4) (fun _=>rfl) h
theorem Nq.q{v:A0}{l:List Pr}(x:Nq H v l)(hw:Wf H){e:TypeId}(hb:cE H b=e)(he:e≠187)(f:Fr (fun k=>k=b) H K):Nq K v l:=by have k:=fun c h0 hc=>f.M5 c (x.1.lt hw h0 hc) fun e1=>he (by rw[←hb,←e1];exact x.2 c h0 hc);exact⟨x.1.K7 k,fun c h0 hc=>by rw[Y9 (k c h0 hc)];exact x.2 c h0 hc⟩
abbrev A3s(A7:Call):Prop:=R23doR (A7 77)
theorem A3K(hV:OV A7)(hIn:ANq A7)(hR:fU A7){rv:A0}{k:Ix}(hw:Wf h)(hs:Ng h sv (N4 k))(ho:GM k)(hk:k.length≤8)(hr:Sl 4 h rv us.length (AUR us))(hl:us.length≤3):C0 (G8 iF A7 cd [.agg ⟨[iN 4,sv,B7]⟩,rv,iN 5] h) (fun r H=>∃e,QR (iN e) h r H):=by
 obtain⟨J,hJ,wJ,fJ,nJ,a1⟩:=J7 hw (B6 [iN 4,sv,B7] 3 57 true);have hwb:=hw.base;have csv:=hs.cell;have rl:=hr.len;have hsJ:=hs.fr hw fJ;have hrJ:=hr.fr hw fJ;have e1:=hV J sv k wJ hsJ ho hk;refine B5 rfl ?_;simp(disch:=first|omega|(simp only[C6]<;>omega)) only[B0,reduceCtorEq,hJ,a1,e1,hIn];refine D9.A9C (P:=fun tm df H=>df=[]∧H=J) (R:=fun tm df H=>df=[]∧(∃e,tm.get Q8=some (iN e))∧H=J) ?_ ?_ ?_
 · refine K6 (n:=us.length) (by omega) (fun i tm H=>D0 tm [(Q0,rv),(AL,iN i)]∧H=J) ⟨by simp[D0,T.A9,Nj],rfl⟩ (fun i tm H hi hI=>?_) (fun tm H hI=>?_)
   · obtain⟨⟨t1,t7,-⟩,rfl⟩:=hI;have vA:=hrJ.A (by omega);have gl:=AKk (X0 hi);obtain⟨b,e2⟩:=hR H us[i] wJ;generalize us[i]=u at *;unfold Ki;cases u with
     | AQq x y =>
      unfold aT at gl e2;cases b with
      | true =>
       simp(disch:=omega) only[B0,reduceCtorEq,t1,t7,vA,gl,e2];exact .go ⟨by simp[D0,T.A9,t1],rfl⟩
      | false =>
       simp(disch:=omega) only[B0,reduceCtorEq,t1,t7,vA,gl,e2];exact .ret (.inr ⟨rfl,rfl,⟨230,by simp[T.A9]⟩,rfl⟩)
     | put x y =>
      unfold aT at gl e2;cases b with
      | true =>
       simp(disch:=omega) only[B0,reduceCtorEq,t1,t7,vA,gl,e2];exact .go ⟨by simp[D0,T.A9,t1],rfl⟩
      | false =>
       simp(disch:=omega) only[B0,reduceCtorEq,t1,t7,vA,gl,e2];exact .ret (.inr ⟨rfl,rfl,⟨230,by simp[T.A9]⟩,rfl⟩)
     | drop x =>
      unfold aT at gl e2;cases b with
      | true =>
       simp(disch:=omega) only[B0,reduceCtorEq,t1,t7,vA,gl,e2];exact .go ⟨by simp[D0,T.A9,t1],rfl⟩
      | false =>
       simp(disch:=omega) only[B0,reduceCtorEq,t1,t7,vA,gl,e2];exact .ret (.inr ⟨rfl,rfl,⟨230,by simp[T.A9]⟩,rfl⟩)
   ·obtain⟨⟨t1,t7,-⟩,rfl⟩:=hI;unfold Ki;simp(disch:=omega) only[B0,t1,t7,rl];exact .ex (.inl ⟨rfl,rfl,rfl⟩)
 ·rintro tm df H ⟨rfl,rfl⟩;simp only[B0];refine .ret ?_;simp only[B0];exact⟨0,rfl,fJ.log⟩
 ·rintro tm df H ⟨rfl,⟨e,t6⟩,rfl⟩;refine .ret ?_;simp only[B0,t6];exact⟨e,rfl,fJ.log⟩
abbrev eV(A7:Call):Prop:=∀H sv rv k us,Wf H→Ng H sv (N4 k)→GM k→k.length≤8→Sl 4 H rv us.length (AUR us)→us.length≤3→∃e,A7 79 [.agg ⟨[iN 4,sv,B7]⟩,rv,iN 5] H=.val (iN e) H
def AYe(h:Hp)(r:A0)(H:Hp):Prop:=(∃a vv kv e,r=.tuple ⟨[.agg ⟨[iN a,vv,kv]⟩,iN e]⟩∧Cell vv∧Cell kv)∧Wf H∧Fr N5 h H
abbrev R23finishR(g:List A0→Hp→N3):Prop:=∀h vv kv l k,Wf h→Ng h vv l→Ng h kv k→l.length≤16→k.length≤16→C0 (g [.agg ⟨[iN 4,vv,kv]⟩,iN 5] h) (AYe h)
theorem wZ:R23finishR (G8 bT A7 cd):=by intro h vv kv l k hw hv hk hl hkl;have cvv:=hv.cell;have ckv:=hk.cell;have vl:=hv.len;have kl:=hk.len;obtain⟨J,hJ,wJ,fJ,nJ,a1,a2⟩:=U7 hw (B6 [iN 4,vv,kv] 3 57 true) (B6 [i0,B7,B7] 3 57 true);have hwb:=hw.base;refine B5 rfl ?_;simp(disch:=first|omega|(simp only[C6]<;>omega)|assumption) only[B0,reduceCtorEq,Nat.reduceAdd,hJ,a1,a2,vl,kl];refine .ret ?_;simp(disch:=first|omega|(simp only[C6]<;>omega)) only[B0,reduceCtorEq];have k1:=((Ky.mk wJ fJ nJ).put (b:=h.A6) (by omega) (by omega) hw (some (.row (C7 [iN 5,vv,kv] 0 .nil fun t=>t) 3 57 true false))).put (b:=h.A6+1) (by omega) (by omega) hw (some (.row (C7 [iN 5,vv,kv] 0 .nil fun t=>t) 3 57 true false));exact⟨⟨5,vv,kv,0,rfl,cvv,ckv⟩,k1.wf,k1.fr⟩
abbrev qS(A7:Call):Prop:=R23finishR (A7 80)
def AYr(H:Hp)(v:A0)(us:List Ru):Prop:=Sl 4 H v us.length (AUR us)∧∀c,0<us.length→Ch v c→cE H c=143
theorem Bd.AZO{v:A0}(hb:Bd 143 4 K Q H v us.length (AUR us)):AYr H v us:=by
 have hs:=hb.sl;obtain⟨⟨hl,h2,⟨h3,_⟩|⟨b,rfl,h4,h5,h6⟩⟩,w,f⟩:=hb
 ·constructor<;>grind
 ·exact⟨hs,fun c _ hc=>by rw[X3 hc];exact h5.cE⟩
theorem Nq.AZF{v:A0}{l:List Pr}(x:Nq H v l)(hw:Wf H)(f:Fr P H K)(hp:∀c,c<H.A6→P c→cE H c≠187):Nq K v l:=by have k:=fun c h0 hc=>f.M5 c (x.1.lt hw h0 hc) fun e1=>hp c (x.1.lt hw h0 hc) e1 (x.2 c h0 hc);exact⟨x.1.K7 k,fun c h0 hc=>by rw[Y9 (k c h0 hc)];exact x.2 c h0 hc⟩
theorem A6c(hD:A3s A7){l k:List Pr}{u:Ru}(hw:Wf H)(hv:Nq H vv l)(hk:Nq H kv k)(hl:l.length≤100)(hkl:k.length≤100):∃vv1 kv1 b H1' H1,A7 77 [.agg ⟨[iN 4,vv,kv]⟩,.agg ⟨aT u⟩] (B8 H H.A6 [])=.val (.tuple ⟨[.agg ⟨[iN 4,vv1,kv1]⟩,.bool b]⟩) H1'∧H1'.log=[]∧B8 H1' H.base H.log=H1∧H1'.A6=H1.A6∧AXf (l.length+1) (k.length+1) vv1 kv1 H1∧Wf H1∧Fr N5 H H1:=by obtain⟨r1,H1',H1,e1,l1,s1,n1,⟨vv1,kv1,b,rfl,hst⟩,w1,f1⟩:=drawn hw (fun _ _ _ _ p=>p) (hD (B8 H H.A6 []) vv kv l k u (hw.sb []) hv hk hl hkl);grind
def AY3(h J:Hp)(i:Nat)(o:A0)(H:Hp):Prop:=∃vv kv l k us,H.at h.A6=some (B6 [iN 4,vv,kv] 3 57 true)∧Nq H vv l∧Nq H kv k∧l.length≤3+i∧k.length≤i∧Bd 143 4 J (fun k=>k=h.A6) H o us.length (AUR us)∧us.length≤i
abbrev R23FittingR(g:List A0→Hp→N3):Prop:=∀h sv xv l0 ws,Wf h→Nq h sv l0→l0.length≤3→Sl 4 h xv ws.length (AUS ws)→ws.length<9223372036854775808→(∀x∈ws,ALa x)→C0 (g [.agg ⟨[iN 4,sv,B7]⟩,xv,iN 3] h) (fun r H=>(∃us,AYr H r us∧us.length≤3∧∀c,0<us.length→Ch r c→h.A6≤c)∧Wf H∧Fr N5 h H)
theorem mh(hD:A3s A7)(hR:mz A7):R23FittingR (G8 WX A7 cd):=by
 intro h sv xv l0 ws hw hs hl0 hx hwl hok;obtain⟨J,hJ,wJ,fJ,nJ,a1,a2⟩:=U7 hw (B6 [iN 4,sv,B7] 3 57 true) (B6 [] 0 143 true);have hwb:=hw.base;have bJ:=fJ.base;have csv:=hs.1.cell;have xl:=hx.len;refine B5 rfl ?_;simp only[B0,hJ];refine D9.lp (P:=fun tm df H=>df=[]∧∃o,D0 tm [(AL,o)]∧AY3 h J 3 o H) ?_ ?_
 · refine K6 (n:=min ws.length 3) (by omega) (fun i tm H=>∃o,D0 tm [(Q0,xv),(T1,iN 3),(Q3,C2 h.A6 0),(AL,o),(Cj,iN i)]∧AY3 h J i o H) ?_ (fun i tm H hi hI=>?_) (fun tm H hI=>?_)
   ·exact⟨_,by simp[D0,T.A9,qE,Nj,Pa];rfl,sv,B7,l0,[],[],a1,hs.fr hw fJ,Nq.nil,by omega,by simp,Bd.OX wJ (Fr.refl _ _),by simp⟩
   · obtain⟨o,⟨t1,t2,t3,t7,t8,-⟩,vv,kv,l,k,us,b1,hv,hk,hl,hkl,bd,hus⟩:=hI;have nH:=bd.fr.A6;have bH:=bd.fr.base;have wH:=bd.wf;have cvv:=hv.1.cell;have ckv:=hk.1.cell;have hxH:=hx.K7 fun c h0 hc=>by
      have:=hx.lt hw h0 hc;rw[bd.fr.M5 _ (by omega) (by omega),fJ.e _ (by omega)]
     have hi2:i<ws.length:=by omega
     have xlt:=(hx.S (by omega)).A2z hw;have vA:=hxH.A (by omega);have gl:=ATN (X0 hi2);have hq:=hok _ (Dh hi2);generalize ws[i]=x at *;obtain⟨u,e0⟩:=hR (B8 H H.A6 []) x (wH.sb []) hq;obtain⟨vv1,kv1,b,H1',H1,e1,l1,s1,n1,⟨ll,kk,hv1,hk1,hll,hkk⟩,w1,f1⟩:=A6c hD (u:=u) wH hv hk (by omega) (by omega);obtain⟨H2,hH2,w2,f2,n2,c2⟩:=O5 w1 [i0,B7,B7] [iN 4,vv1,kv1] 3 57;have cv1:=hv1.1.cell;have ck1:=hk1.1.cell;have f12:=f1.trans f2 fun _ _ h=>h;have m1:=f1.A6;have y1:=f1.base;have y2:=f2.base;have b2:H2.at h.A6=some (B6 [iN 4,vv,kv] 3 57 true):=by rw[f12.e _ (by omega)];exact b1
     have bd2:=bd.step w2 f12;obtain⟨u2,e3⟩:=hR H2 x w2 hq;unfold APS at gl e0 e3;unfold HP;cases b with
     | false =>
      simp(disch:=first|omega|(simp only[C6]<;>omega)|assumption) only[↓CG,B0,t1,t2,t3,t8,b1,vA,gl,e0,e1,l1,s1,hH2,f1.n,f12.n];exact .go ⟨o,by simp[D0,T.A9,t1,t2,t3,t7],vv,kv,l,k,us,b2,hv.fr wH f12,hk.fr wH f12,by omega,by omega,bd2,by omega⟩
     | true =>
      obtain⟨o',H4,e4,bd4,k4,g4⟩:=Bd.ADp bd2 wJ AFP AOW u2 (by omega);have ty:∀c,c<H2.A6→(0<us.length∧Ch o c)→cE H2 c≠187:=fun c _ ⟨h0,hc⟩=>by rw[bd2.AZO.2 c h0 hc];decide
      have v4:=(hv1.fr w1 f2).AZF w2 g4 ty;have k4':=(hk1.fr w1 f2).AZF w2 g4 ty;have co:=bd4.cell;have co2:=bd.cell;have b4:H4.at h.A6=some (B6 [iN 4,vv,kv] 3 57 true):=by rw[k4 _ (by omega)];exact b2
      have c4:H4.at H1.A6=some (B6 [iN 4,vv1,kv1] 3 57 true):=by
       rw[g4.M5 _ (by omega) fun⟨h0,hc⟩=>by
        have:=bd.out.S6 h0 hc;obtain⟨_,_,⟨h6,_⟩|⟨b',h6,_,h7,_⟩⟩:=bd.out
        ·omega
        ·obtain⟨o1,l1,k1,hv⟩:=hc;rw[hv] at h6;cases h6;have:=h7.lt wH;omega]
       exact c2
      have m4:=bd4.fr.A6;have y4:=bd4.fr.base;have hru:∃r4,r4=aT u2:=⟨_,rfl⟩
      cases u2 with
      | AQq p q =>
       unfold aT at e3 e4;simp(disch:=first|omega|(simp only[C6]<;>omega)|exact⟨rfl,rfl,rfl⟩|assumption) only[↓CG,B0,reduceCtorEq,Nat.reduceAdd,Nat.reduceMul,Nat.reduceSub,t1,t2,t3,t7,t8,xl,b1,vA,gl,e0,e1,l1,s1,n1,hH2,e3,e4,c4,b4,f12.e,f1.n,f2.n,f12.n];exact .go ⟨o',by simp[D0,T.A9,t1,t2,t3],vv1,kv1,ll,kk,_,by rw[K0];rfl,v4.put _ (by rw[M6 b4];decide),k4'.put _ (by rw[M6 b4];decide),by omega,by omega,bd4.put wJ rfl (by omega) (by omega) _,by simp;omega⟩
      | put p q =>
       unfold aT at e3 e4;simp(disch:=first|omega|(simp only[C6]<;>omega)|exact⟨rfl,rfl,rfl⟩|assumption) only[↓CG,B0,reduceCtorEq,Nat.reduceAdd,Nat.reduceMul,Nat.reduceSub,t1,t2,t3,t7,t8,xl,b1,vA,gl,e0,e1,l1,s1,n1,hH2,e3,e4,c4,b4,f12.e,f1.n,f2.n,f12.n];exact .go ⟨o',by simp[D0,T.A9,t1,t2,t3],vv1,kv1,ll,kk,_,by rw[K0];rfl,v4.put _ (by rw[M6 b4];decide),k4'.put _ (by rw[M6 b4];decide),by omega,by omega,bd4.put wJ rfl (by omega) (by omega) _,by simp;omega⟩
      | drop p =>
       unfold aT at e3 e4;simp(disch:=first|omega|(simp only[C6]<;>omega)|exact⟨rfl,rfl,rfl⟩|assumption) only[↓CG,B0,reduceCtorEq,Nat.reduceAdd,Nat.reduceMul,Nat.reduceSub,t1,t2,t3,t7,t8,xl,b1,vA,gl,e0,e1,l1,s1,n1,hH2,e3,e4,c4,b4,f12.e,f1.n,f2.n,f12.n];exact .go ⟨o',by simp[D0,T.A9,t1,t2,t3],vv1,kv1,ll,kk,_,by rw[K0];rfl,v4.put _ (by rw[M6 b4];decide),k4'.put _ (by rw[M6 b4];decide),by omega,by omega,bd4.put wJ rfl (by omega) (by omega) _,by simp;omega⟩
   · obtain⟨o,⟨t1,t2,t3,t7,t8,-⟩,vv,kv,l,k,us,b1,hv,hk,hl,hkl,bd,hus⟩:=hI;unfold HP;have hP:AY3 h J 3 o H:=⟨vv,kv,l,k,us,b1,hv,hk,by omega,by omega,bd,by omega⟩
     rcases DX 3 ws.length with h3|h3
     ·rw[show min ws.length 3=3 by omega] at t8;simp(disch:=omega) only[B0,t1,t2,t8,xl];exact .ex ⟨rfl,rfl,o,by simp[D0,T.A9,t7],hP⟩
     ·rw[show min ws.length 3=ws.length by omega] at t8;simp(disch:=omega) only[B0,t1,t8,xl];exact .ex ⟨rfl,rfl,o,by simp[D0,T.A9,t7],hP⟩
 rintro tm df H ⟨rfl,o,⟨t7,-⟩,vv,kv,l,k,us,b1,hv,hk,hl,hkl,bd,hus⟩;simp only[B0,t7];refine .ret ?_;simp only[B0];exact⟨⟨us,bd.AZO,hus,fun c h0 hc=>by have:=bd.out.S6 h0 hc;omega⟩,bd.wf,fJ.trans bd.fr fun k hk e=>by omega⟩
abbrev gj(A7:Call):Prop:=R23FittingR (A7 26)
def AYy(h J:Hp)(i:Nat)(H:Hp):Prop:=∃vv kv l k,H.at h.A6=some (B6 [iN 4,vv,kv] 3 57 true)∧Nq H vv l∧Nq H kv k∧l.length≤3+i∧k.length≤i∧Wf H∧Fr (fun k=>k=h.A6) J H
theorem ABH{J:Hp}{a e:Nat}(hw:Wf h)(fJ:Fr N5 h J)(nJ:J.A6=h.A6+2)(wK:Wf K)(fK:Fr (fun k=>k=h.A6) J K)(cv:Cell vv)(ck:Cell kv)(t6:tm.get Q8=some (C2 (h.A6+1) 0))(t7:tm.get AL=some (iN e)):eW [CR.cell true 3 Q8,CR.tmp AL] (AYe h) Ex.ret tm [] (K.put (h.A6+1) (some (.row (C7 [iN a,vv,kv] 0 .nil fun t=>t) 3 57 true false))):=by have hwb:=hw.base;have bJ:=fJ.base;have nK:=fK.A6;refine .ret ?_;simp(disch:=first|omega|(simp only[C6]<;>omega)) only[B0,t6,t7];refine⟨⟨a,vv,kv,e,rfl,cv,ck⟩,wK.put (by omega) _,?_⟩;exact(fJ.trans fK fun k hk e=>by omega).O6 _ (fun h=>by omega) (by omega)
abbrev R23ForwardR(g:List A0→Hp→N3):Prop:=∀h sv rv k0 us,Wf h→Nq h sv (N4 k0)→GM k0→k0.length≤3→AYr h rv us→us.length≤3→C0 (g [.agg ⟨[iN 4,sv,B7]⟩,rv,iN 5] h) (AYe h)
theorem mQ(hD:A3s A7)(hC:eV A7)(hFi:qS A7):R23ForwardR (G8 Wd A7 cd):=by
 intro h sv rv k0 us hw hs ho hk0 hr hl;obtain⟨J,hJ,wJ,fJ,nJ,a1,a2⟩:=U7 hw (B6 [iN 4,sv,B7] 3 57 true) (B6 [i0,B7,B7] 3 57 true);have hwb:=hw.base;have bJ:=fJ.base;have csv:=hs.1.cell;have rl:=hr.1.len;obtain⟨e0,h0⟩:=hC J sv rv k0 us wJ (hs.1.fr hw fJ) ho (by omega) (hr.1.fr hw fJ) hl;refine B5 rfl ?_;by_cases hz:e0=0
 rotate_left
 ·simp(disch:=first|omega|(simp only[C6]<;>omega)) only[B0,reduceCtorEq,hJ,a1,a2,h0];exact ABH (e:=e0) hw fJ nJ wJ (Fr.refl _ _) DF DF (by simp[T.A9]) (by simp[T.A9])
 subst hz;simp(disch:=first|omega|(simp only[C6]<;>omega)) only[B0,reduceCtorEq,hJ,a1,h0];refine D9.A9C (P:=fun tm df H=>df=[]∧D0 tm [(T1,iN 5),(Q3,C2 h.A6 0),(Q8,C2 (h.A6+1) 0)]∧AYy h J 3 H) (R:=fun tm df H=>df=[]∧∃K,D0 tm [(Q8,C2 (h.A6+1) 0),(AL,iN 231)]∧Wf K∧Fr (fun k=>k=h.A6) J K∧H=K.put (h.A6+1) (some (.row (C7 [i0,B7,B7] 0 .nil fun t=>t) 3 57 true false))) ?_ ?_ ?_
 · refine K6 (n:=us.length) (by omega) (fun i tm H=>D0 tm [(Q0,rv),(T1,iN 5),(Q3,C2 h.A6 0),(Q8,C2 (h.A6+1) 0),(DZ,iN i)]∧AYy h J i H) ?_ (fun i tm H hi hI=>?_) (fun tm H hI=>?_)
   ·exact⟨by simp[D0,T.A9,Nj,Pa],sv,B7,N4 k0,[],a1,hs.fr hw fJ,Nq.nil,by rw[O1];omega,by simp,wJ,Fr.refl _ _⟩
   · obtain⟨⟨t1,t2,t3,t6,t9,-⟩,vv,kv,l,k,b1,hv,hk,hll,hkl,wH,fH⟩:=hI;have nH:=fH.A6;have bH:=fH.base;have cvv:=hv.1.cell;have ckv:=hk.1.cell;have hrH:=hr.1.K7 fun c h0 hc=>by
      have:=hr.1.lt hw h0 hc;rw[fH.M5 _ (by omega) (by omega),fJ.e _ (by omega)]
     have vA:=hrH.A (by omega);have rlt:=(hr.1.S (by omega)).A2z hw;have gl:=AKk (X0 hi);generalize us[i]=u at *;obtain⟨vv1,kv1,b,H1',H1,e1,l1,s1,n1,hst,w1,f1⟩:=A6c hD (u:=u) wH hv hk (by omega) (by omega);obtain⟨ll,kk,hv1,hk1,hll1,hkk1⟩:=id hst;obtain⟨H2,hH2,w2,f2,n2,c2⟩:=O5 w1 [i0,B7,B7] [iN 4,vv1,kv1] 3 57;have cv1:=hv1.1.cell;have ck1:=hk1.1.cell;have f12:=f1.trans f2 fun _ _ h=>h;have m1:=f1.A6;have y1:=f1.base;have y2:=f2.base;have fH2:=fH.trans f12 fun _ _ h=>h.elim;have b2:H2.at h.A6=some (B6 [iN 4,vv,kv] 3 57 true):=by rw[f12.e _ (by omega)];exact b1
     have b6:H2.at (h.A6+1)=some (B6 [i0,B7,B7] 3 57 true):=by rw[fH2.M5 _ (by omega) (by omega)];exact a2
     unfold Gz;have go:∀tm:T A0,tm.get Q0=some rv→tm.get T1=some (iN 5)→tm.get Q3=some (C2 h.A6 0)→tm.get Q8=some (C2 (h.A6+1) 0)→tm.get DZ=some (iN (i+1))→D0 tm [(Q0,rv),(T1,iN 5),(Q3,C2 h.A6 0),(Q8,C2 (h.A6+1) 0),(DZ,iN (i+1))]∧AYy h J (i+1) (H2.put h.A6 (some (.row (C7 [iN 4,vv1,kv1] 0 .nil fun t=>t) 3 57 true false))):=fun tm p1 p2 p3 p4 p5=>⟨⟨p1,p2,p3,p4,p5,trivial⟩,vv1,kv1,ll,kk,by rw[K0];rfl,(hv1.fr w1 f2).put _ (by rw[M6 b2];decide),(hk1.fr w1 f2).put _ (by rw[M6 b2];decide),by omega,by omega,w2.put (by omega) _,fH2.O6 _ (fun _=>rfl) (by omega)⟩
     cases b with
     | false =>
      cases u <;>
      ·unfold aT at gl e1;simp(disch:=first|omega|(simp only[C6]<;>omega)|assumption) only[B0,reduceCtorEq,t1,t3,t6,t9,b1,vA,gl,e1,l1,s1,hH2,b6,f1.n,f12.n];exact .ret (.inr ⟨rfl,rfl,H2,by simp[D0,T.A9,t6],w2,fH2,rfl⟩)
     | true =>
      cases u <;>
      ·unfold aT at gl e1;simp(disch:=first|omega|(simp only[C6]<;>omega)|assumption) only[↓CG,B0,reduceCtorEq,t1,t3,t9,b1,vA,gl,e1,l1,s1,hH2,c2,b2,f1.n,f12.n];exact .go (go _ (by simp[T.A9,t1]) (by simp[T.A9,t2]) (by simp[T.A9,t3]) (by simp[T.A9,t6]) (by simp[T.A9]))
   ·obtain⟨⟨t1,t2,t3,t6,t9,-⟩,vv,kv,l,k,b1,hv,hk,hll,hkl,wH,fH⟩:=hI;unfold Gz;simp(disch:=omega) only[B0,t1,t9,rl];exact .ex (.inl ⟨rfl,rfl,by simp[D0,T.A9,t2,t3,t6],vv,kv,l,k,b1,hv,hk,by omega,by omega,wH,fH⟩)
 · rintro tm df H ⟨rfl,⟨t2,t3,t6,-⟩,vv,kv,l,k,b1,hv,hk,hll,hkl,wH,fH⟩;have nH:=fH.A6;have bH:=fH.base;have cvv:=hv.1.cell;have ckv:=hk.1.cell;obtain⟨r,K,e1,⟨a,vv1,kv1,e,rfl,c1,c2⟩,wK,fK⟩:=(hFi H vv kv l k wH hv.1 hk.1 (by omega) (by omega)).get;have fHK:=fH.trans fK fun _ _ h=>h.elim;have b2:K.at (h.A6+1)=some (B6 [i0,B7,B7] 3 57 true):=by rw[fHK.M5 _ (by omega) (by omega)];exact a2
   simp(disch:=first|omega|(simp only[C6]<;>omega)) only[B0,t2,t3,t6,b1,e1,b2];exact ABH (e:=e) hw fJ nJ wK fHK c1 c2 (by simp[T.A9,t6]) (by simp[T.A9])
 ·rintro tm df H ⟨rfl,K,⟨t6,t7,-⟩,wK,fK,rfl⟩;exact ABH hw fJ nJ wK fK DF DF t6 t7
abbrev jk(A7:Call):Prop:=R23ForwardR (A7 27)
def A8y(v w:A0):Option A0:=Ii 1 (.val v) (some (.val w)) none none [] .nil
theorem AS0(x y:OD)(lo:List A0)(tm:T A0):Ii 1 x (some y) none none lo tm=A8y (G4 x lo tm) (G4 y lo tm):=rfl
theorem TS{k o l:Nat}(hk:k≤l)(hc:c<R8)(hkc:k<c):A8y (F8 b o l c) (iN k)=some (F8 b (o+k) (l-k) (c-k)):=by have:=PL (b:=b) (o:=o) hk hc;rw[if_neg (by omega)] at this;exact this
theorem PN{o l hi:Nat}(h1:hi≤c)(hc:c<R8):ACo (F8 b o l c) (.int .i64 (.ofNat hi))=some (if c=0 then F8 b o 0 0 else F8 b o hi c):=by
 have e1:T6 c=false:=GD hc;have e2:sure c=c:=by unfold sure;rw[e1];rfl
 have e:ACo (F8 b o l c) (.int .i64 (.ofNat hi))=m9 (some (.val (.int .i64 (.ofNat hi)))) [] .nil l (sure c) (fun hi=>m9 none [] .nil 0 hi (fun lw=>bif T6 c then dM b o 1 lw hi c else Jn b o 1 lw hi c) none) none:=rfl;rw[e,IY,AIK,Iq,e2,W8 h1,cond_true,Tu,e1,cond_false];unfold Jn;rcases Br c with rfl|h0
 ·rw[Dg,cond_true,if_pos rfl]
 ·rw[U4 (by omega),cond_false,if_neg (by omega)];unfold Rd;rw[C1,C1,C1];show some (F8 b (o+0*1) (hi-0) (c-0))=_;rw[UM,A9i,EC,EC]
def AYE(v w x:A0):Option A0:=Ii 1 (.val v) none (some (.val w)) (some (.val x)) [] .nil
theorem AW0(x y z:OD)(lo:List A0)(tm:T A0):Ii 1 x none (some y) (some z) lo tm=AYE (G4 x lo tm) (G4 y lo tm) (G4 z lo tm):=rfl
theorem AJo{n:Nat}(h0:0<n)(hn:n<1000000):AYE (F8 b 0 n (C4 1 n)) (iN n) (iN n)=some (F8 b 0 n n):=by
 obtain⟨s1,s2,s3⟩:=Hf 1 n (by unfold R8;omega);generalize C4 1 n=k at *;have e:AYE (F8 b 0 n k) (iN n) (iN n)=bif T6 k&&Nat.beq (sure k) 0 then none else m9 (some (.val (iN n))) [] .nil 0 (sure k) (fun m=>m9 (some (.val (iN n))) [] .nil 0 m (fun hi=>m9 none [] .nil 0 hi (fun lw=>Jn b 0 1 lw hi m) none) none) none:=rfl
 rw[e,s1,U4 (by omega),Bool.and_false,cond_false,IY,AIK,Iq,W8 (M8 _),cond_true,IY,AIK,Iq,W8 (M8 _),cond_true,Tu];unfold Jn;rw[U4 (by omega),cond_false];unfold Rd;rw[C1,C1,C1];rfl
def AWv(e:TypeId)(v:A0)(h:Hp):N3:=tJ e (.val v) (fun _ _ _=>.none) [] .nil h
theorem AS8(e:TypeId)(x:OD)(A7:Call)(lo:List A0)(tm:T A0)(h:Hp):tJ e x A7 lo tm h=AWv e (G4 x lo tm) h:=rfl
theorem AMS{e n:Nat}(hn:n≤16777216):AWv e (iN n) h=.val (F8 h.A6 0 n (C4 1 n)) (h.new (.row .nil n e false false)):=by show(bif Nat.ble n 16777216 then h.SB (.row .nil n e false false) fun b h=>C8 n fun n=>C8 (C4 1 n) fun c=>N3.val (F8 b 0 n c) h else .none)=_;rw[W8 hn,cond_true,Hp.DM,C1,C1]
def AWt(v:A0):Option A0:=A5Q (.val v) [] .nil
theorem ATC(x:OD)(lo:List A0)(tm:T A0):A5Q x lo tm=AWt (G4 x lo tm):=rfl
theorem AUD{a:Nat}(h:a<256):AWt (bN a)=some (bN (255-a)):=by show(bif Nat.blt a 256 then AD .u8 (Nat.sub (Nat.sub 256 1) a) else none)=_;rw[BW h,cond_true,Aa];rfl
def Vh:=L0 @AD8<|L0 @AA3<|L0 @AR6<|L0 @AV4<|L0 @AS0<|L0 @AW0<|L0 @AS8<|@ATC
theorem A6H(hw:Wf h)(hf:DT h f dv wv ev)(hok:f.Ok):C0 (G8 oy A7 cd [.agg ⟨N9 f dv wv ev⟩] h) (QR (.bool true) h):=by
 obtain⟨J,hJ,wJ,fJ,nJ,a1⟩:=J7 hw (B6 (N9 f dv wv ev) 5 39 true);have hwb:=hw.base;obtain⟨q1,q2,q3,q4,q5,q6,q7,q8,q9,q10⟩:=hok;obtain⟨ds,dsl,dsv,dsr⟩:=hf.data.fr hw fJ;have dl:=dsv.len;have wl:=(hf.I0.fr hw fJ).len;have el:=(hf.dead.fr hw fJ).len;have dA:=dsv.A (by omega);have wA:=(hf.I0.fr hw fJ).A (by omega);unfold N9 at hJ a1 ⊢;refine B5 rfl ?_;simp(disch:=first|omega|(simp only[C6]<;>omega)) only[B0,reduceCtorEq,Nat.reduceAdd,hJ,a1,dl,wl,el];refine D9.lp (P:=fun tm df H=>df=[]∧H=J) ?_ ?_
 · refine K6 (n:=f.data.length) (by omega) (fun i tm H=>D0 tm [(Q0,C2 h.A6 0),([false,false,true,true,false],dv),([true,true,false,true,false],iN f.data.length),([false,true,false,true,false],iN i)]∧H=J) ⟨by simp[D0,T.A9],rfl⟩ (fun i tm H hi hI=>?_) (fun tm H hI=>?_)
   ·obtain⟨⟨t1,t50,t51,t52,-⟩,rfl⟩:=hI;obtain⟨w,hw1,hw2⟩:=dsr i _ (X0 hi);have hs:=(q9 _ (Dh hi)).1;rw[hs] at hw2;have w2:=hw2.len;have hwr:=q10 _ (Dh (show i<f.I0.length by omega));unfold NT;simp(disch:=first|omega|(simp only[C6]<;>omega)) only[B0,reduceCtorEq,Nat.reduceAdd,t1,t50,t51,t52,a1,dA,hw1,w2,wA,O7 (X0 (show i<f.I0.length by omega))];exact .go ⟨by simp[D0,T.A9,t1,t50,t51],rfl⟩
   ·obtain⟨⟨t1,t50,t51,t52,-⟩,rfl⟩:=hI;unfold NT;simp(disch:=omega) only[B0,t51,t52];exact .ex ⟨rfl,rfl,rfl⟩
 rintro tm df H ⟨rfl,rfl⟩;simp only[B0];refine .ret ?_;simp only[B0];exact⟨rfl,fJ.log⟩
abbrev pX(A7:Call):Prop:=∀H f dv wv ev,Wf H→DT H f dv wv ev→f.Ok→A7 87 [.agg ⟨N9 f dv wv ev⟩] H=.val (.bool true) H
theorem AGr{n a:Nat}(hw:Wf h)(hf:DT h f dv wv ev)(hok:f.Ok)(h38:38≤f.size)(hly:TW h n a b c sv uv tv)(hn:n+1<f.data.length):C0 (G8 A8G A7 cd [.agg ⟨N9 f dv wv ev⟩,.agg ⟨AX n sv uv tv⟩] h) (QR (.bool true) h):=by
 obtain⟨q1,q2,q3,q4,q5,q6,q7,q8,q9,q10⟩:=id hok;obtain⟨J,hJ,wJ,fJ,nJ,a1,a2⟩:=U7 hw (B6 (N9 f dv wv ev) 5 39 true) (B6 (AX n sv uv tv) 8 42 true);have hwb:=hw.base;obtain⟨ds,hds,hs,_⟩:=hf.data;have dl:=hs.len;have hmin:min n (n+1)=n:=by omega
 have hmax:max n (n+1)=n+1:=by omega
 unfold N9 AX at hJ;unfold N9 at a1;unfold AX at a2;refine B5 rfl ?_;unfold N9 AX;simp(disch:=first|omega|(simp only[C6]<;>omega)) only[B0,reduceCtorEq,Nat.reduceAdd,hJ,a1,a2,dl];refine .ret ?_;simp only[B0];exact⟨rfl,fJ.log⟩
abbrev A2r(A7:Call):Prop:=∀h f dv wv ev sv uv tv n a b c,Wf h→DT h f dv wv ev→f.Ok→38≤f.size→TW h n a b c sv uv tv→n+1<f.data.length→A7 99 [.agg ⟨N9 f dv wv ev⟩,.agg ⟨AX n sv uv tv⟩] h=.val (.bool true) h
abbrev uN(n:Nat):A0:=.int .u64 (.ofNat n)
abbrev ASc(A7:Call):Prop:=∀H n,n<100000→A7 193 [uN 1,uN n] H=.val (.tuple ⟨[uN 0,uN n]⟩) H
theorem ACz(k:Nat):M4 (List.replicate k 255)=List.replicate k (bN 255):=by
 induction k with
 | zero=>rfl
 | succ k ih=>rw[List.replicate_succ,List.replicate_succ,←ih];rfl
abbrev BRepeatR(g:List A0→Hp→N3):Prop:=∀h v n,Wf h→Sl 1 h v 1 (M4 [255])→0<n→n≤5000→C0 (g [v,iN n] h) (APt n h)
theorem A57(hM:ASc A7):BRepeatR (G8 tu A7 cd):=by
 intro h v n hw hv h0 hn;have vl:=hv.len;have hwb:=hw.base;obtain⟨J,hJ,wJ,fJ,nJ,a1⟩:=J7 hw (.row .nil n 5 false false);have e1:=AMS (e:=5) (h:=h) (n:=n) (by omega);have e2:=AJo (b:=h.A6) h0 (by omega);have e3:=VQ (hv.fr hw fJ) rfl a1 (o:=0) (n:=n) (cc:=n) (k:=1) (by omega) (by omega) (by omega);refine B5 rfl ?_;simp(disch:=omega) only[B0,reduceCtorEq,Vh,vl,hM,e1,hJ,e2,e3];refine D9.lp (P:=fun tm df H=>df=[]∧D0 tm [(DZ,F8 h.A6 0 n n)]∧Ky h H (h.A6+1)∧∃c,H.at h.A6=some (.row c n 5 false false)∧∀j,j<n→c.get (path j)=some (bN 255)) ?_ ?_
 · refine K6 (n:=n) (by omega) (fun i tm H=>∃bp,i+1≤bp∧bp≤n∧D0 tm [(AL,iN n),(Cj,iN n),(DZ,F8 h.A6 0 n n),(MC,iN bp)]∧Ky h H (h.A6+1)∧∃c,H.at h.A6=some (.row c n 5 false false)∧∀j,j<bp→c.get (path j)=some (bN 255)) ?_ (fun i tm H hi hI=>?_) (fun tm H hI=>?_)
   ·exact⟨1,by omega,by omega,by simp[D0,T.A9],(Ky.mk wJ fJ nJ).put (by omega) (by omega) hw _,_,K0,fun j hj=>by rw[show j=0 by omega];rfl⟩
   · obtain⟨bp,hb1,hb2,⟨t7,t8,t9,t10,-⟩,kH,c,hat,hc⟩:=hI;unfold WQ;rcases DX bp n with hlt|hge
     · obtain⟨ch,hch⟩:∃ch,min (n-bp) bp=ch:=⟨_,rfl⟩
       have g1:=TS (b:=h.A6) (o:=0) hb2 (by unfold R8;omega) hlt;have g2:=PN (b:=h.A6) (o:=0) (l:=n) hb2 (by unfold R8;omega);rw[if_neg (by omega)] at g2;have hsl:Sl 1 H (F8 h.A6 0 bp n) bp (M4 (List.replicate bp 255)):=⟨by rw[O4,Ad,jH],.inr ⟨_,_,_,rfl,by omega,_,_,_,_,_,hat,by rw[O4,Ad];omega,fun k hk=>by rw[O4,Ad] at hk;rw[ACz,ZH,if_pos hk,Ag];exact hc k hk⟩⟩
       have hbase:=kH.fr.base;have hnx:=kH.nx;have g3:=VQ (hsl.sb (a:=H.A6) (l:=[])) (by rw[ACz];exact zM fun v hv=>by rw[(A5B.1 hv).2];exact U6) (o:=0+bp) (n:=n-bp) (cc:=n-bp) hat rfl (by omega) (by omega);have hmn:min bp n=bp:=by omega
       simp(disch:=omega) only[B0,Vh,t7,t8,t9,t10,hmn,g1,g2,g3];have hlen:((M4 (List.replicate bp 255)).take (min bp (n-bp))).length=min bp (n-bp):=by rw[FB,O4,Ad];omega
       refine .go ⟨bp+min bp (n-bp),by omega,by omega,by simp[D0,T.A9,t7,t8,t9],kH.put (by omega) (by omega) hw _,_,K0,fun j hj=>?_⟩;rw[V3];by_cases ej:0+bp≤j∧j<0+bp+((M4 (List.replicate bp 255)).take (min bp (n-bp))).length
       ·rw[if_pos ej];rw[hlen] at ej;rw[jU,if_pos (by omega),ACz,ZH,if_pos (by omega)]
       grind
     · have:bp=n:=by omega
       subst this;simp(disch:=omega) only[B0,t7,t10];exact .ex ⟨rfl,rfl,by simp[D0,T.A9,t9],kH,c,hat,hc⟩
   omega
 rintro tm df H ⟨rfl,⟨t9,-⟩,kH,c,hat,hc⟩;simp only[B0,t9];refine .ret ?_;simp only[B0];exact⟨h.A6,rfl,⟨c,_,_,hat,hc⟩,M6 hat,M8 _,kH.wf,kH.fr⟩
abbrev Ys(A7:Call):Prop:=BRepeatR (A7 97)
theorem A7T{s o n:Nat}(hy:Sl s h y 0 vs):AHK s (F8 b o n c) y h=.val (iN 0) h:=by
 have e:AHK s (F8 b o n c) y h=C8 (Xx 0 n) fun m=>bif Nat.beq m 0 then YP (AD .i64 0) h else Ar h b o (KK (Nat.mul m s) []) (fun h=>YP (AD .i64 m) h) .none:=by
  obtain⟨_,⟨_,rfl|⟨b,o,c,rfl⟩⟩|⟨b,o,c,rfl,h0,_⟩⟩:=hy
  ·rfl
  ·rfl
  ·omega
 trivial
theorem fq{f:Nat→A0}{c:T A0}{e:TypeId}{cl:Bool}(hc:∀k,k<m→c.get (path k)=some (f k))(o:Nat)(vs:List A0):HW (h.put b (some (.row (C7 vs o c fun t=>t) m e cl false))) b m (fun j=>if o≤j∧j<o+vs.length then(vs[j-o]?).getD undef else f j):=by refine⟨_,e,cl,K0,fun j hj=>?_⟩;rw[V3];grind
theorem HW.AS7{n:Nat}{l:List Nat}(hr:HW H b n (fun j=>bN (l.getD j 0)))(hl:l.length=n)(h0:0<n)(ce:cE H b=5)(lo:h.A6≤b)(hw:Wf H)(f:Fr N5 h H):AND l h (F8 b 0 n n) H:=by refine⟨⟨?_,YB.cell (hr.lt hw) ce,fun c hc=>by rw[X3 hc];exact lo⟩,hw,f⟩;rw[hl];exact Jg hr (by rw[O4,hl]) (fun j hj=>by rw[Q1 (G6 (by omega))]) h0
abbrev DFilledR(g:List A0→Hp→N3):Prop:=∀h bv l n,Wf h→Sl 1 h bv l.length (M4 l)→0<n→n≤5000→l.length≤5000→C0 (g [bv,iN n] h) (AND (AJ l 0 n) h)
theorem A5G(hR:Ys A7):DFilledR (G8 sg A7 cd):=by
 intro h bv l n hw hb h0 hn hl;have hwb:=hw.base;obtain⟨J,hJ,wJ,fJ,nJ,a1⟩:=J7 hw (B6 [bN 255] 1 5 true);have hs:Sl 1 J (F8 h.A6 0 1 1) 1 (M4 [255]):=⟨rfl,.inr ⟨_,_,_,rfl,by omega,O3 a1 (by simp[M4])⟩⟩
 obtain⟨r,H1,e1,b,rfl,row,ce,lo,w1,f1⟩:=(hR J _ n wJ hs h0 hn).get;have fh1:=fJ.trans f1 fun _ _ h=>h;have hb1:=hb.fr hw fh1;have m1:=f1.A6;have y1:=fh1.base;have cont:∀j,j<n→(AJ l 0 n).getD j 0=if j<l.length then l.getD j 0 else 255:=fun j hj=>by unfold AJ;grind
 refine B5 rfl ?_;rcases Br l.length with hz|hz
 ·rw[hz] at hb1;have e2:=A7T (b:=b) (o:=0) (n:=n) (c:=n) hb1;simp(disch:=first|omega|exact⟨rfl,rfl,rfl⟩) only[B0,reduceCtorEq,Vh,hJ,e1,e2];refine .ret ?_;simp only[B0];exact(row.congr fun j hj=>by grind).AS7 (Ah _ _ _) h0 ce (by omega) w1 fh1
 · obtain⟨c,e,cl,hat,hc⟩:=id row;have e2:=VQ hb1 (Kw l) hat (o:=0) (n:=n) (cc:=n) rfl (by omega) (by omega);simp(disch:=first|omega|exact⟨rfl,rfl,rfl⟩) only[B0,reduceCtorEq,Vh,hJ,e1,e2];refine .ret ?_;simp only[B0];have hbl:=row.lt w1;have hr2:=fq (h:=H1) (b:=b) (e:=e) (cl:=cl) hc 0 ((M4 l).take (min l.length n));refine(hr2.congr fun j hj=>?_).AS7 (Ah _ _ _) h0 ((M6 K0).trans ((M6 hat).symm.trans ce)) (by omega) (w1.put hbl _) (fh1.O6 _ (fun hk=>by omega) (by omega));have hlen:((M4 l).take (min l.length n)).length=min l.length n:=by rw[FB,O4];omega
   rw[cont j hj];by_cases ej:j<l.length
   ·rw[if_pos ej,if_pos ⟨BB _,by rw[hlen];omega⟩,EC,jU,if_pos (by omega),Q1 (G6 ej)];rfl
   grind
abbrev tz(A7:Call):Prop:=DFilledR (A7 35)
theorem ARy{n:Nat}(h:n<4294967296):Nat.land n 4294967295=n:=by have:=A1Y n 32;have e2:n%2^32=n:=Hi h;exact this.trans e2
theorem AIj{n:Nat}(hn:n<100000):C0 (G8 A5o A7 cd [uN 1,uN n] h) (VI (.tuple ⟨[uN 0,uN n]⟩) h):=by
 have e1:nn Nat.land .u64 (.ofNat n) (.ofNat 4294967295)=some (uN n):=by rw[Jo _ (by rw[ARy (by omega)];show n<18446744073709551616;omega),ARy (by omega)]
 have e2:wb .u64 (.ofNat n) (.ofNat 32)=some (uN 0):=by show GA .u64 (AK0 (.ofNat n) (Xx 32 64))=_;rw[Cg];show some (Value.int .u64 (.ofNat (n/2^32)))=_;rw[AFa (by omega)]
 have e3:nn Nat.land .u64 (.ofNat 1) (.ofNat 4294967295)=some (uN 1):=rfl;have e4:wb .u64 (.ofNat 1) (.ofNat 32)=some (uN 0):=rfl;have e5:nn Nat.land .u64 (.ofNat 0) (.ofNat 4294967295)=some (uN 0):=rfl;have e6:wb .u64 (.ofNat 0) (.ofNat 32)=some (uN 0):=rfl;have e7:∀a b,a*b<100000→ANm .u64 (.ofNat a) (.ofNat b)=some (uN (a*b)):=fun a b hab=>by rw[AMf,AYn (by omega)]
 have w:∀a,a<200000→W4 .u64 (.ofNat a)=.ofNat a:=fun a ha=>AYn (by omega);refine B5 rfl ?_;simp(disch:=omega) only[B0,reduceCtorEq,Nat.reduceAdd,e1,e2,e3,e4,e5,e6,e7,Nat.one_mul,UM];refine .ret ?_;simp only[B0];exact⟨rfl,rfl⟩
theorem ALr(hM:∀H n,n<100000→A7 273 [uN 1,uN n] H=.val (.tuple ⟨[uN 0,uN n]⟩) H){n:Nat}(hn:n<100000):C0 (G8 AG7 A7 cd [uN 1,uN n] h) (VI (.tuple ⟨[uN 0,uN n]⟩) h):=by refine B5 rfl ?_;simp(disch:=omega) only[B0,reduceCtorEq,hM];refine .ret ?_;simp only[B0];exact⟨rfl,rfl⟩
theorem AZz:∀c,c<256→((65≤c∧c≤90)∨(97≤c∧c≤122))→Nat.lor c 32<256∧97≤Nat.lor c 32∧Nat.lor c 32≤122:=by decide
theorem A7N:∀(l:List UInt8) (i:Nat),(Bg l)[i]?=l[i]?.map fun(c:UInt8)=>bN c.toNat
 | [],i=>by cases i<;>rfl
 | c::l,0=>rfl
 | c::l,i+1=>A7N l i
theorem AHF(hw:Wf h)(hn:YV s):C0 (G8 A5g A7 cd [.string s] h) (QR (.bool true) h):=by
 obtain⟨l0,l1,al⟩:=hn;have hne:PH (bl s) []=false:=by
  rw[eD];cases e:bl s with
  | nil=>rw[e] at l0;simp at l0
  | cons a l=>rfl
 obtain⟨J,hJ,wJ,fJ,nJ,a1⟩:=J7 hw (B6 (Bg (bl s)) (bl s).length 5 false);have hop:Nat.blt (bl s).length R8=true:=BW (by unfold R8;omega);have hb:=A7N (bl s);have hml:(Bg (bl s)).length=(bl s).length:=by rw[lH,O4,BI]
 refine B5 rfl ?_;simp(disch:=omega) only[B0,reduceCtorEq,hne,Xh,hop,hJ];refine D9.lp (P:=fun tm df H=>df=[]∧H=J) ?_ ?_
 · refine K6 (n:=(bl s).length) (by omega) (fun i tm H=>D0 tm [(AED,F8 h.A6 0 (bl s).length (C4 1 (bl s).length)),([false,false,false],iN (bl s).length),([true,true,true,true],iN i)]∧H=J) ⟨by simp[D0,T.A9],rfl⟩ (fun i tm H hi hI=>?_) (fun tm H hI=>?_)
   · obtain⟨⟨t13,t14,t15,-⟩,rfl⟩:=hI;have hx:=hb i;rw[X0 hi,A08] at hx;have hc:=al _ (Dh hi);unfold AXS at hc;have hlt:=(bl s)[i].toNat_lt;generalize (bl s)[i].toNat=c at *;replace hx:(Bg (bl s))[0+i]?=some (bN c):=by rw[Ag];exact hx
     have o:=AZz c hlt;unfold UX;rcases hc with hc|hc|hc
     ·obtain⟨o1,o2,o3⟩:=o (.inr hc);have o4:Nat.lor c 32<half .u8:=o1;simp(disch:=omega) only[B0,t13,t14,t15,a1,hx,A2c];exact .go ⟨by simp[D0,T.A9,t13,t14],rfl⟩
     ·obtain⟨o1,o2,o3⟩:=o (.inl hc);have o4:Nat.lor c 32<half .u8:=o1;simp(disch:=omega) only[B0,t13,t14,t15,a1,hx,A2c];exact .go ⟨by simp[D0,T.A9,t13,t14],rfl⟩
     ·simp(disch:=omega) only[B0,t13,t14,t15,a1,hx];exact .go ⟨by simp[D0,T.A9,t13,t14],rfl⟩
   ·obtain⟨⟨t13,t14,t15,-⟩,rfl⟩:=hI;unfold UX;simp(disch:=omega) only[B0,t14,t15];exact .ex ⟨rfl,rfl,rfl⟩
 rintro tm df H ⟨rfl,rfl⟩;simp only[B0];refine .ret ?_;simp only[B0];exact⟨rfl,fJ.log⟩
abbrev AC8(A7:Call):Prop:=∀H s,Wf H→YV s→A7 182 [.string s] H=.val (.bool true) H
theorem ba(l:List UInt8):PH l l=true:=by rw[eD];exact beq_self_eq_true l
theorem AN2(a b:Nat):MA 2 (iN a) (iN b)=some (Nat.beq a b):=rfl
theorem AE4(a b:Nat):AH [(0,2),(1,2)] [iN a,iN b] [iN a,iN b]=some true:=by show R5 (MA 2 (iN a) (iN a)) (fun t=>Bool.rec (motive:=fun _=>Option Bool) (some false) (R5 (MA 2 (iN b) (iN b)) (fun t=>Bool.rec (motive:=fun _=>Option Bool) (some false) (some true) t) none) t) none=_;rw[AN2,AN2,Dg,Dg];rfl
theorem Qz{a b:A0}{xs:List Nat}(ha:Sl 1 h a xs.length (J8 xs))(hb:Sl 1 h b xs.length (J8 xs))(hl:xs.length≤100):C0 (G8 Kg A7 cd [a,b] h) (VI (.bool true) h):=by
 have al:=ha.len;have bl:=hb.len;refine B5 rfl ?_;simp only[B0,reduceCtorEq,al,bl];refine D9.lp (P:=fun tm df H=>df=[]∧H=h) ?_ ?_
 · refine K6 (n:=xs.length) (by omega) (fun i tm H=>D0 tm [([],a),(Q0,b),(U2,iN i)]∧H=h) ⟨by trivial,rfl⟩ (fun i tm H hi hI=>?_) (fun tm H hI=>?_)
   ·obtain⟨⟨t0,t1,t5,-⟩,rfl⟩:=hI;have aA:=ha.A (by omega);have bA:=hb.A (by omega);have g:=O7 (X0 hi);unfold Fa;simp(disch:=omega) only[B0,reduceCtorEq,t0,t1,t5,aA,bA,g];exact .go ⟨by simp[D0,T.A9,t0,t1],rfl⟩
   ·obtain⟨⟨t0,t1,t5,-⟩,rfl⟩:=hI;unfold Fa;simp(disch:=omega) only[B0,t0,t5,al];exact .ex ⟨rfl,rfl,rfl⟩
 rintro tm df H ⟨rfl,rfl⟩;simp only[B0];refine .ret ?_;simp only[B0];exact⟨rfl,rfl⟩
abbrev PF(F:FuncId)(A7:Call):Prop:=∀H a b xs,Sl 1 H a xs.length (J8 xs)→Sl 1 H b xs.length (J8 xs)→xs.length≤100→A7 F [a,b] H=.val (.bool true) H
theorem kF{a b:A0}{l:List Pr}(ha:Ng h a l)(hb:Ng h b l)(hl:l.length≤100):C0 (G8 SM A7 cd [a,b] h) (VI (.bool true) h):=by
 have al:=ha.len;have bl:=hb.len;refine B5 rfl ?_;simp only[B0,reduceCtorEq,al,bl];refine D9.lp (P:=fun tm df H=>df=[]∧H=h) ?_ ?_
 · refine K6 (n:=l.length) (by omega) (fun i tm H=>D0 tm [([],a),(Q0,b),(U2,iN i)]∧H=h) ⟨by trivial,rfl⟩ (fun i tm H hi hI=>?_) (fun tm H hI=>?_)
   ·obtain⟨⟨t0,t1,t5,-⟩,rfl⟩:=hI;have aA:=ha.A (by omega);have bA:=hb.A (by omega);have g:=TC (X0 hi);have e1:=ba (Abs.bl l[i].1);have e2:=ba (Abs.bl l[i].2);generalize l[i]=x at *;unfold GL at g;unfold Fc;simp(disch:=omega) only[B0,reduceCtorEq,t0,t1,t5,aA,bA,g,e1,e2,Bool.and_self];exact .go ⟨by simp[D0,T.A9,t0,t1],rfl⟩
   ·obtain⟨⟨t0,t1,t5,-⟩,rfl⟩:=hI;unfold Fc;simp(disch:=omega) only[B0,t0,t5,al];exact .ex ⟨rfl,rfl,rfl⟩
 rintro tm df H ⟨rfl,rfl⟩;simp only[B0];refine .ret ?_;simp only[B0];exact⟨rfl,rfl⟩
abbrev dP(A7:Call):Prop:=∀H a b l,Ng H a l→Ng H b l→l.length≤100→A7 119 [a,b] H=.val (.bool true) H
theorem AEA:Ng H B7 []:=⟨rfl,.inl ⟨rfl,.inl rfl⟩⟩
theorem A9g(hS:dP A7){a b:A0}{l:List Pr}(hw:Wf h)(ha:Ng h a l)(hb:Ng h b l)(hl:l.length≤100):C0 (G8 pQ A7 cd [.agg ⟨[iN 4,a,B7]⟩,.agg ⟨[iN 4,b,B7]⟩] h) (QR (.bool true) h):=by have ca:=ha.cell;have cb:=hb.cell;obtain⟨J,hJ,wJ,fJ,nJ,a1,a2⟩:=U7 hw (B6 [iN 4,a,B7] 3 57 true) (B6 [iN 4,b,B7] 3 57 true);have hwb:=hw.base;have e1:=hS J a b l (ha.fr hw fJ) (hb.fr hw fJ) hl;have e2:=hS J B7 B7 [] AEA AEA (by decide);refine B5 rfl ?_;simp(disch:=first|omega|(simp only[C6]<;>omega)) only[B0,Nat.reduceAdd,hJ,a1,a2,e1,e2];refine .ret ?_;simp only[B0];exact⟨rfl,fJ.log⟩
abbrev tf(A7:Call):Prop:=∀H a b l,Wf H→Ng H a l→Ng H b l→l.length≤100→A7 50 [.agg ⟨[iN 4,a,B7]⟩,.agg ⟨[iN 4,b,B7]⟩] H=.val (.bool true) H
abbrev R25SBootR(g:List A0→Hp→N3):Prop:=∀h a b u v xs l,Wf h→Sl 1 h u xs.length (M4 xs)→Sl 1 h v xs.length (M4 xs)→(∀x∈xs,x<256)→xs.length≤5000→Ng h a l→Ng h b l→l.length≤100→C0 (g [.agg ⟨[iN 4,u,iN 4,a,B7]⟩,.agg ⟨[iN 4,v,iN 4,b,B7]⟩] h) (QR (.bool true) h)
theorem kb(hS:tf A7):R25SBootR (G8 TG A7 cd):=by intro h a b u v xs l hw hu hv hx hn ha hb hl;have ca:=ha.cell;have cb:=hb.cell;have cu:=hu.cell;have cv:=hv.cell;obtain⟨J,hJ,wJ,fJ,nJ,a1,a2⟩:=U7 hw (B6 [iN 4,u,iN 4,a,B7] 5 59 true) (B6 [iN 4,v,iN 4,b,B7] 5 59 true);have hwb:=hw.base;have e1:=hS J a b l wJ (ha.fr hw fJ) (hb.fr hw fJ) hl;have s1:=oX (hu.fr hw fJ) hx;have s2:=oX (hv.fr hw fJ) hx;have e3:=ba (Tr xs);refine B5 rfl ?_;simp(disch:=first|omega|(simp only[C6]<;>omega)|exact⟨rfl,rfl,rfl⟩|assumption) only[↓CG,B0,reduceCtorEq,Nat.reduceAdd,Nat.reduceMul,Nat.reduceSub,hJ,a1,a2,AUq,s1,s2,e3,e1];refine .ret ?_;simp only[B0];exact⟨rfl,fJ.log⟩
theorem ae(hI:PF 113 A7){n a:Nat}(hw:Wf h)(x:TW h n a b c sv uv tv)(y:TW h n a b c sv' uv' tv')(ha:a≤100)(hb:b≤100)(hc:c≤100):C0 (G8 OJ A7 cd [.agg ⟨AX n sv uv tv⟩,.agg ⟨AX n sv' uv' tv'⟩] h) (QR (.bool true) h):=by obtain⟨J,hJ,wJ,fJ,nJ,a1,a2⟩:=U7 hw (B6 (AX n sv uv tv) 8 42 true) (B6 (AX n sv' uv' tv') 8 42 true);have hwb:=hw.base;have xJ:=x.fr hw fJ;have yJ:=y.fr hw fJ;have c1:=x.st.cell;have c2:=x.un.cell;have c3:=x.ta.cell;have c4:=y.st.cell;have c5:=y.un.cell;have c6:=y.ta.cell;have e1:=hI J sv sv' (l8 (n+4) a) (by rw[AT];exact xJ.st) (by rw[AT];exact yJ.st) (by rw[AT];exact ha);have e2:=hI J uv uv' (l8 (n+4+a) b) (by rw[AT];exact xJ.un) (by rw[AT];exact yJ.un) (by rw[AT];exact hb);have e3:=hI J tv tv' (l8 (n+4+a+b) c) (by rw[AT];exact xJ.ta) (by rw[AT];exact yJ.ta) (by rw[AT];exact hc);unfold AX at hJ a1 a2 ⊢;refine B5 rfl ?_;simp(disch:=first|omega|(simp only[C6]<;>omega)) only[B0,Nat.reduceAdd,hJ,a1,a2,e1,e2,e3,AE4];refine .ret ?_;simp only[B0];exact⟨rfl,fJ.log⟩
abbrev mo(A7:Call):Prop:=∀H n a b c sv uv tv sv' uv' tv',Wf H→TW H n a b c sv uv tv→TW H n a b c sv' uv' tv'→a≤100→b≤100→c≤100→A7 44 [.agg ⟨AX n sv uv tv⟩,.agg ⟨AX n sv' uv' tv'⟩] H=.val (.bool true) H
theorem A6e(neg:Bool)(x y:OD)(lo:List A0)(tm:T A0):MH neg x y lo tm=Cq (G4 x lo tm) (fun a=>Cq (G4 y lo tm) (fun b=>some (.bool (Dp neg (!Dp a b)))) none) none:=by unfold MH;simp only[Gv]
theorem xW(a:Bool):Dp a a=true:=by cases a<;>rfl
def AZa:=L0 @A6e<|L0 @AE4<|L0 @Bool.and_self @xW
def AR8:List A0:=[.bool false,i0,i0,B7]
theorem A1U(hw:Wf h):C0 (G8 rO A7 cd [.agg ⟨AR8⟩,.agg ⟨AR8⟩] h) (QR (.bool true) h):=by
 obtain⟨J,hJ,wJ,fJ,nJ,a1,a2⟩:=U7 hw (B6 AR8 4 45 true) (B6 AR8 4 45 true);have hwb:=hw.base;have q:=AKJ;unfold AR8 at hJ a1 a2 ⊢;refine B5 rfl ?_;simp(disch:=first|omega|(simp only[C6]<;>omega)) only[B0,Nat.reduceAdd,AZa,hJ,a1,a2];refine D9.lp (P:=fun tm df H=>df=[]∧H=J) ?_ ?_
 ·refine K6 (n:=0) (by omega) (fun i tm H=>D0 tm [(T1,C2 h.A6 0),(U2,iN i)]∧H=J) ⟨by simp[D0,T.A9],rfl⟩ (fun i tm H hi hI=>by omega) (fun tm H hI=>?_);obtain⟨⟨t2,t5,-⟩,rfl⟩:=hI;unfold WV;simp(disch:=first|omega|(simp only[C6]<;>omega)) only[B0,t2,t5,a1];exact .ex ⟨rfl,rfl,rfl⟩
 rintro tm df H ⟨rfl,rfl⟩;simp only[B0];refine .ret ?_;simp only[B0];exact⟨rfl,fJ.log⟩
abbrev dq(A7:Call):Prop:=∀H,Wf H→A7 205 [.agg ⟨AR8⟩,.agg ⟨AR8⟩] H=.val (.bool true) H
def AQV:List A0:=[i0,i0,.bool false,i0,i0,B7,B7,B7]
theorem A26(hS:dq A7)(hI:PF 206 A7)(hw:Wf h):C0 (G8 nu A7 cd [.agg ⟨AQV⟩,.agg ⟨AQV⟩] h) (QR (.bool true) h):=by obtain⟨J,hJ,wJ,fJ,nJ,a1,a2⟩:=U7 hw (B6 AQV 8 47 true) (B6 AQV 8 47 true);have hwb:=hw.base;have e1:=hS J wJ;have e2:=hI J B7 B7 [] ⟨rfl,.inl ⟨rfl,.inl rfl⟩⟩ ⟨rfl,.inl ⟨rfl,.inl rfl⟩⟩ (by decide);unfold AQV at hJ a1 a2 ⊢;unfold AR8 at e1;refine B5 rfl ?_;simp(disch:=first|omega|(simp only[C6]<;>omega)) only[B0,Nat.reduceAdd,hJ,a1,a2,e1,e2];refine .ret ?_;simp only[B0];exact⟨rfl,fJ.log⟩
abbrev fe(A7:Call):Prop:=∀H,Wf H→A7 114 [.agg ⟨AQV⟩,.agg ⟨AQV⟩] H=.val (.bool true) H
theorem ur(hS:fe A7)(hw:Wf h):C0 (G8 aE A7 cd [.agg ⟨ALv⟩,.agg ⟨ALv⟩] h) (QR (.bool true) h):=by
 obtain⟨J,hJ,wJ,fJ,nJ,a1,a2⟩:=U7 hw (B6 ALv 11 50 true) (B6 ALv 11 50 true);have hwb:=hw.base;have e1:=hS J wJ;unfold ALv at hJ a1 a2 ⊢;unfold AQV at e1;refine B5 rfl ?_;simp(disch:=first|omega|(simp only[C6]<;>omega)) only[B0,Nat.reduceAdd,hJ,a1,a2,e1];refine D9.lp (P:=fun tm df H=>df=[]∧H=J) ?_ ?_
 ·refine K6 (n:=0) (by omega) (fun i tm H=>D0 tm [(T1,C2 h.A6 0),(U2,iN i)]∧H=J) ⟨by simp[D0,T.A9],rfl⟩ (fun i tm H hi hI=>by omega) (fun tm H hI=>?_);obtain⟨⟨t2,t5,-⟩,rfl⟩:=hI;unfold RF;simp(disch:=first|omega|(simp only[C6]<;>omega)) only[B0,t2,t5,a1];exact .ex ⟨rfl,rfl,rfl⟩
 rintro tm df H ⟨rfl,rfl⟩;simp only[B0];refine .ret ?_;simp only[B0];exact⟨rfl,fJ.log⟩
abbrev A3H(A7:Call):Prop:=∀H,Wf H→A7 45 [.agg ⟨ALv⟩,.agg ⟨ALv⟩] H=.val (.bool true) H
theorem A8M(hEq:ADJ 112 A7)(hw:Wf h)(x:DT h f dv wv ev)(y:DT h f dv' wv' ev')(hok:f.Ok):C0 (G8 qd A7 cd [.agg ⟨N9 f dv wv ev⟩,.agg ⟨N9 f dv' wv' ev'⟩] h) (QR (.bool true) h):=by
 obtain⟨q1,q2,q3,q4,q5,q6,q7,q8,q9,q10⟩:=id hok;obtain⟨J,hJ,wJ,fJ,nJ,a1,a2⟩:=U7 hw (B6 (N9 f dv wv ev) 5 39 true) (B6 (N9 f dv' wv' ev') 5 39 true);have hwb:=hw.base;have xJ:=x.fr hw fJ;have yJ:=y.fr hw fJ;obtain⟨ds,dsl,dsv,dsr⟩:=xJ.data;obtain⟨ds',dsl',dsv',dsr'⟩:=yJ.data;have c1:=x.data.cell;have c2:=x.I0.cell;have c3:=x.dead.cell;have c4:=y.data.cell;have c5:=y.I0.cell;have c6:=y.dead.cell;have l1:=dsv.len;have l2:=xJ.I0.len;have l3:=xJ.dead.len;have l4:=dsv'.len;have l5:=yJ.I0.len;have l6:=yJ.dead.len;have dA:=dsv.A (by omega);have dA':=dsv'.A (by omega);have wA:=xJ.I0.A (by omega);have wA':=yJ.I0.A (by omega);have eA:=xJ.dead.A (by omega);have eA':=yJ.dead.A (by omega);unfold N9 at hJ a1 a2 ⊢;refine B5 rfl ?_;simp(disch:=first|omega|(simp only[C6]<;>omega)) only[B0,Nat.reduceAdd,hJ,a1,a2,l1,l2,l3,l4,l5,l6];refine D9.lp (P:=fun tm df H=>df=[]∧D0 tm [(T1,C2 h.A6 0),(Q3,C2 (h.A6+1) 0)]∧H=J) ?_ ?_
 · refine K6 (n:=f.data.length) (by omega) (fun i tm H=>D0 tm [(T1,C2 h.A6 0),(Q3,C2 (h.A6+1) 0),(U2,iN i)]∧H=J) ⟨by simp[D0,T.A9],rfl⟩ (fun i tm H hi hI=>?_) (fun tm H hI=>?_)
   ·obtain⟨⟨t2,t3,t5,-⟩,rfl⟩:=hI;have hr:=X0 hi;obtain⟨w,hw1,hw2⟩:=dsr i _ hr;obtain⟨w',hw1',hw2'⟩:=dsr' i _ hr;have hs:=q9 _ (Dh hi);have e1:=hEq (B8 H H.A6 []) w w' _ _ (hw2.sb _ _) (hw2'.sb _ _) hs.2 hs.2 (by omega);rw[decide_eq_true rfl] at e1;unfold NY;simp(disch:=first|omega|(simp only[C6]<;>omega)|assumption) only[B0,reduceCtorEq,t2,t3,t5,a1,a2,dA,dA',hw1,hw1',e1];exact .go ⟨by simp[D0,T.A9,t2,t3],rfl⟩
   ·obtain⟨⟨t2,t3,t5,-⟩,rfl⟩:=hI;unfold NY;simp(disch:=first|omega|(simp only[C6]<;>omega)) only[B0,t2,t5,a1,l1];exact .ex ⟨rfl,rfl,by simp[D0,T.A9,t2,t3],rfl⟩
 rintro tm df H ⟨rfl,⟨t2,t3,-⟩,rfl⟩;simp only[B0];refine D9.lp (P:=fun tm df H'=>df=[]∧D0 tm [(T1,C2 h.A6 0),(Q3,C2 (h.A6+1) 0)]∧H'=H) ?_ ?_
 · refine K6 (n:=f.data.length) (by omega) (fun i tm H'=>D0 tm [(T1,C2 h.A6 0),(Q3,C2 (h.A6+1) 0),(Q8,iN i)]∧H'=H) ⟨by simp[D0,T.A9,t2,t3],rfl⟩ (fun i tm H' hi hI=>?_) (fun tm H' hI=>?_)
   ·obtain⟨⟨t2,t3,t6,-⟩,rfl⟩:=hI;have hr:=O7 (X0 (show i<f.I0.length by omega));unfold Nc;simp(disch:=first|omega|(simp only[C6]<;>omega)) only[B0,reduceCtorEq,t2,t3,t6,a1,a2,wA,wA',hr];exact .go ⟨by simp[D0,T.A9,t2,t3],rfl⟩
   ·obtain⟨⟨t2,t3,t6,-⟩,rfl⟩:=hI;unfold Nc;simp(disch:=first|omega|(simp only[C6]<;>omega)) only[B0,t2,t6,a1,l2];exact .ex ⟨rfl,rfl,by simp[D0,T.A9,t2,t3],rfl⟩
 clear t2 t3;rintro tm df H' ⟨rfl,⟨t2,t3,-⟩,rfl⟩;simp only[B0];refine D9.lp (P:=fun tm df H=>df=[]∧H=H') ?_ ?_
 · refine K6 (n:=f.data.length) (by omega) (fun i tm H=>D0 tm [(T1,C2 h.A6 0),(Q3,C2 (h.A6+1) 0),(AL,iN i)]∧H=H') ⟨by simp[D0,T.A9,t2,t3],rfl⟩ (fun i tm H hi hI=>?_) (fun tm H hI=>?_)
   · obtain⟨⟨t2,t3,t7,-⟩,rfl⟩:=hI;have hr:=ZG (X0 (show i<f.dead.length by omega));generalize f.dead[i]=b at *;unfold NI;cases b <;>
     ·simp(disch:=first|omega|(simp only[C6]<;>omega)) only[B0,reduceCtorEq,t2,t3,t7,a1,a2,eA,eA',hr,AZa];exact .go ⟨by simp[D0,T.A9,t2,t3],rfl⟩
   ·obtain⟨⟨t2,t3,t7,-⟩,rfl⟩:=hI;unfold NI;simp(disch:=first|omega|(simp only[C6]<;>omega)) only[B0,t2,t7,a1,l3];exact .ex ⟨rfl,rfl,rfl⟩
 rintro tm df H ⟨rfl,rfl⟩;simp only[B0];refine .ret ?_;simp only[B0];exact⟨rfl,fJ.log⟩
abbrev uQ(A7:Call):Prop:=∀H f dv wv ev dv' wv' ev',Wf H→DT H f dv wv ev→DT H f dv' wv' ev'→f.Ok→A7 43 [.agg ⟨N9 f dv wv ev⟩,.agg ⟨N9 f dv' wv' ev'⟩] H=.val (.bool true) H
theorem A8C(hF:uQ A7)(hL:mo A7)(hP:A3H A7){n a:Nat}(hw:Wf h)(x:DT h f dv wv ev)(y:DT h f dv' wv' ev')(hok:f.Ok)(u:TW h n a b c sv uv tv)(v:TW h n a b c sv' uv' tv')(ha:a≤100)(hb:b≤100)(hc:c≤100):C0 (G8 qV A7 cd [.agg ⟨Ci f n dv wv ev sv uv tv false⟩,.agg ⟨Ci f n dv' wv' ev' sv' uv' tv' false⟩] h) (QR (.bool true) h):=by obtain⟨J,hJ,wJ,fJ,nJ,a1,a2⟩:=U7 hw (B6 (Ci f n dv wv ev sv uv tv false) 36 54 true) (B6 (Ci f n dv' wv' ev' sv' uv' tv' false) 36 54 true);have hwb:=hw.base;have e1:=hF J f dv wv ev dv' wv' ev' wJ (x.fr hw fJ) (y.fr hw fJ) hok;have e2:=hL J n a b c sv uv tv sv' uv' tv' wJ (u.fr hw fJ) (v.fr hw fJ) ha hb hc;have e3:=hP J wJ;unfold Ci N9 AX ALv YR at hJ a1 a2 ⊢;unfold N9 at e1;unfold AX at e2;unfold ALv at e3;simp only[EB,BS] at hJ a1 a2 ⊢;refine B5 rfl ?_;simp(disch:=first|omega|(simp only[C6]<;>omega)|exact⟨rfl,rfl,rfl⟩|assumption) only[↓CG,B0,reduceCtorEq,Nat.reduceAdd,Nat.reduceMul,Nat.reduceSub,hJ,a1,a2,e1,e2,e3,AZa];refine .ret ?_;simp only[B0];exact⟨rfl,fJ.log⟩
abbrev qG(A7:Call):Prop:=∀h f dv wv ev dv' wv' ev' sv uv tv sv' uv' tv' n a b c,Wf h→DT h f dv wv ev→DT h f dv' wv' ev'→f.Ok→TW h n a b c sv uv tv→TW h n a b c sv' uv' tv'→a≤100→b≤100→c≤100→A7 10 [.agg ⟨Ci f n dv wv ev sv uv tv false⟩,.agg ⟨Ci f n dv' wv' ev' sv' uv' tv' false⟩] h=.val (.bool true) h
abbrev rN(n:Nat):A0:=.int .i32 (.ofNat n)
def AWS(v:A0)(h:Hp):N3:=AA6 (.val v) (fun _ _ _=>.none) [] .nil h
theorem AWy(x:OD)(A7:Call)(lo:List A0)(tm:T A0)(h:Hp):AA6 x A7 lo tm h=AWS (G4 x lo tm) h:=rfl
theorem AOu(s:ByteArray)(h:Hp):AWS (.string s) h=.val (C2 h.A6 0) (h.new (.iter s 0)):=by show h.SB (.iter s 0) (fun b h=>N3.val (C2 b 0) h)=_;rw[Hp.DM]
def ALK(v:A0)(h:Hp):N3:=AAP (.val v) (fun _ _ _=>.none) [] .nil h
theorem AWl(x:OD)(A7:Call)(lo:List A0)(tm:T A0)(h:Hp):AAP x A7 lo tm h=ALK (G4 x lo tm) h:=rfl
theorem ARP{pos:Nat}{c:UInt8}(hat:h.at b=some (.iter s pos))(hc:(bl s)[pos]?=some c)(h128:c.toNat<128):ALK (C2 b 0) h=.val (.tuple ⟨[.bool true,iN pos,rN c.toNat]⟩) (h.put b (some (.iter s (pos+1)))):=by have hlt:=(Fe.1 hc).1;have e:ALK (C2 b 0) h=R5 (h.at b) (fun o=>N2.rec (fun _ _ _ _ _=>.none) (fun s pos=>bif Nat.blt pos (len (bl s)) then R5 (YH (bl s) pos) (fun c=>Ua c.toNat (fun r=>C8 (Nat.succ pos) fun q=>h.Ei b (some (.iter s q)) fun h=>.val (.tuple #[.bool true,.int .i64 (.ofNat pos),.int .i32 (.ofNat r)]) h) .none) .none else .val (.tuple #[.bool false]) h) (fun _=>.none) o) .none:=rfl;rw[e,hat,FL];show(bif Nat.blt pos (len (bl s)) then _ else _)=_;rw[R4,BW hlt,cond_true,Om,hc,FL];unfold Ua;rw[BW h128,cond_true];show C8 (Nat.succ pos) (fun q=>h.Ei b (some (.iter s q)) fun h=>N3.val (.tuple #[.bool true,.int .i64 (.ofNat pos),.int .i32 (.ofNat c.toNat)]) h)=_;rw[C1,Hp.Hh]
theorem AQ5(hat:h.at b=some (.iter s (bl s).length)):ALK (C2 b 0) h=.val (.tuple ⟨[.bool false]⟩) h:=by have e:ALK (C2 b 0) h=R5 (h.at b) (fun o=>N2.rec (fun _ _ _ _ _=>.none) (fun s pos=>bif Nat.blt pos (len (bl s)) then R5 (YH (bl s) pos) (fun c=>Ua c.toNat (fun r=>C8 (Nat.succ pos) fun q=>h.Ei b (some (.iter s q)) fun h=>.val (.tuple #[.bool true,.int .i64 (.ofNat pos),.int .i32 (.ofNat r)]) h) .none) .none else .val (.tuple #[.bool false]) h) (fun _=>.none) o) .none:=rfl;rw[e,hat,FL];show(bif Nat.blt (bl s).length (len (bl s)) then _ else _)=_;rw[R4,GH (by omega),cond_false]
theorem AUs{R:Type}(g:FuncId)(c:List A0)(k:FuncId→List A0→List A0→R)(z:R):AFi (.func (.func g) ⟨[]⟩ ⟨c⟩) k z=k g [] c:=rfl
def AJK:=L0 @AUs<|L0 @BS<|L0 @rr<|L0 @AWy<|L0 @AWl<|L0 @AOu<|L0 @A6e<|@xW
abbrev A2f(A7:Call):Prop:=∀H c,32≤c→c≤126→A7 266 [rN c] H=.val (.bool false) H
theorem AAq(h1:32≤c)(h2:c≤126):C0 (G8 xN A7 cd [rN c] h) (VI (.bool false) h):=by refine B5 rfl ?_;simp(disch:=omega) only[B0,reduceCtorEq];refine .ret ?_;simp only[B0];exact⟨rfl,rfl⟩
theorem AAs(h1:A2f A7)(hw:Wf h)(hs:KA s):C0 (G8 za A7 cd [.string s,Vk 266 [],.bool true] h) (QR (.int .i64 (.negSucc 0)) h):=by
 obtain⟨l1,al⟩:=hs;have hwb:=hw.base;obtain⟨J,hJ,wJ,fJ,nJ,a1⟩:=J7 hw (.iter s 0);unfold Vk;refine B5 rfl ?_;simp only[B0,reduceCtorEq,AJK,hJ];refine D9.lp (P:=fun tm df H=>df=[]∧Ky h H (h.A6+1)) ?_ ?_
 · refine K6 (n:=(bl s).length) (by omega) (fun i tm H=>D0 tm [(Q0,.func (.func 266) ⟨[]⟩ ⟨[]⟩),(T1,.bool true),(MC,C2 h.A6 0)]∧Ky h H (h.A6+1)∧H.at h.A6=some (.iter s i)) ⟨by trivial,Ky.mk wJ fJ nJ,a1⟩ (fun i tm H hi hI=>?_) (fun tm H hI=>?_)
   ·obtain⟨⟨t1,t2,t10,-⟩,kH,hat⟩:=hI;have hc:=al _ (Dh hi);have hx:=X0 hi;have e1:=ARP hat hx (by omega);generalize (bl s)[i].toNat=c at *;have e2:=h1 (H.put h.A6 (some (.iter s (i+1)))) c hc.1 hc.2;have hbt:Dp false (!Dp false true)=false:=rfl;have kP:=kH.put (b:=h.A6) (by omega) (by omega) hw (some (.iter s (i+1)));unfold QO;simp only[B0,reduceCtorEq,AJK,t1,t2,t10,e1,e2];exact .go ⟨by simp[D0,T.A9,t1,t2,t10],kP,K0⟩
   ·obtain⟨⟨t1,t2,t10,-⟩,kH,hat⟩:=hI;have e1:=AQ5 hat;unfold QO;simp only[B0,AJK,t10,e1];exact .ex ⟨rfl,rfl,kH⟩
 rintro tm df H ⟨rfl,kH⟩;simp only[B0];refine .ret ?_;simp only[B0];exact⟨rfl,kH.fr.log⟩
abbrev A3D(A7:Call):Prop:=∀H s,Wf H→KA s→A7 370 [.string s,Vk 266 [],.bool true] H=.val (.int .i64 (.negSucc 0)) H
theorem AB4(h1:A3D A7)(hw:Wf h)(hs:KA s):C0 (G8 xz A7 cd [.string s,Vk 266 []] h) (QR (.int .i64 (.negSucc 0)) h):=by have e1:=h1 h s hw hs;unfold Vk at e1 ⊢;refine B5 rfl ?_;simp only[B0,reduceCtorEq,e1];refine .ret ?_;simp only[B0];exact⟨rfl,rfl⟩
abbrev A0C(A7:Call):Prop:=∀H s,Wf H→KA s→A7 323 [.string s,Vk 266 []] H=.val (.int .i64 (.negSucc 0)) H
theorem A74(h1:A0C A7)(hw:Wf h)(hs:KA s):C0 (G8 qU A7 cd [.string s,Vk 266 []] h) (QR (.bool false) h):=by have e1:=h1 h s hw hs;have e2:PG (.negSucc 0) (.ofNat 0)=true:=rfl;unfold Vk at e1 ⊢;refine B5 rfl ?_;simp only[B0,reduceCtorEq,e1,e2];refine .ret ?_;simp only[B0];exact⟨rfl,rfl⟩
abbrev qW(A7:Call):Prop:=∀H s,Wf H→KA s→A7 267 [.string s,Vk 266 []] H=.val (.bool false) H
theorem AI8(h1:qW A7)(hw:Wf h)(hs:KA s):C0 (G8 A5P A7 cd [.string s] h) (QR (.bool true) h):=by have e1:=h1 h s hw hs;have hl:=hs.l1;unfold Vk at e1;refine B5 rfl ?_;simp(disch:=omega) only[B0,reduceCtorEq,e1];refine .ret ?_;simp only[B0];exact⟨rfl,rfl⟩
abbrev ABF(A7:Call):Prop:=∀H s,Wf H→KA s→A7 183 [.string s] H=.val (.bool true) H
theorem ABv(hN:AC8 A7)(hT:ABF A7){x:Pr}(hw:Wf h)(h1:YV x.1)(h2:KA x.2):C0 (G8 A0i A7 cd [.agg ⟨GL x⟩] h) (QR (.bool true) h):=by obtain⟨J,hJ,wJ,fJ,nJ,a1⟩:=J7 hw (B6 (GL x) 2 187 true);have hwb:=hw.base;unfold GL at hJ a1 ⊢;refine B5 rfl ?_;simp(disch:=first|omega|(simp only[C6]<;>omega)) only[B0,Nat.reduceAdd,hJ,a1,hN _ _ wJ h1,hT _ _ wJ h2];refine .ret ?_;simp only[B0];exact⟨rfl,fJ.log⟩
abbrev A3Q(A7:Call):Prop:=∀H x,Wf H→YV x.1→KA x.2→A7 91 [.agg ⟨GL x⟩] H=.val (.bool true) H
def AWh(v w:A0):Option A0:=pV (.val v) (.val w) [] .nil
theorem ASS(x y:OD)(lo:List A0)(tm:T A0):pV x y lo tm=AWh (G4 x lo tm) (G4 y lo tm):=rfl
theorem AMQ(a b:ByteArray):AWh (.string a) (.string b)=some (.int .i64 (mb (bl a) (bl b))):=by show GA .i64 (mb (bl a) (bl b))=_;rw[Cg]
theorem AEP:∀ {a b:List UInt8},gU a b=true→mb a b=.negSucc 0
 | [],[],h=>by cases h
 | [],_::_,_=>rfl
 | _::_,[],h=>by cases h
 | x::a,y::b,h=>by
  have h':(bif Nat.blt x.toNat y.toNat then true else bif AKv x y then gU a b else false)=true:=h;show(bif Nat.blt x.toNat y.toNat then Int.negSucc 0 else bif AKv x y then mb a b else .ofNat 1)=_;cases h1:Nat.blt x.toNat y.toNat with
  | true=>rfl
  | false =>
   rw[h1,cond_false] at h';rw[cond_false];cases h2:AKv x y with
   | true=>rw[h2,cond_true] at h';rw[cond_true];exact AEP h'
   | false=>rw[h2] at h';cases h'
def AY4:=L0 @ASS @AMQ
theorem ACx{a b:ByteArray}(hlt:gU (bl a) (bl b)=true):C0 (G8 zX A7 cd [.string a,.string b] h) (VI (.int .i64 (.negSucc 0)) h):=by refine B5 rfl ?_;simp only[B0,reduceCtorEq,AY4,AEP hlt];refine .ret ?_;simp only[B0];exact⟨rfl,rfl⟩
abbrev AGR(F:FuncId)(A7:Call):Prop:=∀H a b,gU (bl a) (bl b)=true→A7 F [.string a,.string b] H=.val (.int .i64 (.negSucc 0)) H
theorem wE(hC:AGR 268 A7){a b:ByteArray}(hlt:gU (bl a) (bl b)=true):C0 (G8 Zq A7 cd [.string a,.string b] h) (VI (.int .i64 (.negSucc 0)) h):=by have e1:=hC h a b hlt;refine B5 rfl ?_;simp only[B0,reduceCtorEq,e1];refine .ret ?_;simp only[B0];exact⟨rfl,rfl⟩
theorem A2j(hC:AGR 184 A7){x:Pr}{b:ByteArray}(hw:Wf h)(hlt:gU (bl x.1) (bl b)=true):C0 (G8 iw A7 cd [.agg ⟨GL x⟩,.string b] h) (QR (.int .i64 (.negSucc 0)) h):=by obtain⟨J,hJ,wJ,fJ,nJ,a1⟩:=J7 hw (B6 (GL x) 2 187 true);have hwb:=hw.base;have e1:=hC J x.1 b hlt;unfold GL at hJ a1 ⊢;refine B5 rfl ?_;simp(disch:=first|omega|(simp only[C6]<;>omega)) only[B0,Nat.reduceAdd,hJ,a1,e1];refine .ret ?_;simp only[B0];exact⟨rfl,fJ.log⟩
abbrev dk(A7:Call):Prop:=∀H x b,Wf H→gU (bl x.1) (bl b)=true→A7 92 [.agg ⟨GL x⟩,.string b] H=.val (.int .i64 (.negSucc 0)) H
theorem A48(hI:∀H w,A7 185 [B7,w] H=.val (.int .i64 (.negSucc 0)) H){w:A0}:C0 (G8 my A7 cd [B7,w] h) (VI (.bool false) h):=by have e2:PG (.negSucc 0) (.ofNat 0)=true:=rfl;refine B5 rfl ?_;simp only[B0,reduceCtorEq,hI,e2];refine .ret ?_;simp only[B0];exact⟨rfl,rfl⟩
abbrev du(A7:Call):Prop:=∀H w,A7 94 [B7,w] H=.val (.bool false) H
theorem Ky.O5(k:Ky h H m)(Z A:List A0)(n:Nat)(e:TypeId):∃K,(H.new (B6 Z n e true)).put H.A6 (some (.row (C7 A 0 .nil fun t=>t) n e true false))=K∧Ky h K (m+1)∧K.at H.A6=some (B6 A n e true)∧Fr N5 H K:=by obtain⟨K,e1,w,f,nx,a⟩:=Abs.O5 k.wf Z A n e;exact⟨K,e1,⟨w,k.fr.trans f fun _ _ h=>h,by rw[nx,k.nx]⟩,a,f⟩
theorem A9F(hR:A3Q A7)(hC:dk A7)(hV:du A7){k:Ix}(hw:Wf h)(hs:Ng h sv (N4 k))(ho:GM k)(hk:k.length≤8):C0 (G8 xg A7 cd [.agg ⟨[iN 4,sv,B7]⟩] h) (QR (.bool true) h):=by
 obtain⟨J,hJ,wJ,fJ,nJ,a1⟩:=J7 hw (B6 [iN 4,sv,B7] 3 57 true);have hwb:=hw.base;have csv:=hs.cell;have sl:=hs.len;rw[O1] at sl;have cn:PG (.negSucc 0) (.ofNat 0)=true:=rfl;refine B5 rfl ?_;simp(disch:=first|omega|(simp only[C6]<;>omega)) only[B0,reduceCtorEq,Nat.reduceAdd,hJ,a1,sl];refine D9.lp (P:=fun tm df H=>df=[]∧D0 tm [(Q0,C2 h.A6 0)]∧∃m,Ky h H m∧h.A6<m∧H.at h.A6=some (B6 [iN 4,sv,B7] 3 57 true)) ?_ ?_
 · refine K6 (n:=k.length) (by omega) (fun i tm H=>D0 tm [(Q0,C2 h.A6 0),(mR,sv),(ANh,iN k.length),([true,false,false,false],iN i)]∧∃m,Ky h H m∧h.A6<m∧H.at h.A6=some (B6 [iN 4,sv,B7] 3 57 true)) ⟨by simp[D0,T.A9],_,Ky.mk wJ fJ nJ,by omega,a1⟩ (fun i tm H hi hI=>?_) (fun tm H hI=>?_)
   · obtain⟨⟨t1,t27,t28,t29,-⟩,m,kH,hm,b1⟩:=hI;have hx:=X0 hi;have hsH:=hs.fr hw kH.fr;have vA:=hsH.A (by rw[O1];omega);rw[O1] at vA;have gl:=TC (Fv hx);obtain⟨K,hK,kK,c1,fK⟩:=kH.O5 [.string (O2 []),.string (O2 [])] (GL (valueOf k[i])) 2 187;have wK:=kK.wf;have nH:=kH.nx;have nK:=kK.nx;have b2:K.at h.A6=some (B6 [iN 4,sv,B7] 3 57 true):=by rw[fK.e _ (by omega)];exact b1
     have hsK:=hs.fr hw kK.fr;have vK:=hsK.A (by rw[O1];omega);rw[O1] at vK;have e1:=hR (B8 K K.A6 []) (valueOf k[i]) (wK.sb []) (XS _) (fb _);unfold GL at gl e1 c1 hK;unfold Qj;rcases Br i with h0|h0
     ·simp(disch:=first|omega|(simp only[C6]<;>omega)|assumption) only[B0,t27,t28,t29,vA,gl,hK,c1,e1];exact .go ⟨by simp[D0,T.A9,t1,t27,t28],_,kK,by omega,b2⟩
     · obtain⟨j,hj⟩:∃j,i=j+1:=⟨i-1,by omega⟩
       have hy:=X0 (show j<k.length by omega);have g2:=TC (Fv hy);have hlt:=List.pairwise_iff_getElem.1 ho j i (by omega) hi (by omega);have e2:gU (bl (valueOf k[j]).1) (bl (valueOf k[i]).1)=true:=by show gU (bl (W2 _)) (bl (W2 _))=true;rw[qB];exact decide_eq_true hlt
       have e3:Nv .i64 (.ofNat i) (.ofNat 1)=some (iN j):=by rw[hj,Fh .i64 (by omega),GC (by omega)];rfl
       have e4:=hC (B8 K K.A6 []) (valueOf k[j]) _ (wK.sb []) e2;unfold GL at g2 e4;simp(disch:=first|omega|(simp only[C6]<;>omega)|assumption) only[B0,reduceCtorEq,Nat.reduceAdd,t1,t27,t28,t29,b2,vA,vK,gl,g2,hK,c1,e1,e3,e4,cn];exact .go ⟨by simp[D0,T.A9,t1,t27,t28],_,kK,by omega,b2⟩
   ·obtain⟨⟨t1,t27,t28,t29,-⟩,m,kH,hm,b1⟩:=hI;unfold Qj;simp(disch:=omega) only[B0,t28,t29];exact .ex ⟨rfl,rfl,by simp[D0,T.A9,t1],m,kH,hm,b1⟩
 rintro tm df H ⟨rfl,⟨t1,-⟩,m,kH,hm,b1⟩;have nH:=kH.nx;simp(disch:=first|omega|(simp only[C6]<;>omega)) only[B0,reduceCtorEq,t1,b1,hV];refine .ret ?_;simp only[B0];exact⟨rfl,kH.fr.log⟩
abbrev lF(A7:Call):Prop:=∀H sv k,Wf H→Ng H sv (N4 k)→GM k→k.length≤8→A7 32 [.agg ⟨[iN 4,sv,B7]⟩] H=.val (.bool true) H
def AR5(e:TypeId)(s:Nat)(h:Hp)(x:A0)(m:Nat)(new:List A0):N3:=Np x (HI e s h m new) (Nu e s h m new) .none
theorem AFJ(e:TypeId)(v:A0)(st:ByteArray)(h:Hp):DJ e 1 v (.string st) h=AR5 e 1 h v (bl st).length (Bg (bl st)):=by show AR5 e 1 h v (len (bl st)) (Bg (bl st))=_;rw[R4]
theorem AIm{e:TypeId}{s:Nat}{n:Nat}{new:List A0}(hx:(∃b,x=F8 b 0 0 0)∨x=.slice none 0 0)(h0:0<n)(h1:n≤100000):
 AR5 e s h x n new=.val (F8 h.A6 0 n (C4 s n)) (h.new (B6 new new.length e false)):=by
 have hb:Nat.beq n 0=false:=U4 (by omega);unfold AR5;rcases hx with⟨b,rfl⟩|rfl
 ·rw[LM];unfold HI;rw[C1,show Nat.add 0 n=n from Ag n,show sure 0=0 from rfl,GD h0,cond_false,W8 (by omega:n≤16777216),cond_true];exact VA e s new n h
 ·rw[ADF];unfold Nu;rw[hb,cond_false,W8 (by omega:n≤16777216),cond_true];exact VA e s new n h
theorem AME{e:TypeId}{s:Nat}{n:Nat}{new:List A0}(h0:0<m)(h1:n+m≤100000)(hl:0<n)(hvs:vs.length=n*s)(hnew:new.length=m*s)(hone:K9 new=true)(ho:u0 e h b vs):
 ∃c2,AR5 e s h (F8 b 0 n (C4 s n)) m new=.val (F8 h.A6 0 (n+m) (C4 s (n+m))) ((h.put b none).new (.row c2 (vs++new).length e false false))∧∀k,k<(vs++new).length→c2.get (path k)=(vs++new)[k]?:=by
 have hb:Nat.beq m 0=false:=U4 (by omega);have hb0:Nat.beq n 0=false:=U4 (by omega);obtain⟨c,hat,hcs⟩:=ho;obtain⟨s1,s2,s3⟩:=Hf s n (by unfold R8;omega);have hN:Nat.add (n*s) new.length=(vs++new).length:=by rw[Bz,hvs];rfl
 refine⟨C7 new (n*s) c fun t=>t,?_,fun k hk=>?_⟩
 · revert s1 s2 s3;have hO:GJ e s (C7 new (n*s) c fun t=>t) (vs++new).length (n+m) (h.put b none)=.val (F8 h.A6 0 (n+m) (C4 s (n+m))) ((h.put b none).new (.row (C7 new (n*s) c fun t=>t) (vs++new).length e false false)):=by
    unfold GJ;rw[C1,Hp.DM,C1];rfl
   revert hO;generalize C4 s (n+m)=k2;generalize C4 s n=k1;intro hO s1 s2 s3;unfold AR5;rw[LM];unfold HI;rw[C1];rw[show Nat.add n m=n+m from rfl,s1,GD (by omega),cond_false,W8 (by omega),cond_true,hb0,cond_false,s2,cond_true,ABx,hat,FL,XK,cond_false,s3,hone,Dg e,show Nat.beq (s+1) (Nat.succ s)=true from Dg _,show Nat.mul n s=n*s from rfl,W8 (by rw[hvs];exact M8 _),Dg 0,bm,bm,bm,bm,cond_true,Hp.Hh,AK,R4,hN];exact hO
 · rw[V3];rw[Bz,hvs] at hk;by_cases hkl:k<n*s
   ·rw[if_neg (by omega),hcs k (by omega),OZ (by omega)]
   ·rw[if_pos (by omega),Gj (by omega),hvs]
theorem Ht:∀l:List UInt8,K9 (Bg l)=true
 | []=>rfl
 | _::l=>Ht l
theorem DE:∀l:List UInt8,(Bg l).length=l.length
 | []=>rfl
 | _::l=>congrArg (·+1) (DE l)
theorem aW:∀a b:List UInt8,Bg (a++b)=Bg a++Bg b
 | [],b=>rfl
 | c::a,b=>congrArg (Value.int .u8 (.ofNat c.toNat)::·) (aW a b)
structure IM(P:Nat→Prop)(h H:Hp):Prop where
 base:H.base=h.base
 A6:h.A6≤H.A6
 M5:∀b,b<h.A6→¬P b→H.at b=h.at b
 ls:∀x∈H.log,x∈h.log∨P x
 lg:(∀x,x<h.A6→P x→h.base≤x)→H.log=h.log
theorem IM.refl(P:Nat→Prop)(h:Hp):IM P h h:=⟨rfl,M8 _,fun _ _ _=>rfl,fun _ h=>.inl h,fun _=>rfl⟩
theorem IM.lower(f:IM P h H)(hp:∀x,x<h.A6→P x→h.base≤x):Fr P h H:=⟨f.base,f.lg hp,f.A6,f.M5⟩
theorem IM.same{a b c:Hp}(x:IM P a b)(y:IM P b c)(ha:a.base≤a.A6):IM P a c :=
 ⟨y.base.trans x.base,JJ x.A6 y.A6,fun k hk hp=>(y.M5 k (Ep hk x.A6) hp).trans (x.M5 k hk hp),fun k hk=>(y.ls k hk).elim (x.ls k) .inr,fun hp=>by
   rw[y.lg fun k hk hQ=>?_]
   ·exact x.lg hp
   ·rw[x.base];grind⟩
theorem IM.mono{a b:Hp}(x:IM P a b)(h:∀k,P k→Q k):IM Q a b:=⟨x.base,x.A6,fun k hk hq=>x.M5 k hk fun hp=>hq (h k hp),fun k hk=>(x.ls k hk).imp id (h k),fun hq=>x.lg fun k hk hp=>hq k hk (h k hp)⟩
theorem IM.CJ{a b:Hp}(x:IM P a b)(o:N2):IM P a (b.new o):=⟨x.base,by rw[Q6];have:=x.A6;omega,fun k hk hp=>by rw[Cz,if_neg (by have:=x.A6;omega)];exact x.M5 k hk hp,x.ls,x.lg⟩
theorem AI9{n:Nat}{l:List Nat}{k:Nat}(h:k∈Jk n l c):k∈l∨(k=c∧c<n):=by
 unfold Jk at h;rcases DX c n with hc|hc
 ·grind
 ·rw[GH (by omega),cond_false] at h;exact .inl h
theorem IM.O6{a b:Hp}(x:IM P a b)(o:Option N2)(ha:a.base≤a.A6)(hp:c<a.A6→P c):IM P a (b.put c o):=by
 refine⟨x.base,x.A6,fun k hk hP=>?_,fun k hk=>?_,fun hq=>?_⟩
 ·rw[IJ,if_neg (fun e=>hP (by grind))];exact x.M5 k hk hP
 · rcases AI9 (show k∈Jk b.base b.log c from hk) with h|⟨rfl,h⟩
   ·exact x.ls k h
   ·exact .inr (hp (by rw[x.base] at h;omega))
 · have h1:=x.lg hq;by_cases hc:c<a.A6
   ·rw[Jv (by rw[x.base];exact hq c hc (hp hc))];exact h1
   ·rw[Jv (by rw[x.base];omega)];exact h1
theorem Er{n:Nat}{AM:List Nat}:∀ {l:List Nat},(∀y∈l,n≤y)→below n l AM=AM
 | [],_=>rfl
 | y::l,h=>by show(bif Nat.blt y n then y::below n l AM else below n l AM)=AM;rw[GH (by simp_all),cond_false];exact Er fun z hz=>h z (EM _ hz)
theorem zu{cm:Nat→Nat→Bool}{k b:Nat}:∀ {l:List (Nat×Nat)},(∀p∈l,cm p.1 k=true)→By cm k b l=true
 | [],_=>rfl
 | p::l,h=>by show(bif Nat.beq p.2 b then(bif cm p.1 k then By cm k b l else false) else By cm k b l)=true;rw[h p Ct,cond_true,zu fun q hq=>h q (EM _ hq)];cases Nat.beq p.2 b<;>rfl
theorem AMd{cm:Nat→Nat→Bool}{k:Nat}{own:List (Nat×Bool)}{rs ws:List (Nat×Nat)}(h:∀p∈rs,cm p.1 k=true):∀log,allowed cm k true own ⟨[],rs,ws⟩ log=true
 | []=>rfl
 | b::log=>by show(bif true then(bif By cm k b rs then allowed cm k true own ⟨[],rs,ws⟩ log else false) else false)=true;rw[zu h,AMd h log];rfl
theorem AN9{e s:Nat}{n:Nat}{new:List A0}(hw:Wf h)(ho:Out e s (fun c=>lo≤c) h x n vs)(hlo:lo≤h.A6)(hy:Sl s h y m new)(hone:K9 new=true)(hm:0<m)(hnm:n+m≤100000):
 ∃v' H',DJ e s x y h=.val v' H'∧Out e s (fun c=>lo≤c) H' v' (n+m) (vs++new)∧Wf H'∧H'.A6=h.A6+1∧IM (fun c=>lo≤c) h H':=by
 obtain⟨yb,yo,yc,rfl,hhas⟩:=hy.pos hm;have hln:=hy.1;have hc:=hhas.cells hln.symm;have hwb:=hw.base;obtain⟨hl,h1,h2⟩:=ho;have hlen:(vs++new).length=(n+m)*s:=by grind
 have hall:=XO hone vs h1;rcases h2 with⟨rfl,hx⟩|⟨b,rfl,h3,h4,h5⟩
 ·have hv:=IU (by rw[hl,UM]);subst hv;have e1:=Jr (e:=e) (yc:=yc) hx hm (by omega) hc;exact⟨_,_,e1,⟨hlen,hall,.inr ⟨h.A6,by rw[Ag],by omega,Dy rfl,hlo⟩⟩,hw.new _,rfl,(IM.refl _ _).CJ _⟩
 ·have hlt:=h4.lt hw;obtain⟨c2,e1,hc2⟩:=tp (yc:=yc) hm hnm h3 hl hln hone hc h4;exact⟨_,_,e1,⟨hlen,hall,.inr ⟨h.A6,rfl,by omega,⟨c2,by rw[Cz];exact if_pos rfl,hc2⟩,hlo⟩⟩,(hw.put hlt _).new _,rfl,((IM.refl _ _).O6 none hwb fun _=>h5).CJ _⟩
def A9S(lo:Nat)(H:Hp)(cb:Nat)(l:List Nat):Prop:=∃bv,Out 5 1 (fun c=>lo≤c) H bv l.length (M4 l)∧H.at cb=some (B6 [bv] 1 301 true)∧Wf H∧cb<lo∧lo≤H.A6
theorem A9S.step{l:List Nat}(x:A9S lo H cb l)(hw:Wf H')(f:Fr N5 H H'):A9S lo H' cb l:=by
 obtain⟨bv,⟨h1,h2,h3⟩,hat,w,hc,hn⟩:=x;refine⟨bv,⟨h1,h2,?_⟩,by rw[f.e _ (by omega)];exact hat,hw,hc,JJ hn f.A6⟩;rcases h3 with h3|⟨b,e,p,o,q⟩
 ·exact .inl h3
 ·exact .inr ⟨b,e,p,o.K7 (f.e _ (o.lt w)),q⟩
theorem A9S.sb{l:List Nat}(x:A9S lo H cb l){n:Nat}{lg:List Nat}(hw:Wf (B8 H n lg)):A9S lo (B8 H n lg) cb l:=by obtain⟨bv,h1,hat,w,hc,hn⟩:=x;exact⟨bv,h1,hat,hw,hc,hn⟩
theorem AMI{x w:Nat}{l:List Nat}(hc:A9S lo h cb l)(hw4:w≤4)(hx:x<9223372036854775808)(hl:l.length≤1000):C0 (G8 AG6 A7 cd [C2 cb 0,iN x,iN w] h) (fun r H=>r=.tuple ⟨[]⟩∧A9S lo H cb (l++CX (Ti x w w))∧IM (fun c=>c=cb∨lo≤c) h H):=by
 have s1:∀k,k≤4→Nv .i64 (.ofNat k) (.ofNat 1)=some (.int .i64 (AV7 k)):=fun k hk=>(sub_one k).elim id fun h=>by omega
 have hwb:h.base≤h.A6:=by obtain⟨_,_,_,w,_⟩:=hc;exact w.base
 refine B5 rfl ?_;simp(disch:=omega) only[B0,s1];refine D9.Lt (φ:=fun e tm df H=>e=.exit 0∧df=[]∧A9S lo H cb (l++CX (Ti x w w))∧IM (fun c=>c=cb∨lo≤c) h H) ?_ ?_
 rotate_left
 ·rintro e tm df H ⟨rfl,rfl,hp⟩;simp only[B0];refine⟨.inl rfl,rfl,?_⟩;trivial
 · refine K6 (n:=w) (by omega) (fun i tm H=>D0 tm [([],C2 cb 0),(Q0,iN x),(Q8,.int .i64 (AV7 (w-i)))]∧A9S lo H cb (l++CX (Ti x w i))∧IM (fun c=>c=cb∨lo≤c) h H) ?_ (fun i tm H hi hI=>?_) (fun tm H hI=>?_)
   ·exact⟨by trivial,by simpa[Ti,CX] using hc,IM.refl _ _⟩
   · obtain⟨⟨t0,t1,t6,-⟩,⟨bv,ou,hat,wH,hclo,hlo⟩,fH⟩:=hI;obtain⟨d,hd⟩:∃d,w-i=d+1:=⟨w-i-1,by omega⟩
     rw[hd] at t6;have t6':tm.get Q8=some (iN d):=t6;have hy:AQO x w i=x/2^(8*d)%256:=by unfold AQO;grind
     have hy2:x/2^(8*d)%256<256:=by omega
     have e2:=ALe x (k:=8*d) (by omega);have e3:W4 .u8 (.ofNat (x/2^(8*d)))=.ofNat (x/2^(8*d)%256):=QH _;rw[←hy] at e3 hy2;have e4:=AUD hy2;generalize hz:AQO x w i=y at *;have hln:(l++CX (Ti x w i)).length≤1100:=by rw[Bz,ym,lO];omega
     have ou1:Out 5 1 (fun c=>lo≤c) (H.new (B6 (M4 [y,255-y]) 2 5 true)) bv (l++CX (Ti x w i)).length (M4 (l++CX (Ti x w i))):=by
      obtain⟨h1,h2,h3⟩:=ou;refine⟨h1,h2,?_⟩;rcases h3 with h3|⟨b,e,p,o,q⟩
      ·exact .inl h3
      ·exact .inr ⟨b,e,p,o.K7 (CN (by have:=o.lt wH;omega)),q⟩
     obtain⟨v',H',e1,ou2,w2,n2,f2⟩:=AN9 (wH.new _) ou1 (by rw[Q6];omega) (y:=F8 H.A6 0 2 2) ⟨rfl,.inr ⟨_,_,_,rfl,by omega,O3 Dm (by constructor<;>grind)⟩⟩ rfl (by omega) (by omega);have hat':H'.at cb=some (B6 [bv] 1 301 true):=by rw[f2.M5 _ (by rw[Q6];omega) (by omega),CN (by omega)];exact hat
     have fH2:=(fH.CJ _).same (f2.mono fun _ h=>.inr h) hwb;rw[←Ih,show l++CX (Ti x w i)++[y,255-y]=l++CX (Ti x w (i+1)) by rw[sR,hz,Xt,iX]] at ou2;have hll:(l++CX (Ti x w i)).length+2=(l++CX (Ti x w (i+1))).length:=by rw[sR,hz,Xt,Bz,Bz,Bz];rfl
     rw[hll] at ou2;have cv:=ou2.sl.cell;have cbv:=ou.sl.cell;have e1':DJ 5 1 bv (F8 H.A6 0 2 2) (H.new (B6 [bN y,bN (255-y)] 2 5 true))=.val v' H':=e1;unfold XL;simp(disch:=first|omega|(simp only[C6]<;>omega)|exact⟨rfl,rfl,rfl⟩|assumption) only[B0,reduceCtorEq,Nat.reduceAdd,Vh,t0,t1,t6',e2,e3,hat,e4,e1',hat',s1];refine .go ⟨by simp[D0,T.A9,t0,t1,show w-(i+1)=d by omega],⟨v',?_,by rw[K0];rfl,w2.put (by rw[n2,Q6];omega) _,hclo,by rw[zh,n2,Q6];omega⟩,fH2.O6 _ hwb fun _=>.inl rfl⟩;obtain⟨h1,h2,h3⟩:=ou2;refine⟨h1,h2,?_⟩;rcases h3 with h3|⟨b,e,p,o,q⟩
     ·exact .inl h3
     ·exact .inr ⟨b,e,p,o.K7 (E9 (by omega)),q⟩
   ·obtain⟨⟨t0,t1,t6,-⟩,hp⟩:=hI;rw[Wj] at t6;have t6':tm.get Q8=some (.int .i64 (.negSucc 0)):=t6;have e2:PG (.negSucc 0) (.ofNat 0)=true:=rfl;unfold XL;simp only[B0,t6',e2];exact .ex ⟨rfl,rfl,hp⟩
abbrev AL9(A7:Call):Prop:=∀h lo cb x w l,A9S lo h cb l→w≤4→x<9223372036854775808→l.length≤1000→∃H,A7 196 [C2 cb 0,iN x,iN w] h=.val (.tuple ⟨[]⟩) H∧A9S lo H cb (l++CX (Ti x w w))∧IM (fun c=>c=cb∨lo≤c) h H
def qR(b:Nat):List A0:=[C2 b 0,iN 1,C2 b 1,iN 2,C2 b 2,iN 1,C2 b 3,iN 4,C2 b 4,iN 1,C2 b 5,iN 1,C2 b 6,iN 1,C2 b 7,iN 2,C2 b 8,iN 2]
abbrev JFieldsR(g:List A0→Hp→N3):Prop:=∀h b,Wf h→g [C2 b 0] h=.val (F8 h.A6 0 9 9) (h.new (B6 (qR b) 18 307 true))
theorem A6z:JFieldsR (G8 qc A7 cd):=by intro h b hw;have hwb:=hw.base;refine VI.get ?_;refine B5 rfl ?_;simp(disch:=first|omega|exact⟨rfl,rfl,rfl⟩|assumption) only[B0,reduceCtorEq,Nat.reduceAdd,Vh];refine .ret ?_;simp only[B0];exact⟨rfl,rfl⟩
abbrev tP(A7:Call):Prop:=JFieldsR (A7 195)
theorem aM:∀l:List UInt8,bytesOf (Bg l)=some l
 | []=>rfl
 | c::l=>by have h:=c.toNat_lt;show(bif Nat.blt c.toNat 256 then R5 (bytesOf (Bg l)) (fun r=>some (UInt8.ofNat c.toNat::r)) none else none)=_;rw[BW h,cond_true,aM l,UInt8.ofNat_toNat];rfl
def AHo(lo:Nat)(H:Hp)(v:A0)(n:Nat)(l:List UInt8):Prop:=(n=0∧Out 5 1 (fun c=>lo≤c) H v l.length (Bg l))∨(0<n∧l.length≤n∧n≤100000∧∃c cc,v=F8 c 0 l.length (C4 1 n)∧lo≤c∧H.at c=some (.row cc n 5 false false)∧∀k,k<l.length→cc.get (path k)=(Bg l)[k]?)
theorem AHo.cell{v:A0}{n:Nat}{l:List UInt8}(x:AHo lo H v n l):Cell v:=by
 rcases x with⟨_,x⟩|⟨_,_,_,c,cc,rfl,_⟩
 ·exact x.sl.cell
 ·exact VO
theorem AHo.K7{v:A0}{n:Nat}{l:List UInt8}(x:AHo lo H v n l)(hw:Wf H)(k:∀c,lo≤c→c<H.A6→H'.at c=H.at c):AHo lo H' v n l:=by
 rcases x with⟨h0,h1,h2,h3⟩|⟨h0,h1,hn,c,cc,hv,h2,h3,h4⟩
 · refine .inl ⟨h0,h1,h2,?_⟩;rcases h3 with h3|⟨b,e,p,o,q⟩
   ·exact .inl h3
   ·exact .inr ⟨b,e,p,o.K7 (k b q (o.lt hw)),q⟩
 ·exact .inr ⟨h0,h1,hn,c,cc,hv,h2,by rw[k c h2 (hw.lt h3)];exact h3,h4⟩
theorem AHo.str{v:A0}{n:Nat}{l:List UInt8}{st:ByteArray}(x:AHo lo h v n l)(hw:Wf h)(hlo:lo≤h.A6)(hm:0<(bl st).length)(hnm:l.length+(bl st).length≤100000)(hg:n=0∨l.length+(bl st).length≤n):
 ∃v' H',DJ 5 1 v (.string st) h=.val v' H'∧AHo lo H' v' n (l++bl st)∧Wf H'∧h.A6≤H'.A6∧IM (fun c=>lo≤c) h H':=by
 have hwb:=hw.base;rcases x with⟨rfl,ho⟩|⟨h0,h1,hn,c,cc,rfl,h2,h3,h4⟩
 · rw[AFJ];have hl1:(Bg (bl st)).length=(bl st).length*1:=by rw[DE,jH]
   obtain⟨ho1,ho2,ho3⟩:=ho;have hlen:(Bg (l++bl st)).length=(l++bl st).length*1:=by rw[DE,jH]
   rcases ho3 with⟨hl0,hx⟩|⟨b,rfl,hn0,hown,hPb⟩
   ·have hv:=IU hl0;subst hv;have e1:=AIm (e:=5) (s:=1) (h:=h) (new:=Bg (bl st)) hx hm (by omega);exact⟨_,_,e1,.inl ⟨rfl,hlen,Ht _,.inr ⟨_,rfl,by simpa using hm,Dy rfl,hlo⟩⟩,hw.new _,by rw[Q6];omega,(IM.refl _ _).CJ _⟩
   ·have hlt:=hown.lt hw;obtain⟨c2,ea,hc2⟩:=AME hm hnm hn0 ho1 hl1 (Ht _) hown;rw[←aW] at ea hc2;refine⟨_,_,ea,.inl ⟨rfl,hlen,Ht _,.inr ⟨h.A6,by rw[Bz],by rw[Bz];omega,⟨c2,by rw[Cz];exact if_pos rfl,hc2⟩,hlo⟩⟩,(hw.put hlt _).new _,by rw[Q6,zh];omega,((IM.refl _ _).O6 none hwb fun _=>hPb).CJ _⟩
 · have hg':l.length+(bl st).length≤n:=by omega
   obtain⟨s1,s2,s3⟩:=Hf 1 n (by unfold R8;omega);have e1:AR5 5 1 h (F8 c 0 l.length (C4 1 n)) (bl st).length (Bg (bl st))=.val (F8 c 0 (l.length+(bl st).length) (C4 1 n)) (h.put c (some (.row (C7 (Bg (bl st)) l.length cc fun t=>t) n 5 false false))):=by generalize C4 1 n=k1 at *;unfold AR5;rw[LM];unfold HI;rw[C1,show Nat.add l.length (bl st).length=l.length+(bl st).length from rfl,s1,W8 hg',cond_true,U4 (by omega),cond_false,ZN,h3,FL,XK,cond_false,Ht,cond_true,DE,show Nat.add 0 (Nat.mul l.length 1)=l.length by simp,W8 hg',cond_true]
   have hlt:=hw.lt h3;refine⟨_,_,by rw[AFJ];exact e1,.inr ⟨h0,by grind,hn,c,_,by rw[Bz],h2,K0,fun k hk=>?_⟩,hw.put hlt _,M8 _,(IM.refl _ _).O6 _ hwb fun _=>h2⟩;rw[V3,DE];rw[Bz] at hk;by_cases hkl:k<l.length
   ·rw[if_neg (by omega),h4 k hkl,aW,OZ (by rw[DE];exact hkl)]
   ·rw[if_pos (by omega),aW,Gj (by rw[DE];omega),DE]
def A47(lo:Nat)(H:Hp)(b n:Nat)(l:List UInt8):Prop:=∃p v,(p=.pointer none∨p=C2 b 0)∧AHo lo H v n l∧H.at b=some (B6 [p,v] 2 288 true)∧Wf H∧b<lo∧lo≤H.A6
theorem AUi(x:OD)(lo:List A0)(tm:T A0):A8a x lo tm=AOg (G4 x lo tm):=rfl
theorem AS5(u s:Nat)(x:OD)(lo:List A0)(tm:T A0):A64 u s x lo tm=ANO u s (G4 x lo tm):=rfl
theorem ASG(b o:Nat):AOg (C2 b o)=.read b fun ob=>Jc ob (fun _ n _ _ _=>bif Nat.blt o n then some (C2 b o) else none) none:=rfl
theorem ATG(u s b o:Nat):ANO u s (C2 b o)=.read b fun ob=>Jc ob (fun _ n e cl _=>bif cl&&Nat.beq e u&&Nat.blt o n&&Nat.beq (Nat.mod o s) 0&&Nat.ble (Nat.add o s) n then some (C2 b o) else none) none:=rfl
theorem ALb(x:OD)(lo:List A0)(tm:T A0):An x lo tm=dj (G4 x lo tm):=rfl
theorem ALC(b o:Nat):dj (C2 b o)=some (C2 b o):=rfl
theorem AMs(neg:Bool)(x:OD)(lo:List A0)(tm:T A0):AB A7U neg x lo tm=R5 (A7U (G4 x lo tm)) (fun t=>some (.bool (Dp neg (!t)))) none:=by unfold AB;simp only[Gv]
theorem AWa(neg:Bool)(x y:OD)(lo:List A0)(tm:T A0):A9A neg x y lo tm=R5 (AZy (G4 x lo tm) (G4 y lo tm)) (fun t=>some (.bool (Dp neg (!t)))) none:=by unfold A9A;simp only[Gv]
theorem AU7:A7U (.pointer none)=some true:=rfl
theorem ATD(b o:Nat):A7U (C2 b o)=some false:=rfl
theorem AVf(b o:Nat):AZy (C2 b o) (C2 b o)=some true:=by show(bif Nat.beq b b then some (Nat.beq o o) else none)=_;simp
theorem Aa9:Dp false (!true)=true:=rfl
theorem Aa3:Dp false (!false)=false:=rfl
theorem Aaq:Dp true (!true)=false:=rfl
def AON:=L0 @ALb<|L0 @ALC<|L0 @AUi<|L0 @AS5<|L0 @ASG<|L0 @ATG<|L0 @AMs<|L0 @AWa<|And.intro AU7<|And.intro ATD<|L0 @AVf<|And.intro Aa9<|And.intro Aa3 Aaq
theorem A47.put{n:Nat}{l:List UInt8}{v:A0}(x:AHo lo H v n l)(hw:Wf H)(hb:b<lo)(hlo:lo≤H.A6):A47 lo (H.put b (some (B6 [C2 b 0,v] 2 288 true))) b n l:=⟨_,v,.inr rfl,x.K7 hw fun c h1 _=>E9 (by omega),K0,hw.put (by omega) _,hb,by rw[zh];exact hlo⟩
abbrev SbCheckR(g:List A0→Hp→N3):Prop:=∀h lo b n l,A47 lo h b n l→C0 (g [C2 b 0] h) (fun r H=>r=.tuple ⟨[]⟩∧A47 lo H b n l∧(∃v,H.at b=some (B6 [C2 b 0,v] 2 288 true)∧AHo lo H v n l)∧IM (fun c=>c=b) h H∧h.A6≤H.A6)
theorem A8z:SbCheckR (G8 qC A7 cd):=by
 intro h lo b n l hs;obtain⟨p,v,hp,hb,hat,hw,hlt,hlo⟩:=hs;have hwb:=hw.base;have cv:=hb.cell;refine B5 rfl ?_;rcases hp with rfl|rfl
 ·simp(disch:=first|omega|(simp only[C6]<;>omega)|assumption) only[B0,reduceCtorEq,Nat.reduceAdd,AON,hat];refine⟨.inl rfl,rfl,?_⟩;simp only[B0];exact⟨A47.put hb hw hlt hlo,⟨v,rfl,hb.K7 hw fun c h1 _=>E9 (by omega)⟩,(IM.refl _ _).O6 _ hwb fun _=>rfl,M8 _⟩
 ·simp(disch:=first|omega|(simp only[C6]<;>omega)) only[↓CG,B0,reduceCtorEq,Nat.reduceAdd,AON,hat];refine⟨.inl rfl,rfl,?_⟩;simp only[B0];exact⟨⟨_,v,.inr rfl,hb,hat,hw,hlt,hlo⟩,⟨v,hat,hb⟩,IM.refl _ _,M8 _⟩
abbrev A7v(A7:Call):Prop:=SbCheckR (A7 269)
abbrev SbWriteR(g:List A0→Hp→N3):Prop:=∀h lo b n l st,A47 lo h b n l→0<(bl st).length→l.length+(bl st).length≤100000→(n=0∨l.length+(bl st).length≤n)→C0 (g [C2 b 0,.string st] h) (fun r H=>r=.tuple ⟨[iN (bl st).length,.nilIface]⟩∧A47 lo H b n (l++bl st)∧IM (fun c=>c=b∨lo≤c) h H)
theorem A6l(hC:A7v A7):SbWriteR (G8 nj A7 cd):=by
 intro h lo b n l st hs hm hnm hg;have hwb:h.base≤h.A6:=by obtain⟨_,_,_,_,_,w,_⟩:=hs;exact w.base
 obtain⟨r1,J,e1,rfl,sJ,⟨v,hat,hb⟩,fJ,nJ⟩:=(hC h lo b n l hs).get;obtain⟨_,_,_,_,_,wJ,hlt,hlo⟩:=sJ;obtain⟨v',K,e2,hb',wK,nK,fK⟩:=hb.str wJ hlo hm hnm hg;have cv:=hb.cell;have cv':=hb'.cell;have b2:K.at b=some (B6 [C2 b 0,v] 2 288 true):=by rw[fK.M5 _ (by omega) (by omega)];exact hat
 refine B5 rfl ?_;simp(disch:=first|omega|(simp only[C6]<;>omega)) only[B0,reduceCtorEq,AON,e1,hat,e2,b2];refine .ret ?_;simp only[B0];exact⟨A47.put hb' wK hlt (by omega),((fJ.mono fun _ h=>.inl h).same (fK.mono fun _ h=>.inr h) hwb).O6 _ hwb fun _=>.inl rfl⟩
theorem AHo.row{v:A0}{n:Nat}{l:List UInt8}(x:AHo lo H v n l)(h0:0<l.length):∃c k m cc,v=F8 c 0 l.length k∧0<k∧lo≤c∧l.length≤m∧H.at c=some (.row cc m 5 false false)∧V6 cc 0 l.length []=some (Bg l):=by
 rcases x with⟨_,h1,h2,⟨h3,_⟩|⟨b,rfl,h3,⟨c,hat,hc⟩,h5⟩⟩|⟨h1,h2,h3,c,cc,rfl,h4,h5,h6⟩
 ·omega
 · have hl:=FO fun k hk=>by rw[Ag];exact hc k hk
   rw[DE] at hl hat;exact⟨b,_,_,c,rfl,by show 0<C4 1 l.length;unfold C4;show 0<R8*2+l.length;omega,h5,M8 _,hat,hl⟩
 · have hl:=FO fun k hk=>by rw[Ag];rw[DE] at hk;exact h6 k hk
   rw[DE] at hl;exact⟨c,_,_,cc,rfl,by unfold C4;show 0<R8*2+n;omega,h4,h2,h5,hl⟩
def ARJ(v:A0):Option A0:=XJ (.val v) [] .nil
theorem AOB(x:OD)(lo:List A0)(tm:T A0):XJ x lo tm=ARJ (G4 x lo tm):=rfl
theorem AMg{o l:Nat}(hl:0<l)(hc:0<c):ARJ (F8 b o l c)=some (C2 b o):=by show(bif Nat.beq l 0 then none else bif Nat.beq c 0 then none else some (C2 b o))=_;rw[U4 (by omega),U4 (by omega)];rfl
def AX5(e:TypeId)(x n:A0)(h:Hp):N3:=nT e (.val x) (.val n) (fun _ _ _=>.none) [] .nil h
theorem AS9(e:TypeId)(x n:OD)(A7:Call)(lo:List A0)(tm:T A0)(h:Hp):nT e x n A7 lo tm h=AX5 e (G4 x lo tm) (G4 n lo tm) h:=rfl
theorem ANL{e:TypeId}{cc:T A0}{cl:Bool}{l:List UInt8}(h0:0<l.length)(hb:l.length≤100000)(hat:h.at b=some (.row cc m e cl false))(hm:l.length≤m)(hl:V6 cc 0 l.length []=some (Bg l)):AX5 e (C2 b 0) (iN l.length) h=.val (.string (O2 l)) (h.put b (some (.row cc m e cl true))):=by show(bif Nat.beq l.length 0||Nat.blt 16777216 l.length then N3.none else Is h b (fun c m e' cl _=>bif Nat.beq e e' then bif Nat.ble (Nat.add 0 l.length) m then R5 (V6 c 0 l.length []) (fun cs=>R5 (bytesOf cs) (fun bs=>h.Ei b (some (.row c m e' cl true)) fun h=>YP (Tm bs) h) .none) .none else .none else .none) .none)=_;rw[U4 (by omega),GH (by omega),Bool.or_false,cond_false,ABx,hat,FL,XK,Dg,cond_true,show Nat.add 0 l.length=l.length from Ag _,W8 hm,cond_true,hl,FL,aM,FL,Hp.Hh];rfl
def Aar:=L0 @AOB<|@AS9
abbrev SbStringR(g:List A0→Hp→N3):Prop:=∀h lo b n l,A47 lo h b n l→0<l.length→l.length≤100000→C0 (g [C2 b 0] h) (fun r H=>r=.string (O2 l)∧Wf H∧IM (fun c=>lo≤c) h H)
theorem A0Q:SbStringR (G8 gR A7 cd):=by
 intro h lo b n l hs h0 hl;obtain⟨p,v,hp,hb,hat,hw,hlt,hlo⟩:=hs;have hwb:=hw.base;obtain⟨c,k,m,cc,rfl,hk,hc,hm,hcat,hld⟩:=hb.row h0;have hcl:=hw.lt hcat;have e1:=AMg (b:=c) (o:=0) h0 hk;have e2:=ANL (h:=B8 h h.A6 []) h0 hl hcat hm hld;refine B5 rfl ?_;simp(disch:=first|omega|(simp only[C6]<;>omega)|assumption) only[B0,reduceCtorEq,AON,Aar,hat,e1,e2];refine .ret ?_;simp only[B0];have hn:h.A6≤(h.put c (some (.row cc m 5 false true))).A6:=M8 _;refine⟨(hw.put hcl _).AHk hwb _,rfl,hn,fun k hk hP=>E9 fun e=>hP (e▸hc),fun x hx=>?_,fun hq=>?_⟩
 · have hx':x∈below h.base [c] h.log:=hx;have hx2:x∈(bif Nat.blt c h.base then c::h.log else h.log):=hx';cases hb2:Nat.blt c h.base with
   | true =>
    rw[hb2,cond_true] at hx2;rcases m8.1 hx2 with rfl|h1
    ·exact .inr hc
    ·exact .inl h1
   | false=>rw[hb2,cond_false] at hx2;exact .inl hx2
 ·exact Er fun y hy=>by rw[LZ.1 hy];exact hq c hcl hc
theorem A47.step{n:Nat}{l:List UInt8}(x:A47 lo H b n l)(hw:Wf H')(f:Fr N5 H H'):A47 lo H' b n l:=by obtain⟨p,v,hp,hb,hat,w,h1,h2⟩:=x;exact⟨p,v,hp,hb.K7 w fun c _ hc=>f.e c hc,by rw[f.e _ (by omega)];exact hat,hw,h1,JJ h2 f.A6⟩
theorem A47.wf{n:Nat}{l:List UInt8}(x:A47 lo H b n l):Wf H:=by obtain⟨p,v,hp,hb,hat,w,h1,h2⟩:=x;exact w
def ALN(vs:List A0)(s:List UInt8):Prop:=(vs=[.string (O2 [115,101,116,116,105,110,103,115]),.string (O2 [52])]∧s=HN)∨∃x:Nat×Nat,vs=[.string (O2 [118,97,108]),.string (valueOf x).1,.string (valueOf x).2]∧s=JI (valueOf x)
theorem ALN.len{s:List UInt8}(h:ALN vs s):s.length≤10:=by
 rcases h with⟨_,rfl⟩|⟨x,_,rfl⟩
 ·decide
 ·exact fF (AES x)
abbrev ARj(A7:Call):Prop:=∀h b vs s,ALN vs s→h.at b=some (B6 vs vs.length 9 true)→A7 188 [F8 b 0 vs.length vs.length,.string (O2 [32])] h=.val (.string (O2 s)) h
def AW7:=L0 @EB @BS
abbrev A9t(A7:Call):Prop:=SbWriteR (A7 187)
abbrev SPrint1R(g:List A0→Hp→N3):Prop:=∀h lo b c l s vs,A47 lo h b 0 l→ALN vs s→h.at c=some (B6 vs vs.length 9 true)→l.length≤1000→C0 (g [F8 c 0 vs.length vs.length,C2 b 0] h) (fun r H=>r=.tuple ⟨[]⟩∧A47 lo H b 0 (l++(s++[10]))∧IM (fun c=>c=b∨lo≤c) h H)
theorem A6D(hJ:ARj A7)(hW:A9t A7):SPrint1R (G8 pE A7 cd):=by
 intro h lo b c l s vs hs hj hat hl;have hsl:=hj.len
 haveI:BL s 10:=⟨hsl⟩
 have e1:=hJ h c vs s hj hat;obtain⟨r,K,e2,rfl,sK,fK⟩:=(hW h lo b 0 l (O2 (s++[10])) hs (by show 0<(s++[10]).length;simp) (by show l.length+(s++[10]).length≤100000;simp;omega) (.inl rfl)).get;refine B5 rfl ?_;simp(disch:=omega) only[B0,e1,A1S,e2];refine⟨.inl rfl,rfl,?_⟩;trivial
abbrev A4v(A7:Call):Prop:=SPrint1R (A7 186)
abbrev xS(A7:Call):Prop:=SbStringR (A7 190)
abbrev AJ0(A7:Call):Prop:=∀H,A7 189 [iN 4] H=.val (.string (O2 [52])) H
theorem AAH(hV:lF A7)(hI:AJ0 A7)(hP:A4v A7)(hS:xS A7){k:Ix}(hw:Wf h)(hs:Ng h sv (N4 k))(ho:GM k)(hk:k.length≤3):C0 (G8 A0t A7 cd [.agg ⟨[iN 4,sv,B7]⟩] h) (QR (.string (O2 (O9 (N4 k)))) h):=by
 obtain⟨J,hJ,wJ,fJ,nJ,a1⟩:=J7 hw (B6 [iN 4,sv,B7] 3 57 true);have hwb:=hw.base;have csv:=hs.cell;have sl:=hs.len;rw[O1] at sl;have e1:=hV J sv k wJ (hs.fr hw fJ) ho (by omega);obtain⟨K,hK,wK,fK,nK,a2⟩:=J7 wJ (B6 [.pointer none,B7] 2 288 true);have sK:A47 (h.A6+2) K (h.A6+1) 0 []:=⟨.pointer none,B7,.inl rfl,.inl ⟨rfl,Out.nil⟩,by rw[←nJ];exact a2,wK,by omega,by omega⟩
 obtain⟨L,hL,wL,fL,nL,a3⟩:=J7 wK (B6 [.string (O2 [115,101,116,116,105,110,103,115]),.string (O2 [52])] 2 9 true);obtain⟨r,M,e2,rfl,sM,fM⟩:=(hP L _ _ _ [] _ _ (sK.step wL fL) (.inl ⟨rfl,rfl⟩) a3 (by simp)).get;have fJM:IM (fun c=>h.A6<c) J M:=by
  have x1:IM (fun c=>h.A6<c) J L:=by rw[←hL,←hK];exact((IM.refl _ J).CJ _).CJ _
  exact x1.same (fM.mono fun k hk=>by omega) wJ.base
 rw[show K.A6=h.A6+1+1 by omega] at e2;have e2':A7 186 [F8 (h.A6+1+1) 0 2 2,C2 (h.A6+1) 0] L=_:=e2;have t00:O9 (N4 (k.take 0))=[]++(HN++[10]):=by simp[N4,O9,CK]
 rw[←t00] at sM;have a1K:K.at h.A6=some (B6 [iN 4,sv,B7] 3 57 true):=by rw[fK.e _ (by omega)];exact a1
 have a1M:M.at h.A6=some (B6 [iN 4,sv,B7] 3 57 true):=by rw[fJM.M5 _ (by omega) (by omega)];exact a1
 refine B5 rfl ?_;simp(disch:=first|omega|(simp only[C6]<;>omega)|exact⟨rfl,rfl,rfl⟩|assumption) only[B0,reduceCtorEq,Nat.reduceAdd,hJ,a1,a1K,a1M,sl,e1,hK,hI,hL,nJ,nK,AJK,AW7,e2'];refine D9.lp (P:=fun tm df H=>df=[]∧D0 tm [(Q0,C2 h.A6 0),(Q3,C2 (h.A6+1) 0)]∧A47 (h.A6+2) H (h.A6+1) 0 (O9 (N4 k))∧IM (fun c=>h.A6<c) J H) ?_ ?_
 · refine K6 (n:=k.length) (by omega) (fun i tm H=>D0 tm [(Q0,C2 h.A6 0),(Q3,C2 (h.A6+1) 0),(V1,.func (.func 186) ⟨[]⟩ ⟨[C2 (h.A6+1) 0]⟩),(AFn,sv),([true,false,false,true],iN k.length),([false,false,false,true],iN i)]∧A47 (h.A6+2) H (h.A6+1) 0 (O9 (N4 (k.take i)))∧IM (fun c=>h.A6<c) J H) ⟨by simp[D0,T.A9],sM,fJM⟩ (fun i tm H hi hI=>?_) (fun tm H hI=>?_)
   · obtain⟨⟨t1,t3,t4,t20,t21,t22,-⟩,sH,fH⟩:=hI;have hx:=X0 hi;have wH:=sH.wf;have hsH:Ng H sv (N4 k):=(hs.fr hw fJ).K7 fun c h0 hc=>by
      have:=(hs.fr hw fJ).lt wJ h0 hc;exact fH.M5 c this (by omega)
     have vA:=hsH.A (by rw[O1];omega);rw[O1] at vA;have gl:=TC (Fv hx);obtain⟨K1,hK1,w1,f1,n1,c1⟩:=O5 wH [.string (O2 []),.string (O2 [])] (GL (valueOf k[i])) 2 187;obtain⟨L1,hL1,w2,f2,n2,c2⟩:=J7 w1 (B6 [.string (O2 [118,97,108]),.string (valueOf k[i]).1,.string (valueOf k[i]).2] 3 9 true);have hlen:(O9 (N4 (k.take i))).length≤44:=HS (GF _) (by rw[O1,FB];omega);obtain⟨r,M1,e3,rfl,sM1,fM1⟩:=(hP L1 _ _ _ _ _ _ ((sH.step w1 f1).step w2 f2) (.inr ⟨k[i],rfl,rfl⟩) c2 (by omega)).get;have fM2:IM (fun c=>h.A6<c) J M1:=by
      have x1:IM (fun c=>h.A6<c) J L1:=by rw[←hL1,←hK1];exact(((fH.CJ _).O6 _ wJ.base fun _=>by have:=fH.A6;omega).CJ _)
      exact x1.same (fM1.mono fun k hk=>by omega) wJ.base
     rw[←pz] at sM1;have hst:N4 (k.take (i+1))=N4 (k.take i)++[valueOf k[i]]:=by rw[take_one hx];unfold N4;rw[A7y,ADo]
     rw[←hst] at sM1;rw[n1] at e3;have e3':A7 186 [F8 (H.A6+1) 0 3 3,C2 (h.A6+1) 0] L1=_:=e3;unfold GL at gl c1 hK1;unfold Pu;simp(disch:=first|omega|(simp only[C6]<;>omega)|exact⟨rfl,rfl,rfl⟩|assumption) only[B0,reduceCtorEq,Nat.reduceAdd,t4,t20,t21,t22,vA,gl,hK1,c1,hL1,AJK,AW7,n1,e3'];exact .go ⟨by simp[D0,T.A9,t1,t3,t4,t20,t21],sM1,fM2⟩
   ·obtain⟨⟨t1,t3,t4,t20,t21,t22,-⟩,sH,fH⟩:=hI;rw[Rm] at sH;unfold Pu;simp(disch:=omega) only[B0,t21,t22];exact .ex ⟨rfl,rfl,by simp[D0,T.A9,t1,t3],sH,fH⟩
 rintro tm df H ⟨rfl,⟨t1,t3,-⟩,sH,fH⟩;have a1H:H.at h.A6=some (B6 [iN 4,sv,B7] 3 57 true):=by rw[fH.M5 _ (by omega) (by omega)];exact a1
 simp(disch:=first|omega|(simp only[C6]<;>omega)) only[B0,t1,a1H];refine D9.lp (P:=fun tm df H'=>df=[]∧D0 tm [(Q3,C2 (h.A6+1) 0)]∧H'=H) ?_ ?_
 ·refine K6 (n:=0) (by omega) (fun i tm H'=>D0 tm [(Q3,C2 (h.A6+1) 0),([false,true,false,true,true],iN 0),([true,false,false,true,true],iN i)]∧H'=H) ⟨by simp[D0,T.A9,t3],rfl⟩ (fun i tm H hi hI=>by omega) (fun tm H' hI=>?_);obtain⟨⟨t3,t36,t37,-⟩,rfl⟩:=hI;unfold Yk;simp(disch:=omega) only[B0,t36,t37];exact .ex ⟨rfl,rfl,by simp[D0,T.A9,t3],rfl⟩
 rintro tm df H' ⟨rfl,⟨t3,-⟩,rfl⟩;have hpos:0<(O9 (N4 k)).length:=by simp[O9,CK];omega
 obtain⟨r,G,e4,rfl,wG,fG⟩:=(hS H' _ _ _ _ sH hpos (by have:=HS (GF k) (by rw[O1];omega);omega)).get;simp only[B0,t3,e4];refine .ret ?_;simp only[B0];refine⟨rfl,?_⟩;have x1:=fH.same (fG.mono fun k hk=>by omega) wJ.base;rw[x1.lg fun x h1 h2=>by omega,fJ.log]
abbrev ku(A7:Call):Prop:=∀H sv k,Wf H→Ng H sv (N4 k)→GM k→k.length≤3→A7 95 [.agg ⟨[iN 4,sv,B7]⟩] H=.val (.string (O2 (O9 (N4 k)))) H
def AYx:=@Xh
abbrev DContentsR(g:List A0→Hp→N3):Prop:=∀h sv k size,Wf h→Ng h sv (N4 k)→GM k→k.length≤3→44≤size→size≤5000→C0 (g [.agg ⟨[iN 4,sv,B7]⟩,iN size] h) (AND (Y6 k size) h)
theorem vj(hP:ku A7)(hF:tz A7):DContentsR (G8 bU A7 cd):=by
 intro h sv k size hw hs ho hk h44 hsz;obtain⟨J,hJ,wJ,fJ,nJ,a1⟩:=J7 hw (B6 [iN 4,sv,B7] 3 57 true);have hwb:=hw.base;have csv:=hs.cell;have e1:=hP J sv k wJ (hs.fr hw fJ) ho hk;have tl:=HS (GF k) (by rw[O1];exact hk);have tl0:0<(O9 (N4 k)).length:=by simp[O9,CK];omega
 have hop:Nat.blt (O9 (N4 k)).length R8=true:=BW (by unfold R8;omega);obtain⟨K,hK,wK,fK,nK,b1⟩:=J7 wJ (B6 (Bg (O9 (N4 k))) (O9 (N4 k)).length 5 false);rw[lH] at b1;have hsl:Sl 1 K (F8 J.A6 0 (O9 (N4 k)).length (C4 1 (O9 (N4 k)).length)) (Nn (O9 (N4 k))).length (M4 (Nn (O9 (N4 k)))):=by rw[BI];exact⟨by rw[O4,BI,jH],.inr ⟨_,_,_,rfl,tl0,O3 b1 (by rw[O4,BI];exact M8 _)⟩⟩
 obtain⟨v,H,e2,⟨hv,ht,hlo⟩,w2,f2⟩:=(hF K _ (Nn (O9 (N4 k))) size wK hsl (by omega) hsz (by rw[BI];omega)).get;have fJK:=fJ.trans fK fun _ _ h=>h;have g2:=f2.A6;refine B5 rfl ?_;simp(disch:=first|omega|(simp only[C6]<;>omega)) only[B0,reduceCtorEq,hJ,a1,e1,AYx,hop,hK,e2];refine .ret ?_;simp only[B0];exact⟨⟨hv,ht,fun c hc=>by have:=hlo c hc;omega⟩,w2,fJK.trans f2 fun _ _ h=>h⟩
abbrev tG(A7:Call):Prop:=DContentsR (A7 33)
abbrev AM2:A0:=.string (O2 [10])
def AJF(v c:A0):PR:=A7k (.val v) (.val c) [] .nil
theorem ARY(x c:OD)(lo:List A0)(tm:T A0):A7k x c lo tm=AJF (G4 x lo tm) (G4 c lo tm):=rfl
theorem AUA(l:List UInt8):AJF (.string (O2 l)) (bN 10)=.val (iN (GQ 10 l 0)):=by show A3k (AD .i64 (GQ 10 l 0))=_;rw[Aa];rfl
def AZW(v c:A0):PR:=AIg (.val v) (.val c) [] .nil
theorem AW9(x c:OD)(lo:List A0)(tm:T A0):AIg x c lo tm=AZW (G4 x lo tm) (G4 c lo tm):=rfl
theorem AWR(l:List UInt8):AZW (.string (O2 l)) (bN 10)=.val (.int .i64 (LA 10 l 0)):=by show A3k (GA .i64 (LA 10 l 0))=_;rw[Cg];rfl
theorem Aa0:YH [10] 0=some 10:=rfl
theorem Aa2:bl (O2 [10])=[10]:=rfl
theorem Aaa:(10:UInt8).toNat=10:=rfl
theorem Aau:PH [10] []=false:=rfl
theorem AZg(a b c d:A0):(C7 [a,b,c,d] 0 .nil fun t=>t).get []=some a:=rfl
theorem AYU(a b c d:A0):(C7 [a,b,c,d] 0 .nil fun t=>t).get Q0=some b:=rfl
theorem AYO(a b c d:A0):(C7 [a,b,c,d] 0 .nil fun t=>t).get T1=some c:=rfl
theorem AY7(a b c d:A0):(C7 [a,b,c,d] 0 .nil fun t=>t).get Q3=some d:=rfl
def AS3:=L0 @AZg<|L0 @AYU<|L0 @AYO<|@AY7
def AMp:=L0 @ARY<|L0 @AUA<|L0 @AW9<|L0 @AWR<|And.intro Aa0<|And.intro Aa2<|And.intro Aaa<|And.intro Aau<|@Zm
abbrev Yx(F:FuncId)(x:A0)(A7:Call):Prop:=∀H l,l≠[10]→A7 F [.string (O2 l),x] H=.val (.int .i64 (LA 10 l 0)) H
theorem A7S{l:List UInt8}:C0 (G8 pC A7 cd [.string (O2 l),bN 10] h) (VI (.int .i64 (LA 10 l 0)) h):=by refine B5 rfl ?_;simp only[B0,reduceCtorEq,AMp];refine .ret ?_;simp only[B0];exact⟨rfl,rfl⟩
theorem AKS(hI:Yx 386 (bN 10) A7){l:List UInt8}(hl:l≠[10]):C0 (G8 AE8 A7 cd [.string (O2 l),AM2] h) (VI (.int .i64 (LA 10 l 0)) h):=by
 have hne:PH [10] l=false:=by rw[eD];grind
 have e1:=hI h l hl;refine B5 rfl ?_;simp(disch:=omega) only[B0,reduceCtorEq,Nat.reduceAdd,AMp,hne,e1];refine .ret ?_;simp only[B0];exact⟨rfl,rfl⟩
theorem A9l(hI:Yx 344 AM2 A7){l:List UInt8}(hl:l≠[10]):C0 (G8 sD A7 cd [.string (O2 l),AM2] h) (VI (.int .i64 (LA 10 l 0)) h):=by have e1:=hI h l hl;refine B5 rfl ?_;simp only[B0,reduceCtorEq,e1];refine .ret ?_;simp only[B0];exact⟨rfl,rfl⟩
abbrev AAk(A7:Call):Prop:=∀H l,A7 336 [.string (O2 l),AM2] H=.val (iN (GQ 10 l 0)) H
theorem A5N{l:List UInt8}:C0 (G8 mL A7 cd [.string (O2 l),AM2] h) (VI (iN (GQ 10 l 0)) h):=by refine B5 rfl ?_;simp(disch:=omega) only[B0,reduceCtorEq,AMp];refine .ret ?_;simp only[B0];exact⟨rfl,rfl⟩
structure AJA(ls:List SH):Prop where
 n0:ls≠[]
 n5:ls.length≤5
 fr:∀l∈ls,Nl 10 l
 ne:∀i l,i+1<ls.length→ls[i]?=some l→l≠[]
 lens:∀i,(BQ (ls.drop i)).length≤1000
def Rs(l:SH):A0:=.string (O2 l)
def rowOf(ls:List SH)(i:Nat):List A0:=(ls.take i).map Rs++(U9 ls.length [Value.string (O2 [])]).drop i
theorem AGM{ls:List SH}{a:SH}(ha:ls[i]?=some a):(rowOf ls i).set i (Rs a)=rowOf ls (i+1):=by
 have hi:=(Fe.1 ha).1;have hl:((ls.take i).map Rs).length=i:=by grind
 have hz:i<(U9 ls.length [Value.string (O2 [])]).length:=by rw[QS];exact hi
 unfold rowOf;rw[List.set_append_right _ _ (by omega),hl,Wj,mw hz,A3o,AML ha,A7y,iX];rfl
theorem A7I:∀ls:List SH,ls≠[]→ls.length≤(BQ ls).length+1
 | [],h=>absurd rfl h
 | [a],_=>by simp
 | a::b::r,_=>by have:=A7I (b::r) (by simp);show(b::r).length+1≤(a++10::BQ (b::r)).length+1;grind
abbrev StGenR(g:List A0→Hp→N3):Prop:=∀h ls,Wf h→AJA ls→C0 (g [.string (O2 (BQ ls)),AM2,i0,.int .i64 (.negSucc 0)] h) (fun r H=>r=F8 h.A6 0 ls.length ls.length∧PI H h.A6 ls.length 9 (ls.map Rs)∧Wf H∧Fr N5 h H)
abbrev AKH(A7:Call):Prop:=StGenR (A7 282)
theorem AIz(hC:AAk A7)(hI:Yx 337 AM2 A7):StGenR (G8 Vv A7 cd):=by
 intro h ls hw ok;obtain⟨n0,n5,fr,ne,lens⟩:=id ok;have len:=lens 0;rw[A3A] at len;have hwb:=hw.base;have hpos:=List.length_pos_iff.2 n0;have hge:=A7I ls n0;have c1:=xo 0 n0 fr;rw[show(10:UInt8).toNat=10 from rfl,Ag] at c1;have c2:GQ 10 (BQ ls) 0=ls.length-1:=by omega
 have e1:=hC h (BQ ls);rw[c2] at e1;obtain⟨d,hd⟩:∃d,ls.length=d+1:=⟨ls.length-1,by omega⟩
 obtain⟨J,hJ,wJ,fJ,nJ,a1⟩:=J7 hw (B6 (U9 ls.length [.string (O2 [])]) (U9 ls.length [.string (O2 [])]).length 9 true);have rl:(U9 ls.length [Value.string (O2 [])]).length=ls.length:=QS _ _;have hr0:PI J h.A6 ls.length 9 (U9 ls.length [.string (O2 [])]):=by rw[rl] at a1;exact APm rl a1
 have q1:PG (.negSucc 0) (.ofNat 0)=true:=rfl;have q2:A38 (.negSucc 0) (.ofNat 0)=false:=rfl;rw[hd] at hJ rl hr0;rw[rl] at hJ;have hfin:∀i,i<d+1→∃a,ls[i]?=some a∧(rowOf ls i).set i (Rs a)=rowOf ls (i+1):=fun i hi=>by refine⟨_,X0 (by omega),AGM (X0 (by omega))⟩
 refine B5 rfl ?_;simp(disch:=omega) only[B0,reduceCtorEq,AMp,AS3,e1,rl,hJ,q1,q2,hd,show d+1-1=d from rfl,show min (d+1) ((BQ ls).length+1)=d+1 by omega];refine D9.lp (P:=fun tm df H=>df=[]∧D0 tm [([],Rs (BQ (ls.drop d))),(DZ,F8 h.A6 0 (d+1) (d+1)),(MC,iN d)]∧PI H h.A6 (d+1) 9 (rowOf ls d)∧Ky h H J.A6) ?_ ?_
 · refine K6 (n:=d) (by omega) (fun i tm H=>D0 tm [([],Rs (BQ (ls.drop i))),(Q0,AM2),(T1,i0),(Q3,iN d),(DZ,F8 h.A6 0 (d+1) (d+1)),(MC,iN i)]∧PI H h.A6 (d+1) 9 (rowOf ls i)∧Ky h H J.A6) ?_ (fun i tm H hi hI=>?_) (fun tm H hI=>?_)
   · refine⟨by trivial,?_,Ky.mk wJ fJ rfl⟩;have:rowOf ls 0=U9 (d+1) [.string (O2 [])]:=by
      unfold rowOf;grind
     rw[this];exact hr0
   · obtain⟨⟨t0,t1,t2,t3,t9,t10,-⟩,rw1,kH⟩:=hI;obtain⟨a,ha,hset⟩:=hfin i (by omega);have hdr:ls.drop i=a::ls.drop (i+1):=(mw (by omega)).trans (by
      grind)
     have hL:BQ (ls.drop i)=a++10::BQ (ls.drop (i+1)):=by
      rw[hdr,A9O _ fun e=>by simp_all;omega]
     have hane:=ne i a (by omega) ha;have hfa:=fr a (s6 ha);unfold Rs at t0;have hLb:=lens i;generalize BQ (ls.drop i)=L at *;obtain⟨R,hR⟩:∃R,BQ (ls.drop (i+1))=R:=⟨_,rfl⟩
     rw[hR] at hL;have hLen:L.length=a.length+(R.length+1):=by grind
     have e2:=hI H L (by
      intro e;rw[hL] at e;cases a with
      | nil=>exact hane rfl
      | cons x a =>
       grind)
     have f1:LA 10 L 0=.ofNat a.length:=by rw[hL];have:=A4D (r:=R) 0 hfa;grind
     rw[f1] at e2;have k1:KK (a.length+0) (gg 0 L)=a:=by rw[A9i,OF,Yz,hL,A3A,List.take_left]
     have k2:KK (L.length-(a.length+1)) (gg (a.length+1) L)=R:=by rw[OF,Yz,hLen,hL,show a.length+(R.length+1)-(a.length+1)=R.length by omega];simp
     obtain⟨c,hat,hg⟩:=rw1.get;have rw2:=rw1.set hat (show i<d+1 by omega) (Rs a);rw[hset] at rw2;unfold Rs at rw2;have hnx:=kH.nx;unfold HM;simp(disch:=omega) only[B0,reduceCtorEq,t0,t1,t2,t3,t9,t10,e2,k1,k2,hat];exact .go ⟨by simp[D0,T.A9,t1,t2,t3,t9,hR];rfl,rw2,kH.put (M8 _) (by omega) hw _⟩
   ·obtain⟨⟨t0,t1,t2,t3,t9,t10,-⟩,rw1,kH⟩:=hI;unfold HM;simp(disch:=omega) only[B0,t3,t10];exact .ex ⟨rfl,rfl,by simp[D0,T.A9,t0,t9,t10],rw1,kH⟩
 rintro tm df H ⟨rfl,⟨t0,t9,t10,-⟩,rw1,kH⟩;obtain⟨a,ha,hset⟩:=hfin d (by omega);have hdr:ls.drop d=[a]:=(mw (by omega)).trans (by
  grind)
 rw[hdr] at t0;unfold Rs at t0;obtain⟨c,hat,hg⟩:=rw1.get;have rw2:=rw1.set hat (show d<d+1 by omega) (Rs a);rw[hset] at rw2;have hend:rowOf ls (d+1)=ls.map Rs:=by unfold rowOf;grind
 rw[hend] at rw2;have s1:=PN (b:=h.A6) (o:=0) (l:=d+1) (hi:=d+1) (M8 _) (by unfold R8;omega);rw[if_neg (by omega)] at s1;have hnx:=kH.nx;have t0':tm.get []=some (.string (O2 a)):=t0;simp(disch:=omega) only[B0,t0',t9,t10,hat,Vh,s1];refine .ret ?_;simp only[B0];have k2:=kH.put (M8 _) (show h.A6<J.A6 by omega) hw (some (.row (C7 [Rs a] (0+d) c fun t=>t) (d+1) 9 true false));exact⟨rw2,k2.wf,k2.fr⟩
abbrev StSplitR(g:List A0→Hp→N3):Prop:=∀h ls,Wf h→AJA ls→C0 (g [.string (O2 (BQ ls)),AM2] h) (fun r H=>r=F8 h.A6 0 ls.length ls.length∧PI H h.A6 ls.length 9 (ls.map Rs)∧Wf H∧Fr N5 h H)
theorem A4w(hG:AKH A7):StSplitR (G8 sF A7 cd):=by intro h ls hw ok;obtain⟨r,H,e1,rfl,rw1,wH,fH⟩:=(hG h ls hw ok).get;refine B5 rfl ?_;simp only[B0,reduceCtorEq,e1];refine .ret ?_;trivial
abbrev A70(A7:Call):Prop:=StSplitR (A7 213)
structure GN where
 l:List (Nat×Nat×Nat)
 w0:Nat
 w1:Nat
 w2:Nat
 w3:Nat
 o:List Nat
 A2G:Nat
 v:Ix
 r:List Q4
structure ANK(h:Hp)(x:GN)(lv ov rv rk xv:A0):Prop where
 wf:Wf h
 l:Sl 3 h lv x.l.length (A7c x.l)
 ll:x.l.length<9223372036854775808
 lb:AMm x.l
 b0:x.w0<256
 b1:x.w1<256
 b2:x.w2<256
 o:Sl 1 h ov x.o.length (M4 x.o)
 ol:x.o.length<9223372036854775808
 ob:∀b∈x.o,b<256
 v:Sl 2 h rv x.v.length (A4h x.v)
 va:ATe h rv x.v.length
 vl:x.v.length<9223372036854775808
 vb:AXE x.v
 rk:Cell rk
 r:Sl 4 h xv x.r.length (AUS x.r)
 rl:x.r.length<9223372036854775808
 rb:∀q∈x.r,ALa q
def dS(x:GN)(lv ov rv rk xv:A0):List A0:=[lv,bN x.w0,bN x.w1,bN x.w2,bN x.w3,ov,.int .u16 (.ofNat x.A2G),rv,rk,xv]
def GN.z(x:GN):Nat:=180+x.w0%36
def GN.n(x:GN):Nat:=1+x.w1%3
def GN.a(x:GN):Nat:=1+x.w2%2
def GN.S5(x:GN):List Nat:=Vr x.o (x.n*x.z)
def GN.k(x:GN):Ix:=AG (x.v.take 3)
def Aan(x:GN)(r:A0)(H:Hp):Prop:=∃b c dv wv ev sv uv tv bv pv pk more,r=.agg ⟨Ci (CM (X2 x.z (x.n+4+x.a+b+c) 100000) x.S5 x.n (Y6 x.k x.z) (Q5 x.z)) x.n dv wv ev sv uv tv false++pk++[iN 4,bv,iN 4,pv,B7]++more⟩∧pk.length=11∧more.length=10∧(∀y∈pk,Cell y)∧(∀y∈more,Cell y)∧b≤16∧c≤3∧DT H (CM (X2 x.z (x.n+4+x.a+b+c) 100000) x.S5 x.n (Y6 x.k x.z) (Q5 x.z)) dv wv ev∧TW H x.n x.a b c sv uv tv∧Sl 1 H bv x.S5.length (M4 x.S5)∧MB bv∧Ng H pv (N4 x.k)
abbrev R25MadeR(g:List A0→Hp→N3):Prop:=∀h x lv ov rv rk xv,ANK h x lv ov rv rk xv→C0 (g [.agg ⟨dS x lv ov rv rk xv⟩] h) (fun r H=>Aan x r H∧Wf H∧Fr N5 h H)
abbrev A5W(A7:Call):Prop:=R25MadeR (A7 5)
abbrev AF9(A7:Call):Prop:=R17NewR (A7 24)
theorem A4B{z W:Nat}(z0:44≤z)(z1:z≤4096)(n0:1≤N)(n1:N≤64)(hW:W<1000):FG (X2 z N 100000) W:=by
 refine⟨⟨by show 1≤z;omega,z1,by show 1≤100000;omega,M8 _,by show 1≤(List.replicate N _).length;grind,by show(List.replicate N _).length≤64;grind,?_,?_,?_,?_⟩,z0,fun s hs=>?_,fun s=>?_⟩
 ·show(List.replicate N 0).length=(List.replicate N _).length;simp
 ·show(List.replicate N false).length=(List.replicate N _).length;simp
 ·intro r hr;have hr':r∈List.replicate N (List.replicate z 255):=hr;rw[(A5B.1 hr').2];exact⟨Ad,fun x hx=>by grind⟩
 ·intro w hw;have hw':w∈List.replicate N 0:=hw;grind
 ·have hs':s<(List.replicate N (List.replicate z 255)).length:=hs;rw[Ad] at hs';show(List.replicate N false)[s]?=_;grind
 ·show(List.replicate N 0).getD s 0+W<100000;grind
theorem AWJ:Tv 13 (Value.int .i64 (.ofNat 0))=[i0,i0,i0,i0,i0,i0,i0,i0,i0,i0,i0,i0,i0]:=rfl
def ASY:=And.intro AWJ<|L0 @EB @BS
def A7V:List A0:=Pv++[i0,i0,i0,i0,.bool false,i0,i0,B7,B7,B7,B7,i0,B7,i0,B7,B7,i0,B7,i0,B7,B7,i0,i0,i0,i0,i0]
theorem A73(hI:xK A7)(hP:xn A7)(hM:A5A A7)(hN:fD A7)(hL:A8I A7)(hF:AF9 A7)(hS:A8f A7)(hD:AJY A7)(hR:gj A7)(hW:jk A7)(hA:dL A7):R25MadeR (G8 ng A7 cd):=by
 intro h x lv ov rv rk xv q;obtain⟨hw,ql,qll,qlb,q0,q1,q2,qo,qol,qob,qv,qva,qvl,qvb,qrk,qr,qrl,qrb⟩:=q;have hwb:=hw.base;have clv:=ql.cell;have cov:=qo.cell;have crv:=qv.cell;have cxv:=qr.cell;obtain⟨z,hz⟩:∃z,x.z=z:=⟨_,rfl⟩
 obtain⟨n,hn⟩:∃n,x.n=n:=⟨_,rfl⟩
 obtain⟨a,ha⟩:∃a,x.a=a:=⟨_,rfl⟩
 have z1:180≤z:=by rw[←hz];unfold GN.z;omega
 have z2:z≤215:=by rw[←hz];unfold GN.z;omega
 have n1:1≤n:=by rw[←hn];unfold GN.n;omega
 have n2:n≤3:=by rw[←hn];unfold GN.n;omega
 have a1:1≤a:=by rw[←ha];unfold GN.a;omega
 have a2:a≤2:=by rw[←ha];unfold GN.a;omega
 have m1:1*z≤n*z:=BY _ n1;have m2:n*z≤3*z:=BY _ n2;have pl:Yl z n:=⟨by omega,by omega,n1,n2⟩
 obtain⟨J,hJ,wJ,fJ,nJ,g1,g2⟩:=U7 hw (B6 (dS x lv ov rv rk xv) 10 33 true) (B6 A7V 62 63 true);obtain⟨bv,H1,e1,⟨⟨sb,tb,lb⟩,cb⟩,w1,f1⟩:=(hI J ov x.o (n*z) wJ (qo.fr hw fJ) (by omega) (by omega) qol).mono (ψ:=fun r H=>(((Sl 1 H r (Vr x.o (n*z)).length (M4 (Vr x.o (n*z))))∧YB 5 H r∧∀c,Ch r c→J.A6≤c)∧MB r)∧Wf H∧Fr N5 J H) (fun r H ⟨⟨p,w,f⟩,c⟩=>⟨⟨p,c⟩,w,f⟩) |>.get;have F1:=fJ.trans f1 fun _ _ h=>h;have lI:(Vr x.o (n*z)).length=n*z:=A44 _ _;rw[lI] at sb;have cbv:=sb.cell;obtain⟨pv0,H2,e2,⟨ops,po,ov2,rfl,so,_⟩,w2,f2⟩:=(hP H1 lv x.l (n*z) w1 (ql.fr hw F1) qll qlb (by omega) (by omega)).get;have F2:=F1.trans f2 fun _ _ h=>h;have co:=so.cell;obtain⟨mv,H3,e3,⟨plv,rfl,ov3,qv3,tv3,qs,ts,rfl,so3,sq,st,lq,lt,bq,bt⟩,w3,f3⟩:=(hM H2 z n bv ov2 (Vr x.o (n*z)) ops w2 pl po so (sb.fr w1 f2)).get;have F3:=F2.trans f3 fun _ _ h=>h;have nb1:=f1.A6;have nb2:=f2.A6;have nb3:=f3.A6;obtain⟨P3,hP3,u3,d3,k3,r3⟩:=O5 w3 ATv (VU z n (n*z) ov3 qv3 tv3) 8 47;have D3:=F3.trans d3 fun _ _ h=>h;have so3':=so3.fr w3 d3;have sq':=sq.fr w3 d3;have st':=st.fr w3 d3;have sbP3:=sb.fr w1 ((f2.trans f3 fun _ _ h=>h).trans d3 fun _ _ h=>h);obtain⟨s,u,x1,x2,x3,ne,⟨hs,hu⟩,e4⟩:=hN P3 z n bv ov3 qv3 tv3 (Vr x.o (n*z)) qs ts ops u3 pl z1 po so3' sbP3 lI sq' st' lq lt bq;obtain⟨P4,hP4,u4,d4,k4,r4⟩:=O5 u3 AFQ [iN s,iN u,iN x1,iN x2,iN x3] 5 61;obtain⟨lv5,H5,e5,⟨sv,uv,tv,rfl,ly,lyb⟩,w5,f5⟩:=(hL P4 n a u s u4 (by omega)).get;have nb5:=f5.A6;obtain⟨P5,hP5,u5,d5,k5,r5⟩:=O5 w5 [i0,i0,i0,i0,i0,B7,B7,B7] (AX n sv uv tv) 8 42;obtain⟨fv6,H6,e6,dv,wv,ev,rfl,fl,w6,f6⟩:=(hF P5 z (n+4+a+u+s) 100000 u5 (by omega) (by omega) (by omega) (by omega) (by omega) (by omega)).get;have nb6:=f6.A6;obtain⟨P6,hP6,u6,d6,k6,r6⟩:=O5 w6 Vy (N9 (X2 z (n+4+a+u+s) 100000) dv wv ev) 5 39;have D4:=D3.trans d4 fun _ _ h=>h;have E5:=D4.trans f5 fun _ _ h=>h;have D5:=E5.trans d5 fun _ _ h=>h;have E6:=D5.trans f6 fun _ _ h=>h;have D6:=E6.trans d6 fun _ _ h=>h;obtain⟨sv7,H7,e7,⟨pv,rfl,sp,bp⟩,w7,f7⟩:=(hS P6 rv rk x.v x.A2G u6 (qv.fr hw D6) qva qvl qvb qrk).get;have nb7:=f7.A6;obtain⟨P7,hP7,u7,d7,k7,r7⟩:=O5 w7 [i0,B7,B7] [iN 4,pv,B7] 3 57;have E7:=D6.trans f7 fun _ _ h=>h;have D7:=E7.trans d7 fun _ _ h=>h;obtain⟨ko,kl⟩:=fa (x.v.take 3);have kl3:(AG (x.v.take 3)).length≤3:=by rw[FB] at kl;omega
 have vt:Nq H7 pv (N4 (AG (x.v.take 3))):=⟨sp,fun c h0 hc=>(bp c h0 hc).2⟩
 have bN:(X2 z (n+4+a+u+s) 100000).data.length=n+4+a+u+s:=Ad;have g57:=((f6.trans (P:=N5) d6 fun _ _ h=>h).trans (P:=N5) f7 fun _ _ h=>h).trans (P:=N5) d7 fun _ _ h=>h;have g67:=f7.trans (P:=N5) d7 fun _ _ h=>h;have ly7:=ly.fr w5 (d5.trans g57 fun _ _ h=>h);have fl7:=fl.fr w6 (d6.trans g67 fun _ _ h=>h);have g37:=((d4.trans (P:=N5) f5 fun _ _ h=>h).trans (P:=N5) d5 fun _ _ h=>h).trans (P:=N5) g57 fun _ _ h=>h;have sb7:=sbP3.fr u3 g37;have nq:ATd P7 (X2 z (n+4+a+u+s) 100000) dv wv ev sv uv tv bv pv n a u s (Vr x.o (n*z)) (AG (x.v.take 3)):=⟨u7,fl7,ly7,⟨n1,n2,a1,a2,by omega,by omega,bN⟩,A4B (by omega) (by omega) (by omega) (by omega) (by omega),by rw[lI];exact sb7,by rw[lI];exact M8 _,A8p qob _,sp.fr w7 d7,ko,kl3,by show z≤1000;omega⟩
 obtain⟨dr8,H8,e8,⟨dv8,wv8,ev8,rfl,fl8,ly8⟩,w8,f8⟩:=(hD P7 _ dv wv ev sv uv tv bv pv n a u s _ _ nq).get;have nb8:=f8.A6;obtain⟨P8,hP8,u8,d8,k8,r8⟩:=O5 w8 Pv (Ci (CM (X2 z (n+4+a+u+s) 100000) (Vr x.o (n*z)) n (Y6 (AG (x.v.take 3)) z) (Q5 z)) n dv8 wv8 ev8 sv uv tv false) 36 54;have g78:=f8.trans (P:=N5) d8 fun _ _ h=>h;have D8:=D7.trans g78 fun _ _ h=>h;have vt8:=vt.fr w7 (d7.trans g78 fun _ _ h=>h);obtain⟨ruv,H9,e9,⟨us,ru,lu,_⟩,w9,f9⟩:=(hR P8 pv xv _ x.r u8 vt8 (by rw[O1];exact kl3) (qr.fr hw D8) qrl qrb).get;have cru:=ru.1.cell;obtain⟨fo,H10,e10,⟨aa,vv,kv,ee,rfl,cvv,ckv⟩,w10,f10⟩:=(hW H9 pv ruv _ us w9 (vt8.fr u8 f9) ko kl3 ru lu).get;have nb9:=f9.A6;have nb10:=f10.A6;obtain⟨P10,hP10,u10,d10,k10,r10⟩:=O5 w10 [i0,B7,B7] [iN aa,vv,kv] 3 57;have g89:=f9;have g810:=(f9.trans (P:=N5) f10 fun _ _ h=>h).trans (P:=N5) d10 fun _ _ h=>h;have g310:=(g37.trans (P:=N5) g78 fun _ _ h=>h).trans (P:=N5) g810 fun _ _ h=>h;obtain⟨nr,H11,e11,⟨nv,nl,rfl,hnl,sn,hnb⟩,w11,f11⟩:=(hA P10 bv ov3 (Vr x.o (n*z)) ops (n*z) u10 (sbP3.fr u3 g310) lI po (so3'.fr u3 g310) (by omega) (by omega)).get;have nb11:=f11.A6;have D11:=(D8.trans g810 fun _ _ h=>h).trans f11 fun _ _ h=>h;have j3:=(((f1.trans (P:=N5) f2 fun _ _ h=>h).trans (P:=N5) f3 fun _ _ h=>h).trans (P:=N5) d3 fun _ _ h=>h)
 have j4:=(j3.trans (P:=N5) d4 fun _ _ h=>h)
 have j5:=((j4.trans (P:=N5) f5 fun _ _ h=>h).trans (P:=N5) d5 fun _ _ h=>h)
 have j6:=((j5.trans (P:=N5) f6 fun _ _ h=>h).trans (P:=N5) d6 fun _ _ h=>h)
 have j7:=((j6.trans (P:=N5) f7 fun _ _ h=>h).trans (P:=N5) d7 fun _ _ h=>h)
 have j8:=(j7.trans (P:=N5) g78 fun _ _ h=>h)
 have j10:=(j8.trans (P:=N5) g810 fun _ _ h=>h)
 have j11:=(j10.trans (P:=N5) f11 fun _ _ h=>h)
 have w_1:H1.at h.A6=some (B6 (dS x lv ov rv rk xv) 10 33 true):=by rw[f1.e _ (by omega)];exact g1
 have w_4:P4.at h.A6=some (B6 (dS x lv ov rv rk xv) 10 33 true):=by rw[j4.e _ (by omega)];exact g1
 have w_6:P6.at h.A6=some (B6 (dS x lv ov rv rk xv) 10 33 true):=by rw[j6.e _ (by omega)];exact g1
 have w_8:P8.at h.A6=some (B6 (dS x lv ov rv rk xv) 10 33 true):=by rw[j8.e _ (by omega)];exact g1
 have cz:H11.at (h.A6+1)=some (B6 A7V 62 63 true):=by rw[j11.e _ (by omega)];exact g2
 have g1011:=f11;have p_10:P10.at H3.A6=some (B6 (VU z n (n*z) ov3 qv3 tv3) 8 47 true):=by rw[g310.e _ (by omega)];exact r3
 have p_11:H11.at H3.A6=some (B6 (VU z n (n*z) ov3 qv3 tv3) 8 47 true):=by rw[f11.e _ (by have:=g310.A6;omega)];exact p_10
 have k45:=f5.A6;have n_5:P5.at P3.A6=some (B6 [iN s,iN u,iN x1,iN x2,iN x3] 5 61 true):=by rw[d5.e _ (by omega),f5.e _ (by omega)];exact r4
 have n_11:H11.at P3.A6=some (B6 [iN s,iN u,iN x1,iN x2,iN x3] 5 61 true):=by
  have g511:=(((g57.trans (P:=N5) g78 fun _ _ h=>h).trans (P:=N5) g810 fun _ _ h=>h).trans (P:=N5) f11 fun _ _ h=>h)
  rw[g511.e _ (by omega)];exact n_5
 have l_7:P7.at H5.A6=some (B6 (AX n sv uv tv) 8 42 true):=by rw[g57.e _ (by omega)];exact r5
 have f_7:P7.at H6.A6=some (B6 (N9 (X2 z (n+4+a+u+s) 100000) dv wv ev) 5 39 true):=by rw[g67.e _ (by omega)];exact r6
 have s_8:P8.at H7.A6=some (B6 [iN 4,pv,B7] 3 57 true):=by rw[g78.e _ (by omega)];exact r7
 have s_9:H9.at H7.A6=some (B6 [iN 4,pv,B7] 3 57 true):=by rw[f9.e _ (by omega)];exact s_8
 have s_11:H11.at H7.A6=some (B6 [iN 4,pv,B7] 3 57 true):=by rw[f11.e _ (by omega),g810.e _ (by omega)];exact s_8
 have d_11:H11.at H8.A6=some (B6 (Ci (CM (X2 z (n+4+a+u+s) 100000) (Vr x.o (n*z)) n (Y6 (AG (x.v.take 3)) z) (Q5 z)) n dv8 wv8 ev8 sv uv tv false) 36 54 true):=by rw[f11.e _ (by omega),g810.e _ (by omega)];exact r8
 have t_11:H11.at H10.A6=some (B6 [iN aa,vv,kv] 3 57 true):=by rw[f11.e _ (by omega)];exact r10
 have hz':180+x.w0%36=z:=hz;have hn':1+x.w1%3=n:=hn;have ha':1+x.w2%2=a:=ha;have cnv:=sn.cell;have co3:=so3.cell;have cq3:=sq.cell;have ct3:=st.cell;have cpv:=sp.cell;have csv:=ly.st.cell;have cuv:=ly.un.cell;have ctv:=ly.ta.cell;have cdv:=fl.data.cell;have cwv:=fl.I0.cell;have cev:=fl.dead.cell;have cd8:=fl8.data.cell;have cw8:=fl8.I0.cell;have ce8:=fl8.dead.cell;have hfs:(CM (X2 z (n+4+a+u+s) 100000) (Vr x.o (n*z)) n (Y6 (AG (x.v.take 3)) z) (Q5 z)).size=z:=by unfold CM;rw[FM.T8,FM.T8,FM.T8,DU];rfl
 have hfl:(CM (X2 z (n+4+a+u+s) 100000) (Vr x.o (n*z)) n (Y6 (AG (x.v.take 3)) z) (Q5 z)).K4=100000:=by unfold CM;rw[FM.U1,FM.U1,FM.U1,HY];rfl
 obtain⟨FF,hFF⟩:∃FF,CM (X2 z (n+4+a+u+s) 100000) (Vr x.o (n*z)) n (Y6 (AG (x.v.take 3)) z) (Q5 z)=FF:=⟨_,rfl⟩
 have hFF':CM (X2 z (n+4+a+u+s) 100000) (Vr x.o (n*z)) n (Y6 (AG (x.v.take 3)) (X2 z (n+4+a+u+s) 100000).size) (Q5 (X2 z (n+4+a+u+s) 100000).size)=FF:=hFF;rw[hFF'] at e8 fl8;rw[hFF] at hP8 r8 d_11 hfs hfl;have hdv:Ci FF n dv8 wv8 ev8 sv uv tv false=[iN z,dv8,wv8,iN 100000,ev8,iN n,iN n,iN (n+1),iN (n+2),iN (n+3),sv,uv,tv,i0,i0,i0,i0,.bool false,i0,i0,B7,B7,B7,B7,.bool false,.bool false,.bool false,i0,i0,i0,i0,i0,i0,i0,i0,i0]:=by simp only[Ci,N9,hfs,hfl];rfl
 have hbf:N9 (X2 z (n+4+a+u+s) 100000) dv wv ev=[iN z,dv,wv,iN 100000,ev]:=rfl;rw[hdv] at hP8 r8 d_11 e8;rw[hbf] at hP6 r6 f_7 e6 e8;unfold dS at *;unfold A7V Pv ATv VU AFQ AX Vy Jq at *;simp only[EB,BS] at *;refine B5 rfl ?_;simp(maxSteps:=400000) (disch:=first|omega|(simp only[C6]<;>omega)|exact⟨rfl,rfl,rfl⟩|assumption) only[↓CG,B0,reduceCtorEq,Nat.reduceAdd,Nat.reduceMul,Nat.reduceSub,ASY,hJ,g1,hz',hn',ha',e1,w_1,e2,e3,hP3,r3,e4,hP4,r4,w_4,e5,hP5,r5,n_5,e6,hP6,r6,w_6,e7,hP7,r7,l_7,f_7,e8,hP8,r8,s_8,w_8,e9,s_9,e10,hP10,r10,p_10,e11,d_11,p_11,s_11,t_11,n_11,cz];refine .ret ?_;simp(disch:=first|omega|(simp only[C6]<;>omega)) only[B0,reduceCtorEq];have hce:=M6 cz;have x8:=f10.A6;have g811:=g810.trans (P:=N5) f11 fun _ _ h=>h;have g8h:=d8.trans (P:=N5) g811 fun _ _ h=>h;have g711:=g78.trans (P:=N5) g811 fun _ _ h=>h;have ly11:=ly7.fr u7 g711;have sb11:=sb7.fr u7 g711;have sp11:=(sp.fr w7 d7).fr u7 g711;have fl11:=fl8.fr w8 g8h;have q1:=d3.A6;have q2:=j6.A6;have kZ:=fun o=>(Ky.mk w11 D11 rfl).put (b:=h.A6+1) (by omega) (by have:=j11.A6;omega) hw o;refine⟨⟨u,s,dv8,wv8,ev8,sv,uv,tv,bv,pv,[iN 5,iN 4,iN z,iN n,.bool false,iN (n*z),iN (n*z),ov3,qv3,tv3,ruv],[iN 5,nv,iN aa,vv,kv,iN s,iN u,iN x1,iN x2,iN x3],?_,rfl,rfl,?_,?_,hu,by omega,?_,?_,?_,cb,?_⟩,(kZ _).wf,(kZ _).fr⟩
 ·rw[hz,hn,ha];show _=Value.agg ⟨Ci (CM (X2 z (n+4+a+u+s) 100000) (Vr x.o (x.n*x.z)) n (Y6 (AG (x.v.take 3)) z) (Q5 z)) n dv8 wv8 ev8 sv uv tv false++_++_++_⟩;rw[hz,hn,hFF,hdv];rfl
 · intro y hy;simp only[m8,Lg,or_false] at hy;rcases hy with rfl|rfl|rfl|rfl|rfl|rfl|rfl|rfl|rfl|rfl|rfl
   all_goals first|exact U6|exact yz|assumption
 · intro y hy;simp only[m8,Lg,or_false] at hy;rcases hy with rfl|rfl|rfl|rfl|rfl|rfl|rfl|rfl|rfl|rfl
   all_goals first|exact U6|exact yz|assumption
 ·rw[hz,hn,ha];show DT _ (CM (X2 z (n+4+a+u+s) 100000) (Vr x.o (x.n*x.z)) n (Y6 (AG (x.v.take 3)) z) (Q5 z)) dv8 wv8 ev8;rw[hz,hn,hFF];exact fl11.put _ hce rfl
 ·rw[hn,ha];exact⟨ly11.st.K7 fun c h0 hc=>E9 fun e=>(by have:=lyb c (.inl ⟨h0,hc⟩);omega),ly11.un.K7 fun c h0 hc=>E9 fun e=>(by have:=lyb c (.inr (.inl ⟨h0,hc⟩));omega),ly11.ta.K7 fun c h0 hc=>E9 fun e=>(by have:=lyb c (.inr (.inr ⟨h0,hc⟩));omega)⟩
 ·show Sl 1 _ bv (Vr x.o (x.n*x.z)).length (M4 (Vr x.o (x.n*x.z)));rw[hz,hn,lI];exact sb11.K7 fun c _ hc=>E9 fun e=>(by have:=lb c hc;omega)
 ·exact sp11.K7 fun c h0 hc=>E9 fun e=>(by have:=(bp c (by rw[O1] at h0 ⊢;exact h0) hc).1;omega)
theorem IM.fr{a b c:Hp}(x:IM P a b)(y:Fr N5 b c):IM P a c:=⟨y.base.trans x.base,JJ x.A6 y.A6,fun k hk hp=>(y.M5 k (Ep hk x.A6) fun h=>h).trans (x.M5 k hk hp),fun k hk=>x.ls k (by rw[y.log] at hk;exact hk),fun hp=>y.log.trans (x.lg hp)⟩
theorem IM.Aa7{bx:Nat}{o:Option N2}(x:IM P h H)(hp:P bx)(hb:bx<h.A6):IM P h (B8 (H.put bx o) H.base (below H.base [bx] H.log)):=by
 have e:below H.base [bx] H.log=bif Nat.blt bx H.base then bx::H.log else H.log:=rfl
 refine⟨x.base,x.A6,fun k hk hn=>by show(H.put bx o).at k=_;rw[E9 fun e=>hn (by rw[←e];exact hp)];exact x.M5 k hk hn,fun k hk=>?_,fun hq=>?_⟩
 · have hk':k∈below H.base [bx] H.log:=hk;rw[e] at hk';cases hc:Nat.blt bx H.base with
   | true =>
    rw[hc,cond_true] at hk';rcases m8.1 hk' with rfl|h1
    ·exact .inr hp
    ·exact x.ls k h1
   | false=>rw[hc,cond_false] at hk';exact x.ls k hk'
 ·show below H.base [bx] H.log=_;rw[e,GH (by rw[x.base];exact hq bx hb hp),cond_false];exact x.lg hq
def AZY(bx:Nat)(f':FM)(rest:List A0)(h:Hp)(r:A0)(H:Hp):Prop:=r=.tuple ⟨[]⟩∧DvB H bx f' rest∧Wf H∧IM (fun c=>c=bx) h H
abbrev DBringR(g:List A0→Hp→N3):Prop:=∀h f v s bx want rest,Wf h→DvB h bx f rest→rest.length=31→Wt f s want→f.dead[s]?=some false→Sl 1 h v f.size (M4 want)→YB 5 h v→f.I0.getD s 0<f.K4→C0 (g [C2 bx 0,iN s,v] h) (AZY bx (f.N6 s want) rest h)
theorem AAi(htw:ATo A7)(hdo:ARf 53 A7)(hmu:di A7):DBringR (G8 zb A7 cd):=by
 intro h f v s bx want rest hw hB hrl hwt hd hv hvb hwr;obtain⟨dv,wv,ev,hf,hb⟩:=hB;have hwb:=hw.base;have hlt:=hw.lt hb;have hvx:∀c,Ch v c→c≠bx:=fun c hc e=>by have:=(hvb c hc).2;rw[e,M6 hb] at this;exact absurd this (by decide)
 refine B5 rfl ?_;simp only[B0];refine D9.S6 (R:=fun tm H=>AZY bx (f.N6 s want) rest h (.tuple ⟨[]⟩) H) (AFe (n:=2) (by omega) (fun i tm H=>D0 tm [([],C2 bx 0),(Q0,iN s),(T1,v)]∧∃g dg wg eg,A4g f s want i g∧DT H g dg wg eg∧H.at bx=some (B6 (N9 g dg wg eg++rest) 36 107 true)∧Wf H∧IM (fun c=>c=bx) h H) ?_ (fun i tm H hi hI=>?_)) (fun tm H hR=>?_)
 ·exact⟨by simp[D0,qE,Nj,Pa],f,dv,wv,ev,A4g.start hwt hwr,hf,hb,hw,IM.refl _ _⟩
 · obtain⟨⟨t0,t1,t2,-⟩,g,dg,wg,eg,hr,hg,b1,wH,fH⟩:=hI;have bH:=fH.base;have nH:=fH.A6;have hvH:=hv.K7 fun c h0 hc=>fH.M5 c (hv.lt hw h0 hc) (hvx c hc);obtain⟨r,G,e1,op,done,rfl,hp,wG,fG⟩:=(htw H g dg wg eg s v want (ARu.tq hr hg wH hd hvH)).get;obtain⟨G1,hG1,wG1,fG1,nG1,c1⟩:=J7 wG (B6 A4i 4 127 true);have f2:=fG.trans fG1 fun _ _ h=>h;have xG:=fG.A6;have y1:=fG.base;have y2:=fG1.base;have x1:=hg.data.cell;have x2:=hg.I0.cell;have x3:=hg.dead.cell;unfold N9 at b1 e1;unfold A4i at hG1 c1;unfold ar;rcases hp with⟨hdn,rfl,rfl⟩|⟨hdn,rfl,k,xv,xs,rfl,hq,hst⟩
   ·unfold A4i at e1;simp(disch:=first|omega|(simp only[C6]<;>omega)|exact⟨rfl,rfl,rfl⟩|assumption) only[↓CG,B0,reduceCtorEq,Nat.reduceAdd,Nat.reduceMul,Nat.reduceSub,t0,t1,t2,AD8,AA3,b1,EB,BS,e1,hG1,c1,fG.e,f2.e,hmu];rw[←hr.fin hdn];have hE2:=M6 c1;refine .ret ⟨rfl,⟨dg,wg,eg,(hg.fr wH f2).put _ hE2 rfl,?_⟩,wG1.put (by omega) _,((fH.fr fG).fr fG1).O6 _ hw.base (fun h=>by omega)⟩;rw[E9 (by omega),f2.e _ (by omega)];exact b1
   · have x4:=hq.xl.cell;have hk:i<2:=by
      rcases DX i 2 with h|h
      ·exact h
      · have:i=2:=by omega
        subst this;exact absurd hr.end_ hdn
     obtain⟨K,hK⟩:∃K,G1.put G.A6 (some (B6 [iN k,iN s,i0,xv] 4 127 true))=K:=⟨_,rfl⟩
     have fGK:Fr N5 G K:=by rw[←hK];exact fG1.O6 _ (fun h=>by omega) (by omega)
     have wK:Wf K:=by rw[←hK];exact wG1.put (by omega) _
     have nK:K.A6=G1.A6:=by rw[←hK];rfl
     have aK:K.at G.A6=some (B6 [iN k,iN s,i0,xv] 4 127 true):=by rw[←hK,K0]
     have bK:=fGK.base;have fHK:=fG.trans fGK fun _ _ h=>h;obtain⟨r2,H3',H3,e2,l3,s3,n3,⟨dv2,Rf,ev2,rfl,hf2⟩,w3,f3⟩:=drawn wK (fun _ _ n l ⟨dv,wv,ev,e,hf⟩=>⟨dv,wv,ev,e,hf.sb n l⟩) ((hdo (B8 K K.A6 []) g dg wg eg k s xv xs (hq.fr wK fGK).sb).mono fun _ _ x=>x.p);have x5:=hf2.data.cell;have x6:=hf2.I0.cell;have x7:=hf2.dead.cell;have x8:=f3.A6;have b3:=f3.base;have fH3:=fHK.trans f3 fun _ _ h=>h;have m1:comp ix 5 14=true:=rfl;have z3:∀c,H3'.at c=H3.at c:=fun c=>by rw[←s3];rfl
     unfold Ce at e1 e2;unfold N9 at e2;unfold B6 at hK;simp(disch:=first|omega|(simp only[C6]<;>omega)|exact⟨rfl,rfl,rfl⟩|assumption) only[↓CG,B0,reduceCtorEq,Nat.reduceAdd,Nat.reduceMul,Nat.reduceSub,t0,t1,t2,AD8,AA3,b1,EB,BS,e1,hG1,c1,fG.e,f2.e,hK,aK,fHK.e,e2,l3,s3,n3,z3,f3.e,m1,hmu];have hE:cE H3 bx=107:=M6 (by rw[fH3.e _ (by omega)];exact b1);rw[hst] at hf2;have hgZ:=hf2.put (some (B6 (N9 (g.BG s want) dv2 Rf ev2++rest) 36 107 true)) hE rfl;have hZ:∀o:Option N2,B8 (H3'.put bx o) K.base (below K.base [bx] K.log)=B8 (H3.put bx o) H3.base (below H3.base [bx] H3.log):=fun o=>by rw[f3.base,f3.log,←s3];rfl
     rw[hZ];refine .go hk ⟨by simp[D0,T.A9,t0,t1,t2],g.BG s want,dv2,Rf,ev2,hr.step hdn (hr.I0 hdn),?hf,?h1,?kw,?kf⟩
     case h1=>rw[A2J,K0,←hst];rfl
     case hf=>rw[hst];exact hgZ.sb _ _
     case kw=>exact(w3.put (by omega) _).AHk (by have:=w3.base;rw[zh];omega) _
     case kf=>exact(fH.fr fH3).Aa7 rfl hlt
 ·exact .ret (by simp only[B0];exact hR)
abbrev AEs(A7:Call):Prop:=DBringR (A7 34)
theorem A7O{k o l:Nat}(hk:k≤l)(hl:l≤m)(hm:m≤100000):∃o',AUb k (F8 b o l (C4 1 m))=some (F8 b o' (l-k) (C4 1 (m-k)))∧(k<l→o'=o+k):=by
 obtain⟨s1,s2,s3⟩:=Hf 1 m (by unfold R8;omega);have hsub:C4 1 m-k=C4 1 (m-k):=by
  show R8*2+m-k=R8*2+(m-k)
  omega
 have hsub2:C4 1 m-m=C4 1 (m-m):=by
  show R8*2+m-m=R8*2+(m-m)
  omega
 generalize hc:C4 1 m=c at *;have e:AUb k (F8 b o l c)=m9 none [] .nil l (sure c) (fun hi=>m9 (some (.val (.int .i64 (.ofNat k)))) [] .nil 0 hi (fun lw=>bif T6 c then dM b o 1 lw hi c else Jn b o 1 lw hi c) none) none:=rfl;rw[e,Tu,IY,AIK,Iq,W8 hk,cond_true,s2,cond_true];unfold dM;by_cases h0:k=0
 ·subst h0;refine⟨o,?_,fun _=>rfl⟩;rw[Dg,cond_true,EC,EC,hc]
 · rw[U4 h0,cond_false,s3,show Nat.beq (1+1) (Nat.succ 1)=true from rfl,cond_true,s1];by_cases h1:k<m
   ·refine⟨o+k,?_,fun _=>rfl⟩;rw[BW h1,cond_true];unfold Rd;rw[C1,C1,C1];show some (F8 b (o+k*1) (l-k) (c-k))=_;rw[jH,hsub]
   ·refine⟨o,?_,fun h=>by omega⟩;rw[GH (by omega),cond_false,C1];show some (F8 b o 0 (c-m))=_;rw[hsub2,show l-k=0 by omega,show m-m=m-k by omega]
theorem lU{v:A0}{n k:Nat}(hs:Sl 1 H v n vs)(hc:MB v)(hk:k≤n)(h0:0<n):∃v',AUb k v=some v'∧Sl 1 H v' (n-k) (vs.drop k)∧MB v'∧∀c,Ch v' c→Ch v c:=by
 obtain⟨b,o,c,rfl,hh⟩:=hs.pos h0;have hl:=hs.1;have hd:(vs.drop k).length=(n-k)*1:=by rw[zV];omega
 rcases hc b o n c rfl with⟨h1,h2⟩|⟨m,rfl,h1,h2⟩
 · by_cases e:k=c
   · refine⟨_,by rw[PL hk h2,if_pos e],?_,.cl (BB _) (by decide),fun c hb=>by rw[X3 hb];exact⟨_,_,_,rfl⟩⟩;have hn:n-k=0:=by omega
     rw[hn] at hd ⊢;exact⟨hd,.inl ⟨rfl,.inr ⟨_,_,_,rfl⟩⟩⟩
   · refine⟨_,by rw[PL hk h2,if_neg e],?_,.cl (by omega) (by omega),fun c hb=>by rw[X3 hb];exact⟨_,_,_,rfl⟩⟩;by_cases hn:n-k=0
     ·rw[hn] at hd ⊢;exact⟨hd,.inl ⟨rfl,.inr ⟨_,_,_,rfl⟩⟩⟩
     ·exact⟨hd,.inr ⟨_,_,_,rfl,by omega,hh.drop (by omega)⟩⟩
 · obtain⟨o',e1,e2⟩:=A7O (b:=b) (o:=o) hk h1 h2;refine⟨_,e1,?_,.op (by omega) (by omega),fun c hb=>by rw[X3 hb];exact⟨_,_,_,rfl⟩⟩;by_cases hn:n-k=0
   ·rw[hn] at hd ⊢;exact⟨hd,.inl ⟨rfl,.inr ⟨_,_,_,rfl⟩⟩⟩
   ·rw[e2 (by omega)];exact⟨hd,.inr ⟨_,_,_,rfl,by omega,hh.drop (by omega)⟩⟩
theorem YZ{v:A0}{n k:Nat}(hs:Sl 1 H v n vs)(hc:MB v)(hk:k≤n)(h0:0<k):∃v',ACo v (.int .i64 (.ofNat k))=some v'∧Sl 1 H v' k (vs.take k)∧MB v'∧∀c,Ch v' c→Ch v c:=by
 obtain⟨b,o,c,rfl,hh⟩:=hs.pos (by omega);have hl:=hs.1;have hd:(vs.take k).length=k*1:=by rw[FB];omega
 rcases hc b o n c rfl with⟨h1,h2⟩|⟨m,rfl,h1,h2⟩
 ·exact⟨_,by rw[PN (by omega) h2,if_neg (by omega)],⟨hd,.inr ⟨_,_,_,rfl,h0,hh.take k⟩⟩,.cl (by omega) h2,fun c hb=>by rw[X3 hb];exact⟨_,_,_,rfl⟩⟩
 ·exact⟨_,A9s (by omega) (by omega),⟨hd,.inr ⟨_,_,_,rfl,h0,hh.take k⟩⟩,.op (by omega) h2,fun c hb=>by rw[X3 hb];exact⟨_,_,_,rfl⟩⟩
theorem AIx{n:Nat}(hn:n≤100000):ACo (F8 b 0 n (C4 1 n)) (.int .i64 (.ofNat 0))=some (F8 b 0 0 (C4 1 n)):=by obtain⟨s1,s2,s3⟩:=Hf 1 n (by unfold R8;omega);generalize C4 1 n=c at *;have e:ACo (F8 b 0 n c) (.int .i64 (.ofNat 0))=m9 (some (.val (.int .i64 (.ofNat 0)))) [] .nil n (sure c) (fun hi=>m9 none [] .nil 0 hi (fun lw=>bif T6 c then dM b 0 1 lw hi c else Jn b 0 1 lw hi c) none) none:=rfl;rw[e,IY,AIK,Iq,s1,W8 (BB _),cond_true,Tu,s2,cond_true];rfl
def AWL(v:A0):Option A0:=A6Y (.val v) [] .nil
theorem AVc(x:OD)(lo:List A0)(tm:T A0):A6Y x lo tm=AWL (G4 x lo tm):=rfl
theorem AJV:AWL (.slice none 0 0)=some (iN 0):=by show(AD .i64 0)=_;exact Aa .i64 0
theorem AQC:AHK 1 (F8 b 0 0 c) (.slice none 0 0) h=.val (iN 0) h:=by show YP (AD .i64 0) h=_;rw[show AD .i64 0=some (iN 0) from Aa .i64 0];rfl
def AVO:=L0 @AVc<|And.intro AJV<|@AQC
def AMr(E:TypeId)(z:A0):CF:=(.mk 27 2 (.seq (.region (.E3 (R6 (.val (.slice .none 0 0))) (.flush 0 V1 .nil))) (.seq (.seq (.region (.E3 (R6 (.tmp Q0)) (.E3 (V0 AUd (.loc 0) (.val (.int .i64 (.ofNat 0)))) (.flush 0 Q8 .nil)))) (.cond (.tmp Q8) (.region (.E3 (A2h 9 (.val (.string (O2 [99,97,110,110,111,116,32,98,101,32,110,101,103,97,116,105,118,101])))) (.JX (65619,[(.some 7)]) (A5p (.loc 0)) .nil))) .skip)) (.seq (.seq (.region (.E3 (R6 (.tmp Q0)) (.E3 (R6 (.tmp [])) (.E3 (A6Y (.loc 0)) (.E3 (R6 (.tmp [])) (.E3 (Rj (.loc 0)) (.E3 (V0 Nv (.loc 2) (.loc 0)) (.E3 (V0 Nv (.loc 5) (.loc 0)) (.E3 (R6 (.loc 0)) (.flush 0 Q0 .nil)))))))))) (.seq (.region (.E3 (R6 (.tmp Q0)) (.E3 (V0 xq (.loc 0) (.val (.int .i64 (.ofNat 0)))) (.flush 0 [false,true,true,true] .nil)))) (.cond (.tmp [false,true,true,true]) (.region (.E3 (R6 (.tmp [])) (.E3 (R6 (.tmp [])) (.E3 (A6Y (.loc 0)) (.E3 (Ii 1 (.loc 2) .none (.some (.loc 0)) .none) (.E3 (R6 (.tmp Q0)) (.JX (65619,[(.some 21),(.some 20),(.some 19),(.some 18),(.some 17)]) (oJ E 1 [z] (.loc 1) (.loc 0)) (.E3 (R6 (.tmp [])) (.E3 (Rj (.loc 0)) (.E3 (Ii 1 (.loc 2) .none (.some (.loc 0)) .none) (.E3 (R6 (.loc 0)) (.flush 0 [] .nil)))))))))))) .skip))) (.seq (.region (.E3 (R6 (.tmp [])) (.E3 (R6 (.loc 0)) (.flush 0 V1 .nil)))) .ret)))) [(.tmp V1)])
def YM(E:TypeId):CC:=(.seq (.region (.E3 (V0 AUd (.tmp mR) (.tmp ALu)) (.flush 0 ANh .nil))) (.seq (.cond (.tmp ANh) .skip (.exit 2)) (.seq (.block 3 (.seq (.region (.E3 (Gi 1 (.tmp ANz) (.tmp mR)) (.BX (Ul (.loc 0)) (.E3 (R6 (.loc 0)) (.flush 0 Cj .nil))))) (.region (.E3 (R6 (.tmp Q8)) (.E3 (R6 (.tmp Cj)) (.JX (504373101,[(.some 32),(.some 31)]) (A3Z E 1 (.loc 1) (.loc 0)) (.E3 (R6 (.loc 0)) (.flush 0 Q8 .nil)))))))) (.region (.E3 (V0 AB0 (.tmp mR) (.val (.int .i64 (.ofNat 1)))) (.E3 (R6 (.loc 0)) (.flush 0 mR .nil)))))))
def YI:CC:=(.seq (.region (.E3 (V0 AUd (.tmp Ku) (.tmp MC)) (.flush 0 A4F .nil))) (.seq (.cond (.tmp A4F) .skip (.exit 0)) (.seq (.block 1 (.seq (.region (.E3 (Gi 1 (.tmp DZ) (.tmp Ku)) (.BX (Ul (.loc 0)) (.E3 (R6 (.loc 0)) (.flush 0 U2 .nil))))) (.seq (.region (.E3 (R6 (.tmp Q3)) (.E3 (R6 (.tmp U2)) (.E3 (Rj (.loc 0)) (.E3 (V0 AB0 (.loc 2) (.loc 0)) (.E3 (R6 (.loc 0)) (.flush 0 Q3 .nil))))))) (.seq (.region (.E3 (R6 (.tmp Q3)) (.E3 (V0 AUd (.loc 0) (.val (.int .i64 (.ofNat 0)))) (.flush 0 AFn .nil)))) (.cond (.tmp AFn) (.region (.E3 (A2h 9 (.val (.string (O2 [108,101,110,32,111,117,116,32,111,102,32,114,97,110,103,101])))) (.JX (504373101,[(.some 21)]) (A5p (.loc 0)) .nil))) .skip))))) (.region (.E3 (V0 AB0 (.tmp Ku) (.val (.int .i64 (.ofNat 1)))) (.E3 (R6 (.loc 0)) (.flush 0 Ku .nil)))))))
def A2R(E:TypeId)(G:FuncId):CF:=(.mk 36 1 (.seq (.region (.E3 (R6 (.val (.slice .none 0 0))) (.flush 0 T1 .nil))) (.seq (.region (.E3 (R6 (.val (.int .i64 (.ofNat 0)))) (.flush 0 Q3 .nil))) (.seq (.seq (.region (.E3 (R6 (.tmp [])) (.E3 (Rj (.loc 0)) (.E3 (R6 (.val (.int .i64 (.ofNat 0)))) (.flush 0 Ku (.flush 1 MC (.flush 2 DZ .nil))))))) (.block 0 (.loop YI))) (.seq (.region (.E3 (R6 (.tmp Q3)) (.JX (504373101,[(.some 23)]) (Dq G [(.val (.slice .none 0 0)),(.loc 0)]) (.E3 (R6 (.loc 0)) (.flush 0 Q8 .nil))))) (.seq (.seq (.region (.E3 (R6 (.tmp [])) (.E3 (Rj (.loc 0)) (.E3 (R6 (.val (.int .i64 (.ofNat 0)))) (.flush 0 mR (.flush 1 ALu (.flush 2 ANz .nil))))))) (.block 2 (.loop (YM E)))) (.seq (.region (.E3 (R6 (.tmp Q8)) (.E3 (R6 (.loc 0)) (.flush 0 T1 .nil)))) .ret)))))) [(.tmp T1)])
def AR9(e:TypeId)(z v n:A0)(h:Hp):N3:=oJ e 1 [z] (.val v) (.val n) (fun _ _ _=>.none) [] .nil h
theorem AOY(e:TypeId)(z:A0)(x y:OD)(A7:Call)(lo:List A0)(tm:T A0)(h:Hp):oJ e 1 [z] x y A7 lo tm h=AR9 e z (G4 x lo tm) (G4 y lo tm) h:=rfl
theorem AHO{e:TypeId}{z:A0}{n:Nat}(h0:0<n)(hn:n≤100000):AR9 e z (.slice none 0 0) (iN n) h=.val (F8 h.A6 0 n (C4 1 n)) (h.new (B6 (U9 n [z]) n e false)):=by show(bif Nat.ble n 16777216 then Nu e 1 h n (U9 n [z]) 0 0 else N3.none)=_;rw[W8 (by omega),cond_true];unfold Nu;rw[show Nat.beq 0 0=true from rfl,cond_true,cond_true,U4 (by omega),cond_false,W8 (by omega),cond_true,VA,QS]
theorem ALz:ACo (.slice none 0 0) (iN 0)=some (.slice none 0 0):=rfl
def AZm:=L0 @AOY<|ALz
abbrev A85(E:TypeId)(z:A0)(F:FuncId)(A7:Call):Prop:=∀h n,0<n→n≤100000→A7 F [.slice none 0 0,iN n] h=.val (F8 h.A6 0 0 (C4 1 n)) (h.new (B6 (U9 n [z]) n E false))
theorem yN{z:A0}{n:Nat}(h0:0<n)(hn:n≤100000):C0 (G8 (AMr E z) A7 cd [.slice none 0 0,iN n] h) (VI (F8 h.A6 0 0 (C4 1 n)) (h.new (B6 (U9 n [z]) n E false))):=by have e1:=AHO (e:=E) (z:=z) (h:=h) h0 hn;have e2:=AIx (b:=h.A6) hn;refine B5 rfl ?_;generalize hk:C4 1 n=k at *;simp(disch:=omega) only[B0,reduceCtorEq,Vh,AVO,AZm,e1,e2];refine .ret ?_;simp only[B0];exact⟨rfl,rfl⟩
def Room(E:TypeId)(H:Hp)(b n:Nat)(l:List A0):Prop:=l.length≤n∧∃cc,H.at b=some (.row cc n E false false)∧∀k,k<l.length→cc.get (path k)=l[k]?
theorem ALF{n:Nat}{l new:List A0}(r:Room E H b n l)(hy:Sl 1 H y m new)(hone:K9 new=true)(hw:Wf H)(hb:H.base≤b)(hm:l.length+m≤n)(hn:n≤100000):∃H',DJ E 1 (F8 b 0 l.length (C4 1 n)) y H=.val (F8 b 0 (l++new).length (C4 1 n)) H'∧Room E H' b n (l++new)∧Wf H'∧H'.A6=H.A6∧Fr (fun c=>c=b) H H':=by
 obtain⟨hl,cc,hat,hc⟩:=r;have hln:=hy.1;obtain⟨s1,s2,s3⟩:=Hf 1 n (by unfold R8;omega);have hlt:=hw.lt hat;have key:∀k,k=m→(∀K:Nat→List A0→N3,wq H 1 y K .none=K k new)→DJ E 1 (F8 b 0 l.length (C4 1 n)) y H=HI E 1 H k new b 0 l.length (C4 1 n):=fun k _ h=>by unfold DJ;rw[h,LM]
 rcases Br m with rfl|h0
 · have hnew:=IU (by omega);subst hnew;rw[rr];refine⟨H,?_,⟨hl,cc,hat,hc⟩,hw,rfl,Fr.refl _ _⟩;rw[key 0 rfl fun K=>by
    obtain⟨_,⟨_,rfl|⟨b',o,c,rfl⟩⟩|⟨b',o,c,rfl,h,_⟩⟩:=hy
    ·rfl
    ·rfl
    ·omega]
   generalize C4 1 n=q at *;unfold HI;rw[C1,s1,show Nat.add l.length 0=l.length from rfl,W8 hl,cond_true];rfl
 · obtain⟨yb,yo,yc,rfl,hhas⟩:=hy.pos h0;have hcs:=hhas.cells (n:=m*1) (by omega);refine⟨H.put b (some (.row (C7 new l.length cc fun t=>t) n E false false)),?_,⟨by rw[Bz];omega,_,K0,fun k hk=>?_⟩,hw.put hlt _,rfl,(Fr.refl _ _).O6 _ (fun _=>rfl) hb⟩
   · rw[key m rfl fun K=>by rw[mB,U4 (by omega),cond_false,hcs];rfl];have e2:(l++new).length=l.length+m:=by rw[Bz];omega
     rw[e2];generalize C4 1 n=q at *;unfold HI;rw[C1,s1,show Nat.add l.length m=l.length+m from rfl,W8 hm,cond_true,U4 (by omega),cond_false,ZN,hat,FL,XK,cond_false,hone,cond_true,show Nat.add 0 (Nat.mul l.length 1)=l.length by simp,show new.length=m by omega,W8 hm,cond_true]
   ·rw[Bz] at hk;rw[V3];grind
def AEZ(h:Hp)(vs:List A0)(rows:List (List A0)):Prop:=vs.length=rows.length∧∀(i:Nat) (r:List A0),rows[i]?=some r→K9 r=true∧∃w,vs[i]?=some w∧Sl 1 h w r.length r
theorem yd{rows:List (List A0)}{r:List A0}(h:rows[i]?=some r):(rows.take (i+1)).flatten=(rows.take i).flatten++r:=by rw[AML h];simp
theorem AFs(rows:List (List A0))(i:Nat):(rows.take i).flatten.length≤rows.flatten.length:=by have:=congrArg List.length (congrArg List.flatten (AKI i rows));grind
abbrev VR(E:TypeId)(F:FuncId)(A7:Call):Prop:=∀h v vs rows,Wf h→Sl 1 h v vs.length vs→AEZ h vs rows→0<rows.flatten.length→rows.flatten.length≤90000→rows.length≤1000→C0 (A7 F [v] h) (fun r H=>r=F8 h.A6 0 rows.flatten.length (C4 1 rows.flatten.length)∧u0 E H h.A6 rows.flatten∧Wf H∧Fr N5 h H)
theorem gE{z:A0}{G:FuncId}(hG:A85 E z G A7){v:A0}{rows:List (List A0)}(hw:Wf h)(hv:Sl 1 h v vs.length vs)(hr:AEZ h vs rows)(h0:0<rows.flatten.length)(hT:rows.flatten.length≤90000)(hl:rows.length≤1000):C0 (G8 (A2R E G) A7 cd [v] h) (fun r H=>r=F8 h.A6 0 rows.flatten.length (C4 1 rows.flatten.length)∧u0 E H h.A6 rows.flatten∧Wf H∧Fr N5 h H):=by
 have hwb:=hw.base;obtain⟨hvl,hrow⟩:=hr;have vl:=hv.len;have hn0:0<vs.length:=by grind
 have cv:=hv.cell;obtain⟨N,hN⟩:∃N,rows.flatten.length=N:=⟨_,rfl⟩
 have e1:=hG h N (by omega) (by omega);obtain⟨K,hK,wK,fK,nK,a1⟩:=J7 hw (B6 (U9 N [z]) N E false);rw[hK] at e1;have bK:=fK.base;have r0:Room E K h.A6 N []:=⟨BB _,_,a1,fun k hk=>absurd hk (xM _)⟩
 rw[hN];refine B5 rfl ?_;simp only[B0,reduceCtorEq,vl];refine D9.lp (P:=fun tm df H=>df=[]∧D0 tm [([],v),(Q3,iN N)]∧H=h) ?_ ?_
 · refine K6 (n:=vs.length) (by omega) (fun i tm H=>D0 tm [([],v),(Q3,iN (rows.take i).flatten.length),(DZ,v),(MC,iN vs.length),(Ku,iN i)]∧H=h) ⟨by simp[D0,T.A9,It],rfl⟩ (fun i tm H hi hI=>?_) (fun tm H hI=>?_)
   ·obtain⟨⟨t0,t3,t9,t10,t11,-⟩,rfl⟩:=hI;obtain⟨r1,w,gw,sw⟩:=hrow i _ (X0 (by omega));have vA:=hv.A hn0;have wl:=sw.len;have hle:=AFs rows (i+1);have hft:=yd (X0 (show i<rows.length by omega));rw[hft,Bz] at hle;unfold YI;simp(disch:=omega) only[B0,reduceCtorEq,t3,t9,t10,t11,vA,gw,wl];exact .go ⟨by simp[D0,T.A9,t0,t9,t10,hft],rfl⟩
   ·obtain⟨⟨t0,t3,t9,t10,t11,-⟩,rfl⟩:=hI;rw[hvl,Rm,hN] at t3;unfold YI;simp(disch:=omega) only[B0,t10,t11];exact .ex ⟨rfl,rfl,by simp[D0,T.A9,t0,t3],rfl⟩
 rintro tm df H ⟨rfl,⟨t0,t3,-⟩,rfl⟩;simp only[B0,reduceCtorEq,t0,t3,e1,vl];refine D9.lp (P:=fun tm df H'=>df=[]∧D0 tm [(Q8,F8 H.A6 0 N (C4 1 N))]∧Room E H' H.A6 N rows.flatten∧Wf H'∧Fr N5 H H') ?_ ?_
 · refine K6 (n:=vs.length) (by omega) (fun i tm H'=>D0 tm [(Q8,F8 H.A6 0 (rows.take i).flatten.length (C4 1 N)),(ANz,v),(ALu,iN vs.length),(mR,iN i)]∧Room E H' H.A6 N (rows.take i).flatten∧Ky H H' (H.A6+1)) ⟨by simp[D0,T.A9],r0,Ky.mk wK fK nK⟩ (fun i tm H' hi hI=>?_) (fun tm H' hI=>?_)
   ·obtain⟨⟨t6,t25,t26,t27,-⟩,rm,kH⟩:=hI;obtain⟨r1,w,gw,sw⟩:=hrow i _ (X0 (by omega));have vA:=(hv.fr hw kH.fr).A hn0;have hle:=AFs rows (i+1);have hft:=yd (X0 (show i<rows.length by omega));rw[hft,Bz] at hle;have bH:=kH.fr.base;obtain⟨H2,e2,rm2,w2,n2,f2⟩:=ALF rm (sw.fr hw kH.fr) r1 kH.wf (by omega) (by omega) (by omega);rw[←hft] at e2 rm2;unfold YM;simp(disch:=omega) only[B0,t6,t25,t26,t27,vA,gw,e2];exact .go ⟨by simp[D0,T.A9,t25,t26],rm2,w2,kH.fr.trans f2 fun k hk e=>by omega,by rw[n2,kH.nx]⟩
   ·obtain⟨⟨t6,t25,t26,t27,-⟩,rm,kH⟩:=hI;rw[hvl,Rm] at t6 rm;rw[hN] at t6;unfold YM;simp(disch:=omega) only[B0,t26,t27];exact .ex ⟨rfl,rfl,by simp[D0,T.A9,t6],rm,kH.wf,kH.fr⟩
 rintro tm df H' ⟨rfl,⟨t6,-⟩,⟨hl2,cc,hat,hc⟩,wH,fH⟩;simp only[B0,t6];refine .ret ?_;simp only[B0];exact⟨⟨cc,by rw[hN];exact hat,hc⟩,wH,fH⟩
def bg(l:List A0):N2:=.row (C7 l 0 .nil fun t=>t) l.length ANH true true
def Ds:List A0:=[.func (.func 485) ⟨[]⟩ ⟨[]⟩,.nilFunc,.nilFunc,.nilFunc,.nilFunc,.func (.func 486) ⟨[]⟩ ⟨[]⟩,.nilFunc]
def Ek:List Nat:=List.replicate 128 240++List.replicate 66 241++List.replicate 30 2++[19,3,3,3,3,3,3,3,3,3,3,3,3,35,3,3,52,4,4,4,68]++List.replicate 11 241
def AFS(l:List Nat):List A0:=l.map fun n=>.int .u8 (.ofNat n)
def AR2:Hp:=T.Gy (path 0) .nil (some (bg Ds)) fun t=>T.Gy (path 5) t (some (bg (AFS Ek))) fun t=>⟨t,16,16,[]⟩
end Abs
end Go
end
