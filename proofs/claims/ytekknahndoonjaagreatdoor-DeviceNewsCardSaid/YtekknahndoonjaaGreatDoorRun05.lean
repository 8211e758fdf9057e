/-
Symbolic runs of the functions that the law reaches, part 05.
Conditions: none.
-/
import Derived.Test.YtekknahndoonjaaGreatDoorRun04
import Derived.Test.YtekknahndoonjaaGreatDoorRun02
import Derived.Test.YtekknahndoonjaaGreatDoorLit01
import Derived.Test.YtekknahndoonjaaGreatDoorRun03
import Derived.Test.YtekknahndoonjaaGreatDoorLitE
set_option linter.all false
set_option maxRecDepth 10000
set_option maxHeartbeats 8000000
noncomputable section
namespace Go
namespace Abs
variable {H h:Hp} {N W bd c fill i j m pd s x y:Nat} {A7:Call} {cd:C9} {dv ev sv tv uv w wv:A0} {gs l tx xs:List Nat} {args cap ds:List A0} {f:FM} {up:Bool} {bs:Nat→Nat} {α:Type} {r:N3} {P:Program}
def ATg(v a b:A0):Option A0:=Ii 1 (.val v) (some (.val a)) (some (.val b)) none [] .nil
theorem AUF(x a b:OD)(lo:List A0)(tm:T A0):Ii 1 x (some a) (some b) none lo tm=ATg (G4 x lo tm) (G4 a lo tm) (G4 b lo tm):=rfl
theorem ANy{v:A0}{n lo hi:Nat}{vs:List A0}(hs:Sl 1 H v n vs)(hc:MB v)(h1:lo<hi)(h2:hi≤n):∃v',ATg v (iN lo) (iN hi)=some v'∧Sl 1 H v' (hi-lo) ((vs.drop lo).take (hi-lo)):=by
 obtain⟨b,o,c,rfl,hh⟩:=hs.pos (by omega);have hl:=hs.1;have hd:((vs.drop lo).take (hi-lo)).length=(hi-lo)*1:=by rw[FB,zV];omega
 have e:ATg (F8 b o n c) (iN lo) (iN hi)=m9 (some (.val (iN hi))) [] .nil n (sure c) (fun hi=>m9 (some (.val (iN lo))) [] .nil 0 hi (fun lw=>bif T6 c then dM b o 1 lw hi c else Jn b o 1 lw hi c) none) none:=rfl;rw[e,IY,AIK,Iq];rcases hc b o n c rfl with⟨h3,h4⟩|⟨m,rfl,h3,h4⟩
 · have s1:T6 c=false:=GD h4;have s2:sure c=c:=by unfold sure;rw[s1];rfl
   rw[s2,W8 (by omega),cond_true,IY,AIK,Iq,W8 (by omega),cond_true,s1,cond_false];unfold Jn;rw[U4 (by omega),cond_false];unfold Rd;rw[C1,C1,C1];exact⟨_,rfl,hd,.inr ⟨_,_,_,rfl,by omega,by
    have:=(hh.drop (k:=lo) (by omega)).take (hi-lo);rw[show o+lo=Nat.add o (Nat.mul lo 1) by show o+lo=o+lo*1;omega] at this;exact this⟩⟩
 · obtain⟨s1,s2,s3⟩:=Hf 1 m (by unfold R8;omega);generalize C4 1 m=q at *;rw[s1,W8 (by omega),cond_true,IY,AIK,Iq,W8 (by omega),cond_true,s2,cond_true];unfold dM;by_cases h0:lo=0
   ·subst h0;rw[Dg,cond_true,EC,A3A] at *;exact⟨_,rfl,hd,.inr ⟨_,_,_,rfl,by omega,hh.take _⟩⟩
   · rw[U4 h0,cond_false,s3,show Nat.beq (1+1) (Nat.succ 1)=true from rfl,cond_true,s1,BW (by omega),cond_true];unfold Rd;rw[C1,C1,C1];exact⟨_,rfl,hd,.inr ⟨_,_,_,rfl,by omega,by
      have:=(hh.drop (k:=lo) (by omega)).take (hi-lo);rw[show o+lo=Nat.add o (Nat.mul lo 1) by show o+lo=o+lo*1;omega] at this;exact this⟩⟩
def lM(H:Hp):Prop:=H.at 5=some (bg (AFS Ek))
abbrev rI(n:Nat):A0:=.int .i32 (.ofNat n)
theorem AQB(h:x<2147483648):W4 .i32 (.ofNat x)=.ofNat x:=by show(bif Nat.blt x 2147483648 then Int.ofNat x else _)=_;rw[BW h];rfl
theorem Aao:(Value.pointer (some ⟨5,0,none⟩))=C2 5 0:=rfl
def A8r(x:Nat):Prop:=x<128∨x=255
theorem ALt(h:A8r x):Nat.land x 192<256∧Nat.land x 192≠128:=by
 rcases h with h|rfl
 ·exact(by decide:∀x,x<128→Nat.land x 192<256∧Nat.land x 192≠128) x h
 ·decide
abbrev Xr(A7:Call):Prop:=∀H x,A8r x→A7 333 [bN x] H=.val (.bool true) H
theorem vR(hx:A8r x):C0 (G8 aO A7 cd [bN x] h) (VI (.bool true) h):=by obtain⟨h1,h2⟩:=ALt hx;have e1:=Jo .u8 (show Nat.land x 192<half .u8 from h1);refine B5 rfl ?_;simp(disch:=omega) only[B0,reduceCtorEq,e1];refine .ret ?_;simp only[B0];exact⟨rfl,rfl⟩
abbrev nE(A7:Call):Prop:=∀H w,lM H→Sl 1 H w 2 (M4 [255,255])→A7 379 [w] H=.val (.tuple ⟨[rI 65533,iN 1]⟩) H
theorem A5e(hg:lM h)(hs:Sl 1 h w 2 (M4 [255,255])):C0 (G8 me A7 cd [w] h) (VI (.tuple ⟨[rI 65533,iN 1]⟩) h):=by have wl:=hs.len;have wA:=hs.A (by omega);have g0:(M4 [255,255])[0]?=some (bN 255):=rfl;generalize M4 [255,255]=L at *;have l1:(AFS Ek).length=256:=rfl;have l2:(AFS Ek)[255]?=some (bN 241):=rfl;unfold lM bg at hg;rw[l1] at hg;have f1:AAQ .i32 (.ofNat 241) (.ofNat 31)=some (.int .i32 (.negSucc 2147483647)):=rfl;have f2:wb .i32 (.negSucc 2147483647) (.ofNat 31)=some (.int .i32 (.negSucc 0)):=rfl;have f3:Mg .i32 (.ofNat 255) (.negSucc 0)=some (.int .i32 (.ofNat 0)):=rfl;have f4:fE .i32 (.ofNat 65533) (.negSucc 0)=some (.int .i32 (.ofNat 65533)):=rfl;have f5:nn Nat.lor .i32 (.ofNat 0) (.ofNat 65533)=some (.int .i32 (.ofNat 65533)):=rfl;have f6:W4 .i32 (.ofNat 241)=.ofNat 241:=rfl;have f7:W4 .i32 (.ofNat 255)=.ofNat 255:=rfl;have l3:(C7 (AFS Ek) 0 .nil fun t=>t).get (path 255)=some (bN 241):=(AFO (by rw[l1];omega)).trans l2;generalize (C7 (AFS Ek) 0 .nil fun t=>t)=FT at *;refine B5 rfl ?_;simp(disch:=omega) only[B0,reduceCtorEq,Aao,wA,g0,hg,l3,f1,f2,f3,f4,f5,f6,f7];refine .ret ?_;simp only[B0];exact⟨rfl,rfl⟩
abbrev rB(A7:Call):Prop:=∀H w x,lM H→Sl 1 H w 2 (M4 [x,255])→A8r x→∃r,A7 334 [w] H=.val (.tuple ⟨[rI r,iN 1]⟩) H
theorem A58(hD:nE A7)(hg:lM h)(hs:Sl 1 h w 2 (M4 [x,255]))(hx:A8r x):C0 (G8 rH A7 cd [w] h) (fun r H=>∃n,VI (.tuple ⟨[rI n,iN 1]⟩) h r H):=by
 have wl:=hs.len;have wA:=hs.A (by omega);have g0:(M4 [x,255])[0]?=some (bN x):=rfl;have hx2:x<256:=by rcases hx with h|h<;>omega
 have f1:W4 .i32 (.ofNat x)=.ofNat x:=AQB (by omega);refine B5 rfl ?_;simp only[B0,reduceCtorEq,wl];refine D9.A9C (P:=fun tm df H=>df=[]∧D0 tm [([],w)]∧H=h∧x=255) (R:=fun tm df H=>df=[]∧D0 tm [(T1,rI x),(Q3,iN 1)]∧H=h) ?_ ?_ ?_
 · refine K6 (n:=1) (by omega) (fun i tm H=>D0 tm [([],w),(Q8,w),(AL,iN 2),(Cj,iN i)]∧H=h∧i=0) ⟨by simp[D0,T.A9,It],rfl,rfl⟩ (fun i tm H hi hI=>?_) (fun tm H hI=>by have:=hI.2.2;omega);obtain⟨⟨t0,t6,t7,t8,-⟩,rfl,rfl⟩:=hI;unfold Wg;rcases hx with hx|hx
   ·simp(disch:=omega) only[B0,reduceCtorEq,t6,t7,t8,wA,g0,f1];exact .ret (.inr ⟨rfl,rfl,by simp[D0,T.A9],rfl⟩)
   ·simp(disch:=omega) only[B0,t6,t7,t8,wA,g0];exact .ex (.inl ⟨rfl,rfl,by simp[D0,T.A9,t0],rfl,hx⟩)
 ·rintro tm df H ⟨rfl,⟨t0,-⟩,rfl,rfl⟩;have e1:=hD H w hg hs;simp only[B0,t0,e1];refine .ret ?_;simp only[B0];exact⟨65533,rfl,rfl⟩
 ·rintro tm df H ⟨rfl,⟨t2,t3,-⟩,rfl⟩;refine .ret ?_;simp only[B0,t2,t3];exact⟨x,rfl,rfl⟩
theorem AJU{n:Nat}(hn:l.length=n+2)(h1:l[n]?=some x)(h2:l[n+1]?=some y):(l.drop n).take 2=[x,y]:=by
 have e1:=(Fe.1 h1)
 have e2:=(Fe.1 h2)
 obtain⟨a1,rfl⟩:=e1;obtain⟨a2,rfl⟩:=e2;rw[mw a1,mw a2];rfl
def AZ0:=@AUF
abbrev lr(A7:Call):Prop:=∀H v n l y,lM H→Sl 1 H v (n+2) (M4 l)→MB v→3≤n→n≤5000→l[n]?=some y→A8r y→l[n+1]?=some 255→A7 280 [v] H=.val (.tuple ⟨[rI 65533,iN 1]⟩) H
theorem A5d(hR:Xr A7)(hD:rB A7){v:A0}{n:Nat}(hg:lM h)(hs:Sl 1 h v (n+2) (M4 l))(hc:MB v)(h3:3≤n)(hn:n≤5000)(h1:l[n]?=some y)(hy:A8r y)(h2:l[n+1]?=some 255):C0 (G8 mN A7 cd [v] h) (VI (.tuple ⟨[rI 65533,iN 1]⟩) h):=by
 have vl:=hs.len;have vA:=hs.A (by omega);have g1:=Q1 h1;have g2:=Q1 h2;have hl:l.length=n+2:=by have:=hs.1;rw[O4] at this;omega
 obtain⟨w,e1,sw⟩:=ANy hs hc (lo:=n) (hi:=n+2) (by omega) (by omega);rw[show n+2-n=2 by omega,A0A,VP,AJU hl h1 h2] at sw;obtain⟨r,e2⟩:=hD h w y hg sw hy;have e3:=hR h y hy;have f1:W4 .i32 (.ofNat 255)=.ofNat 255:=rfl;have q1:n+2-1=n+1:=by omega
 have q2:n+1-1=n:=by omega
 have q3:n+2-4=n-2:=by omega
 have q4:max (n-2) 0=n-2:=by omega
 refine B5 rfl ?_;simp(disch:=omega) only[B0,reduceCtorEq,vA,q1,q2,q3,q4,g2,f1];refine D9.lp (P:=fun tm df H=>df=[]∧D0 tm [([],v),(V1,iN (n+2)),(U2,iN n)]∧H=h) ?_ ?_
 ·refine K6 (n:=1) (by omega) (fun i tm H=>D0 tm [([],v),(V1,iN (n+2)),(U2,iN n),(Q8,iN (n-2))]∧H=h∧i=0) ⟨by simp[D0,T.A9,It],rfl,rfl⟩ (fun i tm H hi hI=>?_) (fun tm H hI=>by have:=hI.2.2;omega);obtain⟨⟨t0,t4,t5,t6,-⟩,rfl,rfl⟩:=hI;unfold We;simp(disch:=omega) only[B0,reduceCtorEq,t0,t5,t6,vA,g1,e3];exact .ex ⟨rfl,rfl,by simp[D0,T.A9,t0,t4,t5],rfl⟩
 rintro tm df H ⟨rfl,⟨t0,t4,t5,-⟩,rfl⟩;simp(disch:=omega) only[B0,reduceCtorEq,t0,t4,t5,AZ0,e1,e2];refine .ret ?_;simp only[B0];exact⟨rfl,rfl⟩
abbrev A2a:A0:=.string (O2 [255])
abbrev yp(A7:Call):Prop:=∀H,A7 281 [A2a,rI 65533] H=.val (.bool true) H∧A7 281 [A2a,rI 10] H=.val (.bool false) H
def ASL(h:Hp)(v:A0)(tx:List Nat)(r:A0):Prop:=Sl 1 h r tx.length (M4 tx)∧MB r∧∀c,Ch r c→Ch v c
structure AKR(tx:List Nat):Prop where
 n5:5≤tx.length
 n1:tx.length≤1000
 last:tx[tx.length-1]?=some 10
abbrev TrimRUR(g:List A0→Hp→N3):Prop:=∀h v tx m,lM h→Sl 1 h v (tx.length+m) (M4 (tx++List.replicate m 255))→MB v→AKR tx→m≤4000→C0 (g [v,A2a] h) (fun r H=>H=h∧ASL h v tx r)
abbrev AE3(A7:Call):Prop:=TrimRUR (A7 212)
theorem ADq(hD:lr A7)(hC:yp A7):TrimRUR (G8 zg A7 cd):=by
 intro h v tx m hg hs hc ok hm;obtain⟨n5,n1,hlast⟩:=ok;refine B5 rfl ?_;simp only[B0];refine D9.lp (P:=fun tm df H=>df=[]∧∃r,D0 tm [([],r)]∧H=h∧ASL h v tx r) ?_ ?_
 · refine K6 (n:=m) (by omega) (fun i tm H=>∃r,D0 tm [([],r),(Q0,A2a)]∧H=h∧ASL h v (tx++List.replicate (m-i) 255) r) ?_ (fun i tm H hi hI=>?_) (fun tm H hI=>?_)
   ·exact⟨v,by trivial,rfl,by grind,hc,fun _ h=>h⟩
   · obtain⟨r,⟨t0,t1,-⟩,rfl,sr,ck,bk⟩:=hI;obtain⟨d,hd⟩:∃d,m-i=d+1:=⟨m-i-1,by omega⟩
     have hL:(tx++List.replicate (m-i) 255).length=tx.length+d-1+2:=by grind
     have hd1:m-(i+1)=d:=by omega
     have sr':=sr;rw[hL] at sr';have vl:=sr'.len;have vA:=sr'.A (by omega);have k2:(tx++List.replicate (m-i) 255)[tx.length+d-1+1]?=some 255:=by rw[Gj (by omega),ZH,if_pos (by omega)]
     obtain⟨y,k1,hy⟩:∃y,(tx++List.replicate (m-i) 255)[tx.length+d-1]?=some y∧A8r y:=by
      rcases Br d with h0|h0
      ·exact⟨10,by rw[OZ (by omega),h0];exact hlast,.inl (by omega)⟩
      ·exact⟨255,by rw[Gj (by omega),ZH,if_pos (by omega)],.inr rfl⟩
     have e1:=hD H r _ _ y hg sr' ck (by omega) (by omega) k1 hy k2;have e2:=(hC H).1;obtain⟨r2,e3,s2,c2,b2⟩:=YZ sr' ck (k:=tx.length+d) (by omega) (by omega);have g2:=Q1 k2;have f1:W4 .i32 (.ofNat 255)=.ofNat 255:=rfl;obtain⟨q,hq⟩:∃q,tx.length+d-1=q:=⟨_,rfl⟩
     have hq1:tx.length+d=q+1:=by omega
     rw[hq] at vl vA g2;rw[hq1] at e3;have p1:q+2-1=q+1:=by omega
     unfold QA;simp(disch:=omega) only[B0,reduceCtorEq,Vh,t0,t1,vA,p1,g2,f1,e1,e2,e3];refine .go ⟨r2,by simp[D0,T.A9,t1],rfl,?_,c2,fun c hb=>bk c (b2 c hb)⟩;have htk:(M4 (tx++List.replicate (m-i) 255)).take (tx.length+d)=M4 (tx++List.replicate (m-(i+1)) 255):=by rw[VP,hd1,List.take_append,TO (by omega),ABp,show min (tx.length+d-tx.length) (m-i)=d by omega]
     rw[htk,hd1] at s2;simp_all
   · obtain⟨r,⟨t0,t1,-⟩,rfl,tr⟩:=hI;rw[Wj] at tr;have htx:tx++List.replicate 0 255=tx:=by simp
     rw[htx] at tr;obtain⟨sr,ck,bk⟩:=id tr;have vl:=sr.len;have vA:=sr.A (by omega);have g2:=Q1 hlast;have e2:=(hC H).2;have f1:W4 .i32 (.ofNat 10)=.ofNat 10:=rfl;unfold QA;simp(disch:=omega) only[B0,reduceCtorEq,t0,t1,vA,g2,f1,e2];exact .ex ⟨rfl,rfl,r,by simp[D0,T.A9,t0],rfl,tr⟩
 rintro tm df H ⟨rfl,r,⟨t0,-⟩,rfl,tr⟩;simp only[B0,t0];refine .ret ?_;simp only[B0];exact tr
abbrev AKq(A7:Call):Prop:=∀H,A7 210 [A2a] H=.val (.tuple ⟨[.agg ⟨Tv 256 (.bool false)⟩,.bool false]⟩) H
theorem AGc(hA:AKq A7)(hU:AE3 A7){v:A0}(hw:Wf h)(hg:lM h)(hs:Sl 1 h v (tx.length+m) (M4 (tx++List.replicate m 255)))(hc:MB v)(ok:AKR tx)(hm:m≤4000):C0 (G8 A6m A7 cd [v,A2a] h) (fun r H=>ASL h v tx r∧H.log=h.log):=by
 obtain⟨n5,n1,hlast⟩:=id ok;have hwb:=hw.base;have vl:=hs.len;have l1:(Tv 256 (Value.bool false)).length=256:=AJ8 _ _;have l2:K9 (Tv 256 (Value.bool false))=true:=rfl;have e1:=hA h;obtain⟨K,hK,wK,fK,nK,a4⟩:=O5 hw (Tv 256 (.bool false)) (Tv 256 (.bool false)) 256 318;have sK:=hs.fr hw fK;have fsK:=fK;have bK:=fK.base;have hgK:lM K:=by have:=hw.lt hg;show K.at 5=_;rw[fK.e _ this];exact hg
 obtain⟨r,H,e2,rfl,tr,ck,bk⟩:=(hU K v tx m hgK sK hc ok hm).get;have n0:PH [255] []=false:=rfl;have n2:YH [255] 0=some 255:=rfl;have n3:(255:UInt8).toNat=255:=rfl;have evQ:=And.intro n0<|And.intro n2<|n3;refine B5 rfl ?_;generalize hZ:Tv 256 (Value.bool false)=Z at *;simp(disch:=omega) only[B0,reduceCtorEq,AMp,evQ,vl,e1,hK,l2,e2];refine .ret ?_;simp only[B0];refine⟨⟨tr.K7 fun c h0 hb=>?_,ck,bk⟩,fK.log⟩;exact(fK.e c (hs.lt hw (by omega) (bk c hb))).symm
def A1X(i:Nat):Nat:=[0,0,0,0,0,0,0,4,4].getD i 0
def Xk(i:Nat):Nat:=[1,2,1,4,1,1,1,2,2].getD i 0
def XB(i:Nat):Nat:=[0,2,6,8,16,18,20,22,26,30].getD i 0
theorem AZE:∀i,i<9→T5.take (XB (i+1))=T5.take (XB i)++CX (Ti (A1X i) (Xk i) (Xk i))∧A1X i<2^(8*Xk i)∧A1X i≤4∧Xk i≤4∧(T5.take (XB i)).length≤30∧BT[i]?=some (iN (A1X i)):=by
 intro i hi
 match i,hi with
 | 0,_=>exact⟨by decide,by decide,by decide,by decide,by decide,rfl⟩
 | 1,_=>exact⟨by decide,by decide,by decide,by decide,by decide,rfl⟩
 | 2,_=>exact⟨by decide,by decide,by decide,by decide,by decide,rfl⟩
 | 3,_=>exact⟨by decide,by decide,by decide,by decide,by decide,rfl⟩
 | 4,_=>exact⟨by decide,by decide,by decide,by decide,by decide,rfl⟩
 | 5,_=>exact⟨by decide,by decide,by decide,by decide,by decide,rfl⟩
 | 6,_=>exact⟨by decide,by decide,by decide,by decide,by decide,rfl⟩
 | 7,_=>exact⟨by decide,by decide,by decide,by decide,by decide,rfl⟩
 | 8,_=>exact⟨by decide,by decide,by decide,by decide,by decide,rfl⟩
theorem AEv{b:Nat}(hi:i<9):((qR b).drop (i*2)).take 2=[C2 b i,iN (Xk i)]:=by
 match i,hi with
 | 0,_=>rfl
 | 1,_=>rfl
 | 2,_=>rfl
 | 3,_=>rfl
 | 4,_=>rfl
 | 5,_=>rfl
 | 6,_=>rfl
 | 7,_=>rfl
 | 8,_=>rfl
theorem ATO{w:Nat}(h:w≤4):AAQ .i64 (.ofNat 1) (.ofNat (8*w))=some (iN (2^(8*w))):=by
 match w,h with
 | 0,_=>rfl
 | 1,_=>rfl
 | 2,_=>rfl
 | 3,_=>rfl
 | 4,_=>rfl
abbrev JSlotR(g:List A0→Hp→N3):Prop:=∀h,Wf h→C0 (g [.agg ⟨BT⟩] h) (ANC T5 h)
theorem AGz(hP:AL9 A7)(hF:tP A7):JSlotR (G8 A7C A7 cd):=by
 intro h hw;obtain⟨J,hJ,wJ,fJ,nJ,a1,a2⟩:=U7 hw (B6 BT 9 52 true) (B6 [B7] 1 301 true);have hwb:=hw.base;have bJ:=fJ.base;have e1:=hF J h.A6 wJ;obtain⟨K,hK,wK,fK,nK,a3⟩:=J7 wJ (B6 (qR h.A6) 18 307 true);rw[hK] at e1;have bK:=fK.base;have fhK:=fJ.trans fK fun _ _ h=>h;have A1:K.at h.A6=some (B6 BT 9 52 true):=by rw[fK.e _ (by omega)];exact a1
 have A2:K.at (h.A6+1)=some (B6 [B7] 1 301 true):=by rw[fK.e _ (by omega)];exact a2
 have hs:Sl 2 K (F8 J.A6 0 9 9) 9 (qR h.A6):=⟨rfl,.inr ⟨_,_,_,rfl,by omega,O3 a3 (M8 _)⟩⟩
 unfold BT at hJ;refine B5 rfl ?_;unfold BT;simp only[B0,reduceCtorEq,hJ,e1];have hst:BT.length=9:=rfl;refine D9.lp (P:=fun tm df H=>df=[]∧D0 tm [(Q3,C2 (h.A6+1) 0)]∧A9S K.A6 H (h.A6+1) T5∧Fr (fun c=>c=h.A6+1) K H) ?_ ?_
 · refine K6 (n:=9) (by omega) (fun i tm H=>D0 tm [(Q3,C2 (h.A6+1) 0),(Cj,F8 J.A6 0 9 9),(DZ,iN 9),(MC,iN i)]∧A9S K.A6 H (h.A6+1) (T5.take (XB i))∧Fr (fun c=>c=h.A6+1) K H) ?_ (fun i tm H hi hI=>?_) (fun tm H hI=>?_)
   ·exact⟨by simp[D0,T.A9],⟨B7,Out.nil,A2,wK,by omega,M8 _⟩,Fr.refl _ _⟩
   · obtain⟨⟨t3,t8,t9,t10,-⟩,hco,fH⟩:=hI;obtain⟨bv,ou,hat,wH,_,nH⟩:=id hco;have bH:=fH.base;obtain⟨g1,g2,g3,g4,g5,g6⟩:=AZE i hi;have b1:H.at h.A6=some (B6 BT 9 52 true):=by rw[fH.M5 _ (by omega) (by omega)];exact A1
     have hsH:=hs.K7 fun c _ hc=>by rw[X3 hc,fH.M5 _ (by omega) (by omega)]
     have hfl:(qR h.A6).length=18:=rfl;have brow:H.at J.A6=some (B6 (qR h.A6) 18 307 true):=by rw[fH.M5 _ (by omega) (by omega)];exact a3
     have gl:((qR h.A6).drop (0+i*2)).take 2=[C2 h.A6 i,iN (Xk i)]:=by rw[Ag];exact AEv hi
     obtain⟨H1,hH1,w1,f1,n1,c1⟩:=O5 wH [.pointer none,i0] [C2 h.A6 i,iN (Xk i)] 2 307;have b11:H1.at h.A6=some (B6 BT 9 52 true):=by rw[f1.e _ (by omega)];exact b1
     have e2:=ATO g4;have y1:=f1.base;obtain⟨H2',e3,hco2,fL⟩:=hP (B8 H1 H1.A6 []) K.A6 (h.A6+1) (A1X i) (Xk i) _ ((hco.step w1 f1).sb (w1.sb [])) g4 (by omega) (by omega);have hbel:below H1.base H2'.log H1.log=H1.log:=Er fun y hy=>by
      rcases fL.ls y hy with h|h|h
      ·cases h
      ·omega
      ·omega
     rw[←g1] at hco2;obtain⟨H2,hH2⟩:∃H2,B8 H2' H1.base H1.log=H2:=⟨_,rfl⟩
     have nx2:H1.A6≤H2'.A6:=fL.A6;have w2':Wf H2':=by obtain⟨_,_,_,w,_⟩:=hco2;exact w
     have hwb1:=w1.base;have w2:Wf H2:=by rw[←hH2];exact w2'.AHk (by omega) _
     have fin2:A9S K.A6 H2 (h.A6+1) (T5.take (XB (i+1)))∧Fr (fun c=>c=h.A6+1) K H2:=by
      refine⟨by rw[←hH2];exact hco2.sb (by rw[hH2];exact w2),?_⟩;rw[←hH2];exact⟨by show H1.base=_;omega,by show H1.log=_;rw[f1.log,fH.log],by show K.A6≤H2'.A6;omega,fun c hc hn=>by show H2'.at c=_;rw[fL.M5 c (by show c<H1.A6;omega) (by omega)];show H1.at c=_;rw[f1.e _ (by omega),fH.M5 _ hc hn]⟩
     have q6:comp KE 6 7=true:=by decide
     have q4:comp KE 4 7=true:=by decide
     have q2:comp KE 2 7=true:=by decide
     have hal:∀own x y z,allowed (comp KE) 7 true own ⟨[],[(6,x),(4,y),(2,z)],[]⟩ H2'.log=true:=fun own x y z=>AMd (fun p hp=>by
      simp only[m8,Lg,or_false] at hp;rcases hp with rfl|rfl|rfl
      ·exact q6
      ·exact q4
      ·exact q2) _
     unfold SS;simp(disch:=first|omega|(simp only[C6]<;>omega)) only[B0,reduceCtorEq,Nat.reduceAdd,Vh,t3,t8,t9,t10,brow,gl,hH1,c1,b11,g6,e2,e3,hbel,hH2,hal];exact .go ⟨by simp[D0,T.A9,t3,t8,t9],fin2⟩
   ·obtain⟨⟨t3,t8,t9,t10,-⟩,hco⟩:=hI;unfold SS;simp(disch:=omega) only[B0,t9,t10];exact .ex ⟨rfl,rfl,by simp[D0,T.A9,t3],hco⟩
 rintro tm df H ⟨rfl,⟨t3,-⟩,⟨bv,ou,hat,wH,_,nH⟩,fH⟩;have cbv:=ou.sl.cell;simp(disch:=omega) only[B0,Vh,t3,hat];refine .ret ?_;simp only[B0];exact⟨⟨ou.sl,fun c hc=>by have:=ou.S6 (by decide) hc;omega⟩,wH,fhK.trans fH fun k hk e=>by omega⟩
abbrev AMl(A7:Call):Prop:=JSlotR (A7 98)
def ARi(w x:Nat):List Nat:=CX (List.replicate (w-1) 0++[x])
theorem ANi{w:Nat}(hi:i<w)(hw:w≤4)(rest:List Nat):(ARi w x++rest).drop (2*i)=(if i+1=w then x else 0)::(255-(if i+1=w then x else 0))::(ARi w x++rest).drop (2*(i+1)):=by
 obtain rfl|rfl|rfl|rfl:w=1∨w=2∨w=3∨w=4:=by omega
 all_goals
  obtain rfl|rfl|rfl|rfl:i=0∨i=1∨i=2∨i=3:=by omega
  all_goals first|rfl|(exfalso;omega)
theorem AQw{w:Nat}(h0:0<w)(hw:w≤4)(rest:List Nat):(ARi w x++rest).drop (2*w)=rest:=by
 obtain rfl|rfl|rfl|rfl:w=1∨w=2∨w=3∨w=4:=by omega
 all_goals rfl
def AYG(h:Hp)(db:Nat)(v:A0)(H:Hp)(n:Nat)(l:List Nat):Prop:=∃v',H.at db=some (B6 [v'] 1 504 true)∧Sl 1 H v' n (M4 l)∧MB v'∧(∀c,Ch v' c→Ch v c)∧Wf H∧IM (fun c=>c=db) h H
abbrev JTakeR(g:List A0→Hp→N3):Prop:=∀h db w x v rest,h.at db=some (B6 [v] 1 504 true)→Wf h→Sl 1 h v (2*w+rest.length) (M4 (ARi w x++rest))→MB v→(∀c,Ch v c→c≠db)→0<w→w≤4→x<256→C0 (g [C2 db 0,iN w] h) (fun r H=>r=iN x∧AYG h db v H rest.length rest)
theorem AGm:JTakeR (G8 mu A7 cd):=by
 intro h db w x v rest hat hw hs hc hne h0 hw4 hx;have hwb:=hw.base;have hdb:=hw.lt hat;have g1:AAQ .i64 (.ofNat 0) (.ofNat 8)=some (iN 0):=rfl;refine B5 rfl ?_;simp only[B0,reduceCtorEq];refine D9.lp (P:=fun tm df H=>df=[]∧D0 tm [(U2,iN x)]∧AYG h db v H rest.length rest) ?_ ?_
 · refine K6 (n:=w) (by omega) (fun i tm H=>D0 tm [([],C2 db 0),(U2,iN (if i=w then x else 0)),(Q8,iN w),(AL,iN i)]∧AYG h db v H (2*(w-i)+rest.length) ((ARi w x++rest).drop (2*i))) ?_ (fun i tm H hi hI=>?_) (fun tm H hI=>?_)
   ·rw[if_neg (by omega)];exact⟨by simp[D0,T.A9,Fy],v,hat,hs,hc,fun _ h=>h,hw,IM.refl _ _⟩
   · obtain⟨⟨t0,t5,t6,t7,-⟩,v1,b1,s1,c1,k1,wH,fH⟩:=hI;rw[if_neg (by omega)] at t5;have hl:=ANi (x:=x) hi hw4 rest;obtain⟨y,hy⟩:∃y,(if i+1=w then x else 0)=y:=⟨_,rfl⟩
     rw[hy] at hl;have hy2:y<256:=by rw[←hy];split<;>omega
     generalize hL:(ARi w x++rest).drop (2*i)=L at *;have hnL:0<2*(w-i)+rest.length:=by omega
     have vA:=s1.A hnL;have gg0:(M4 L)[0]?=some (bN y):=by rw[hl];rfl
     have gg1:(M4 L)[1]?=some (bN (255-y)):=by rw[hl];rfl
     have e1:=AUD (a:=255-y) (by omega);rw[show 255-(255-y)=y by omega] at e1;have e2:nn Nat.lor .i64 (.ofNat 0) (.ofNat y)=some (iN y):=by have:Nat.lor 0 y=y:=Nat.zero_or y;rw[A2c .i64 (by rw[this];show y<9223372036854775808;omega),this]
     obtain⟨v2,e3,s2,c2,k2⟩:=lU s1 c1 (k:=2) (by omega) hnL;have e4:A8y v1 (iN 2)=some v2:=e3;have cv1:=s1.cell;have cv2:=s2.cell;have hdbH:db<H.A6:=by have:=fH.A6;omega
     unfold MK;simp(disch:=first|omega|(simp only[C6]<;>omega)) only[B0,reduceCtorEq,Nat.reduceAdd,Vh,t0,t5,t6,t7,b1,vA,gg0,gg1,e1,g1,e2,e4];refine .go ⟨by simp[D0,T.A9,t0,t6,hy],v2,by rw[K0];rfl,?_,c2,fun c hb=>k1 c (k2 c hb),wH.put hdbH _,fH.O6 _ hwb fun _=>rfl⟩;rw[hl] at s2;have s3:Sl 1 H v2 (2*(w-(i+1))+rest.length) (M4 ((ARi w x++rest).drop (2*(i+1)))):=by rw[show 2*(w-(i+1))+rest.length=2*(w-i)+rest.length-2 by omega];exact s2
     exact s3.K7 fun c _ hb=>E9 fun e=>hne c (k1 c (k2 c hb)) e.symm
   ·obtain⟨⟨t0,t5,t6,t7,-⟩,v1,b1,s1,hr⟩:=hI;rw[if_pos rfl] at t5;rw[Wj,Nat.mul_zero,Ag,AQw h0 hw4] at s1;unfold MK;simp(disch:=omega) only[B0,t6,t7];exact .ex ⟨rfl,rfl,by simp[D0,T.A9,t5],v1,b1,s1,hr⟩
 rintro tm df H ⟨rfl,⟨t5,-⟩,hT⟩;simp only[B0,t5];refine .ret ?_;simp only[B0];exact hT
abbrev AD9(A7:Call):Prop:=JTakeR (A7 330)
def gV:PanicEntry:={ v:=.iface 502 (.agg ⟨[]⟩),recovered:=false }
abbrev JTakePR(g:List A0→Hp→N3):Prop:=∀h db w n v rest,h.at db=some (B6 [v] 1 504 true)→Wf h→Sl 1 h v n (M4 (255::255::rest))→0<w→w≤4→cg (g [C2 db 0,iN w] h) (fun c H=>c=[gV]∧H=h)
theorem ACK:JTakePR (G8 mu A7 cd):=by
 intro h db w n v rest hat hw hs h0 hw4;have hn:=hs.1;have hnL:0<n:=by rw[O4] at hn;simp at hn;omega
 have vA:=hs.A hnL;have hn2:2≤n:=by rw[O4] at hn;simp at hn;omega
 have gg0:(M4 (255::255::rest))[0]?=some (bN 255):=rfl;have gg1:(M4 (255::255::rest))[1]?=some (bN 255):=rfl;have e1:=AUD (a:=255) (by omega);generalize M4 (255::255::rest)=L at *;refine gn rfl ?_;simp only[B0,reduceCtorEq];refine D9.Lt (φ:=fun e tm df H=>e=.panic [gV]∧df=[]∧H=h) (D9.Lt (φ:=fun e tm df H=>e=.panic [gV]∧df=[]∧H=h) ?_ ?_) ?_
 ·refine K6 (n:=w) (by omega) (fun i tm H=>i=0∧D0 tm [([],C2 db 0),(Q8,iN w),(AL,iN i)]∧H=h) ⟨rfl,by simp[D0,T.A9,Fy],rfl⟩ (fun i tm H hi hI=>?_) (fun tm H hI=>by have:=hI.1;omega);obtain⟨rfl,⟨t0,t6,t7,-⟩,rfl⟩:=hI;have e2:iQ .u8 (.ofNat 255) (.ofNat 0)=some (.bool true):=rfl;unfold MK;simp(disch:=omega) only[B0,reduceCtorEq,Vh,t0,t6,t7,hat,vA,gg0,gg1,e1,AVx];exact .inr ⟨by simp,rfl,rfl,rfl⟩
 ·rintro e tm df H ⟨rfl,rfl,rfl⟩;exact⟨rfl,rfl,rfl⟩
 ·rintro e tm df H ⟨rfl,rfl,rfl⟩;exact⟨rfl,_,rfl,rfl,rfl⟩
abbrev AF4(A7:Call):Prop:=JTakePR (A7 330)
theorem AQL(f:OD)(l:List OD)(r:CL)(A7:Call)(lo:List A0)(tm:T A0)(df:Df)(h:Hp):Hb (.AR7 f l r) A7 lo tm df h=AFi (G4 f lo tm) (fun g first cap=>Hb r A7 (undef::lo) tm ((g,first++(XW l lo tm++cap))::df) h) .none:=rfl
def AVW(cd:C9)(rs:List CR)(g:FuncId)(a:List A0)(φ:A0→Hp→Prop)(e:Ex)(tm:T A0)(df:Df)(h:Hp):Prop:=(e=.normal∨e=.ret)∧df=[(g,a)]∧cd g a .ret h=.ok .ret h∧C0 (ud rs tm h) φ
theorem Je{nt na:Nat}{b:CC}{rs:List CR}{g:FuncId}{a:List A0}{φ:A0→Hp→Prop}(hn:(Nat.beq (len args) na&&Nat.ble na nt)=true)(hb:D9 (Dx b A7 (C7 args 0 .nil fun t=>t) [] h) (AVW cd rs g a φ)):C0 (G8 (.mk nt na b rs) A7 cd args h) φ:=by
 show C0 (bif Nat.beq (len args) na&&Nat.ble na nt then WT args 0 .nil fun tm=>N7.rec (motive:=fun _=>N3) .none (fun e tm df h=>Ex.rec (motive:=fun _=>N3) (leave cd rs df tm .ret h) (fun _=>.none) (leave cd rs df tm .ret h) (fun c=>leave cd rs df tm (.Jj c) h) e) (Dx b A7 tm [] h) else .none) φ;rw[hn,cond_true,Kr,AK];revert hb;cases Dx b A7 (C7 args 0 .nil fun t=>t) [] h with
 | none=>intro h;exact h.elim
 | ok e tm df h' =>
  intro hb;obtain⟨he,hdf,hc,hy⟩:=hb;subst hdf;have key:leave cd rs [(g,a)] tm .ret h'=ud rs tm h':=by show uW.rec (motive:=fun _=>N3) .none (fun m h=>Md.rec (motive:=fun _=>N3) (ud rs tm h) (fun c=>.panic c h) m) (cd g a .ret h')=_;rw[hc]
  rcases he with rfl|rfl
  ·show C0 (leave cd rs [(g,a)] tm .ret h') φ;rw[key];exact hy
  ·show C0 (leave cd rs [(g,a)] tm .ret h') φ;rw[key];exact hy
def AWE:=L0 @EB<|L0 @AQL<|L0 @ASd<|@AW5
structure AIw(cd:C9):Prop where
 ret:∀b H,cd 375 [C2 b 0] .ret H=.ok .ret H
 AYK:∀b H,Wf H→H.base≤b→H.at b=some (B6 [.bool false] 1 4 true)→∃H',cd 375 [C2 b 0] (.Jj [gV]) H=.ok .ret H'∧Wf H'∧Fr (fun k=>k=b) H H'∧H'.at b=some (B6 [.bool false] 1 4 true)
def LO:A0:=.iface 502 (.agg ⟨[]⟩)
theorem vP{b:Nat}(hw:Wf H)(hat:H.at b=some (B6 [.bool false] 1 4 true))(hb:H.base≤b):∃m' H',Xu bD A7 [C2 b 0] (.Jj [gV]) H=.ok m' H'∧m'=.ret∧Wf H'∧Fr (fun k=>k=b) H H'∧H'.at b=some (B6 [.bool false] 1 4 true):=by
 have hbn:=hw.lt hat;have rA:UF (.Jj [gV])=(LO,.Jj [{ v:=LO,recovered:=true }]):=rfl;refine A6W rfl ?_;refine FH.seq (φ:=fun tm m H'=>m=.Jj [{ v:=LO,recovered:=true }]∧H'=H∧D0 tm [([],C2 b 0),(Q0,LO)]) ?_ ?_
 · refine FH.seq (φ:=fun tm m H'=>m=.Jj [{ v:=LO,recovered:=true }]∧H'=H∧D0 tm [([],C2 b 0),(V1,LO)]) ?_ ?_
   ·refine FH.iu ?_;rw[rA];exact⟨rfl,rfl,rfl,by simp[D0,T.A9,It]⟩
   rintro tm m H' ⟨rfl,rfl,t0,t4,-⟩;refine FH.seq (φ:=fun tm m H''=>m=.Jj [{ v:=LO,recovered:=true }]∧H''=H'∧D0 tm [([],C2 b 0),(Q0,LO)]) ?_ ?_
   ·refine .plain ?_;simp only[B0,t4];simp[D0,T.A9,t0]
   rintro tm m H' ⟨rfl,rfl,t0,t1,-⟩;refine .plain ?_;exact⟨rfl,rfl,rfl,rfl,t0,t1,trivial⟩
 rintro tm m H' ⟨rfl,rfl,t0,t1,-⟩;refine FH.seq (φ:=fun tm m H''=>m=.Jj [{ v:=LO,recovered:=true }]∧H''=H'∧D0 tm [([],C2 b 0),(Q0,LO),(Q8,.bool true)]) ?_ ?_
 ·refine .plain ?_;have q:Dp true (!false)=true:=rfl;have q2:=ATw 502 (.agg ⟨[]⟩);unfold LO at t1 ⊢;simp only[B0,t1,q2];simp[D0,T.A9,t0,t1]
 rintro tm m H' ⟨rfl,rfl,t0,t1,t6,-⟩;refine FH.AWk (by show Qd (tm.get Q8)=_;rw[t6];rfl) ?_;obtain⟨X,hX,wX,fX,nX,aX⟩:=O5 hw [] [] 0 502;have bX:=fX.base;have aXb:X.at b=some (B6 [.bool false] 1 4 true):=by rw[fX.e _ hbn];exact hat
 refine FH.seq (φ:=fun tm m H''=>m=.Jj [{ v:=LO,recovered:=true }]∧H''=X∧D0 tm [([],C2 b 0)]) ?_ ?_
 · refine FH.seq (φ:=fun tm m H''=>m=.Jj [{ v:=LO,recovered:=true }]∧H''=X∧D0 tm [([],C2 b 0),(Q3,.bool true)]) ?_ ?_
   ·refine .plain ?_;unfold LO at t1 ⊢;simp(disch:=omega) only[B0,t1,AXt,ATX,hX];simp[D0,T.A9,t0]
   rintro tm m H'' ⟨rfl,rfl,t0,t3,-⟩;refine FH.seq (φ:=fun tm m H3=>m=.Jj [{ v:=LO,recovered:=true }]∧H3=H''∧D0 tm [([],C2 b 0),(AED,.bool false)]) ?_ ?_
   ·refine .plain ?_;simp only[B0,t3];simp[D0,T.A9,t0]
   rintro tm m H3 ⟨rfl,rfl,t0,t13,-⟩;refine FH.AWG (by show Qd (tm.get AED)=_;rw[t13];rfl) ?_;refine .plain ?_;exact⟨rfl,rfl,rfl,rfl,t0,trivial⟩
 rintro tm m H'' ⟨rfl,rfl,t0,-⟩;refine .plain ?_;simp(disch:=omega) only[B0,t0,aXb];exact⟨rfl,wX.put (by omega) _,(fX.mono fun _ _ h=>h.elim).O6 _ (fun _=>rfl) hb,rfl⟩
theorem mq(hcd:AIw cd){G:Hp}{v:A0}{g:FuncId}(cv:Cell v)(e2:A7 g (C2 (h.A6+1) 0::cap) ((h.new (B6 [.bool false] 1 4 true)).new (B6 [v] 1 504 true))=.val (.tuple ⟨[]⟩) G)(hat:G.at h.A6=some (B6 [.bool false] 1 4 true)):C0 (G8 Gx A7 cd [v,Vk g cap] h) (VI (.bool true) (G.put h.A6 (some (B6 [.bool true] 1 4 true)))):=by unfold Vk;refine Je (g:=375) (a:=[C2 h.A6 0]) rfl ?_;simp(disch:=first|omega|(simp only[C6]<;>omega)) only[B0,reduceCtorEq,AJK,AWE,e2,hat];refine⟨.inr rfl,rfl,hcd.ret _ _,?_⟩;simp(disch:=omega) only[B0];exact⟨rfl,rfl⟩
theorem ADm(hcd:AIw cd){G:Hp}{v:A0}{g:FuncId}(cv:Cell v)(e2:A7 g (C2 (h.A6+1) 0::cap) ((h.new (B6 [.bool false] 1 4 true)).new (B6 [v] 1 504 true))=.panic [gV] G)(hw:Wf G)(hb:G.base≤h.A6)(hat:G.at h.A6=some (B6 [.bool false] 1 4 true)):C0 (G8 Gx A7 cd [v,Vk g cap] h) (fun r H=>r=.bool false∧Wf H∧Fr (fun k=>k=h.A6) G H):=by obtain⟨H',e3,wH,fH,aH⟩:=hcd.AYK h.A6 G hw hb hat;unfold Vk;refine xC (g:=375) (a:=[C2 h.A6 0]) rfl ?_;simp(disch:=omega) only[B0,reduceCtorEq,AJK,AWE,e2];refine⟨_,H',rfl,e3,?_⟩;show C0 (R5 (FE (C2 h.A6 0) _ none) _ _) _;simp(disch:=omega) only[B0,aH];exact⟨wH,fH⟩
theorem A0S{cm:Nat→Nat→Bool}{k:Nat}{own:List (Nat×Bool)}{ns rs ws:List (Nat×Nat)}:∀ {log:List Nat},(∀b∈log,owner ns b=none∧∀p∈rs,p.2=b→cm p.1 k=true)→allowed cm k true own ⟨ns,rs,ws⟩ log=true
 | [],_=>rfl
 | b::log,hn=>by
  have h1:=hn b Ct;have hm:∀ {l:List (Nat×Nat)},(∀p∈l,p.2=b→cm p.1 k=true)→By cm k b l=true:=fun{l}=>by
   induction l with
   | nil=>intro _;rfl
   | cons p l ih =>
    intro h;have e:=ih fun q hq=>h q (EM _ hq);show(bif Nat.beq p.2 b then(bif cm p.1 k then By cm k b l else false) else By cm k b l)=true;rw[e];cases hb:Nat.beq p.2 b with
    | false=>rfl
    | true=>simp_all
  show(bif Option.rec (motive:=fun _=>Bool) true (TI own) (owner ns b) then(bif By cm k b rs then allowed cm k true own ⟨ns,rs,ws⟩ log else false) else false)=true;rw[h1.1,hm h1.2,A0S fun c hc=>hn c (EM _ hc)];rfl
theorem A8i{n k b:Nat}(h:b<n):owner [(n,k)] b=none:=by show(bif Nat.ble n b then some k else none)=none;rw[GD h];rfl
theorem AYX:∀i,i<9→T5.drop (XB i)=ARi (Xk i) (A1X i)++T5.drop (XB (i+1))∧30-XB i=2*Xk i+(T5.drop (XB (i+1))).length∧0<Xk i∧Xk i≤4∧A1X i<256∧(T5.drop (XB (i+1))).length=30-XB (i+1)∧(BT.take i++YR.drop i).set i (iN (A1X i))=BT.take (i+1)++YR.drop (i+1):=by
 intro i hi
 match i,hi with
 | 0,_=>trivial
 | 1,_=>trivial
 | 2,_=>trivial
 | 3,_=>trivial
 | 4,_=>trivial
 | 5,_=>trivial
 | 6,_=>trivial
 | 7,_=>trivial
 | 8,_=>trivial
theorem AO0(hi:i≤9):(BT.take i++YR.drop i).length=9:=by have h1:BT.length=9:=rfl;have h2:YR.length=9:=rfl;grind
abbrev JState1R(g:List A0→Hp→N3):Prop:=∀h db sb v,Wf h→h.at db=some (B6 [v] 1 504 true)→h.at sb=some (B6 YR 9 52 true)→Sl 1 h v 30 (M4 T5)→MB v→(∀c,Ch v c→c≠db∧c≠sb)→db≠sb→h.base≤db→h.base≤sb→C0 (g [C2 db 0,C2 sb 0] h) (fun r H=>r=.tuple ⟨[]⟩∧H.at sb=some (B6 BT 9 52 true)∧Wf H∧Fr (fun c=>c=db∨c=sb) h H)
theorem A8R(hT:AD9 A7)(hF:tP A7):JState1R (G8 mI A7 cd):=by
 intro h db sb v hw b1 b2 hs hc hn1 hd hb1 hb2;have hwb:=hw.base;have e1:=hF h sb hw;obtain⟨K,hK,wK,fK,nK,a3⟩:=J7 hw (B6 (qR sb) 18 307 true);rw[hK] at e1;have ld:=hw.lt b1;have ls:=hw.lt b2;have bK:=fK.base;refine B5 rfl ?_;simp only[B0,e1];refine D9.Lt (φ:=fun e tm df H=>e=.exit 0∧df=[]∧H.at sb=some (B6 BT 9 52 true)∧Wf H∧Fr (fun c=>c=db∨c=sb) K H) ?_ ?_
 rotate_left
 ·rintro e tm df H ⟨rfl,rfl,c2,wH,fH⟩;simp only[B0];refine⟨.inl rfl,rfl,?_⟩;simp only[B0];exact⟨c2,wH,(fK.mono fun _ _ h=>h.elim).trans fH fun k hk e=>e⟩
 · refine K6 (n:=9) (by omega) (fun i tm H=>D0 tm [([],C2 db 0),(U2,F8 h.A6 0 9 9),(Q8,iN 9),(AL,iN i)]∧H.at sb=some (B6 (BT.take i++YR.drop i) 9 52 true)∧Wf H∧Fr (fun c=>c=db∨c=sb) K H∧∃v',H.at db=some (B6 [v'] 1 504 true)∧Sl 1 H v' (30-XB i) (M4 (T5.drop (XB i)))∧MB v'∧∀c,Ch v' c→Ch v c) ?_ (fun i tm H hi hI=>?_) (fun tm H hI=>?_)
   ·exact⟨by simp[D0,T.A9,Fy],by rw[fK.e _ ls];exact b2,wK,Fr.refl _ _,v,by rw[fK.e _ ld];exact b1,hs.fr hw fK,hc,fun _ h=>h⟩
   · obtain⟨⟨t0,t5,t6,t7,-⟩,c2,wH,fH,v',c1,sv,ck,bk⟩:=hI;have bH:=fH.base;have nH:=fH.A6;obtain⟨g1,g2,g3,g4,g5,g6,g7⟩:=AYX i hi;have hfl:(qR sb).length=18:=rfl;have brow:H.at h.A6=some (B6 (qR sb) 18 307 true):=by rw[fH.M5 _ (by omega) (by omega)];exact a3
     have gl:((qR sb).drop (0+i*2)).take 2=[C2 sb i,iN (Xk i)]:=by rw[Ag];exact AEv hi
     obtain⟨H1,hH1,w1,f1,n1,d1⟩:=O5 wH [.pointer none,i0] [C2 sb i,iN (Xk i)] 2 307;have y1:=f1.base;have sv1:=sv.fr wH f1;rw[g1,g2] at sv1;have c11:H1.at db=some (B6 [v'] 1 504 true):=by rw[f1.e _ (by omega)];exact c1
     have c21:H1.at sb=some (B6 (BT.take i++YR.drop i) 9 52 true):=by rw[f1.e _ (by omega)];exact c2
     obtain⟨r,H2',e3,rfl,v2,k1,k2,k3,k4,k5,fL⟩:=(hT (B8 H1 H1.A6 []) db (Xk i) (A1X i) v' _ c11 (w1.sb []) (sv1.sb _ _) ck (fun c hb=>(hn1 c (bk c hb)).1) g3 g4 g5).get;have hbel:below H1.base H2'.log H1.log=H1.log:=Er fun y hy=>by
      rcases fL.ls y hy with h|h
      ·cases h
      ·omega
     obtain⟨H2,hH2⟩:∃H2,B8 H2' H1.base H1.log=H2:=⟨_,rfl⟩
     have nx2:H1.A6≤H2'.A6:=fL.A6;have hwb1:=w1.base;have w2:Wf H2:=by rw[←hH2];exact k5.AHk (by omega) _
     have f2:Fr (fun c=>c=db) H1 H2:=by rw[←hH2];exact⟨rfl,rfl,nx2,fun c h1 h2=>fL.M5 c h1 h2⟩
     have y2:=f2.base;have n2:H2.A6=H2'.A6:=by rw[←hH2];rfl
     have c22:H2.at sb=some (B6 (BT.take i++YR.drop i) 9 52 true):=by rw[f2.M5 _ (by omega) (fun e=>hd e.symm)];exact c21
     have c22':H2'.at sb=some (B6 (BT.take i++YR.drop i) 9 52 true):=by rw[←hH2] at c22;exact c22
     have sl9:=AO0 (show i≤9 by omega);have hal:∀own ws,allowed (comp QP) 5 true own ⟨[],[(4,H.A6),(1,H.A6)],ws⟩ H2'.log=true:=fun own ws=>A0S fun b hb=>⟨rfl,fun p hp e=>by
      have hb':=(fL.ls b hb).elim (fun h=>by cases h) id;simp only[m8,Lg,or_false] at hp;rcases hp with rfl|rfl
      ·omega
      omega⟩
     have hlg:∀o:Option N2,((B8 H2 H2.A6 []).put sb o).log=[sb]:=fun o=>AAS (n:=H2.A6) (by omega);have hal2:∀own ws,allowed (comp QP) 7 true own ⟨[(H1.A6,5)],[(4,H.A6),(1,H.A6)],ws⟩ [sb]=true:=fun own ws=>A0S fun b hb=>by
      rw[LZ.1 hb];refine⟨A8i (by omega),fun p hp e=>?_⟩;simp only[m8,Lg,or_false] at hp;rcases hp with rfl|rfl
      ·omega
      omega
     have hb2':below H2.base [sb] H2.log=H2.log:=Er fun y hy=>by simp_all
     unfold NG;simp(disch:=first|omega|(simp only[C6]<;>omega)|assumption) only[B0,reduceCtorEq,Nat.reduceAdd,Vh,hal,t0,t5,t6,t7,brow,gl,hH1,d1,e3,hbel,hH2,c22];refine .go ⟨by simp[D0,T.A9,t0,t5,t6],by rw[K0,g7];rfl,w2.put (by omega) _,?_,v2,?_,?_,k3,fun c hb=>bk c (k4 c hb)⟩
     ·exact((fH.trans f1 fun k hk h=>h.elim).trans f2 fun k hk h=>.inl h).O6 _ (fun _=>.inr rfl) (by omega)
     ·rw[E9 (fun e=>hd e.symm),←hH2];exact k1
     · rw[g6] at k2;have k2':Sl 1 H2 v2 (30-XB (i+1)) (M4 (T5.drop (XB (i+1)))):=by rw[←hH2];exact k2
       exact k2'.K7 fun c _ hb=>E9 fun e=>(hn1 c (bk c (k4 c hb))).2 e.symm
   ·obtain⟨⟨t0,t5,t6,t7,-⟩,c2,wH,fH,-⟩:=hI;unfold NG;simp(disch:=omega) only[B0,t6,t7];exact .ex ⟨rfl,rfl,c2,wH,fH⟩
abbrev A72(A7:Call):Prop:=JState1R (A7 332)
abbrev AVD:A0:=.int .i64 (.negSucc 0)
def AT0:List Nat:=[0,255,0,255,0,255,1,254]
abbrev JGen1R(g:List A0→Hp→N3):Prop:=∀h db nb v,Wf h→h.at db=some (B6 [v] 1 504 true)→h.at nb=some (B6 [AVD] 1 3 true)→Sl 1 h v 8 (M4 AT0)→MB v→(∀c,Ch v c→c≠db)→db≠nb→h.base≤db→h.base≤nb→C0 (g [C2 db 0,C2 nb 0] h) (fun r H=>r=.tuple ⟨[]⟩∧H.at nb=some (B6 [iN 1] 1 3 true)∧Wf H∧Fr (fun c=>c=db∨c=nb) h H)
theorem AHN(hT:AD9 A7):JGen1R (G8 mc A7 cd):=by
 intro h db nb v hw b1 b2 hs hc hn1 hd hb1 hb2;have hnb:=hw.lt b2;obtain⟨r,H,e1,rfl,v2,k1,k2,k3,k4,k5,fL⟩:=(hT h db 4 1 v [] b1 hw hs hc hn1 (by omega) (by omega) (by omega)).get;have f:=fL.lower fun x _ hx=>by omega
 have c2:H.at nb=some (B6 [AVD] 1 3 true):=by rw[f.M5 _ hnb (fun e=>hd e.symm)];exact b2
 have nx:=f.A6;have bx:=f.base;refine B5 rfl ?_;simp(disch:=first|omega|(simp only[C6]<;>omega)) only[B0,e1,c2];refine⟨.inl rfl,rfl,?_⟩;simp only[B0];exact⟨rfl,k5.put (by omega) _,(f.mono fun k _ h=>.inl h).O6 _ (fun _=>.inr rfl) (by omega)⟩
abbrev AKY(A7:Call):Prop:=JGen1R (A7 329)
abbrev JGen1PR(g:List A0→Hp→N3):Prop:=∀h db n v nv rest,Wf h→h.at db=some (B6 [v] 1 504 true)→Sl 1 h v n (M4 (255::255::rest))→cg (g [C2 db 0,nv] h) (fun c H=>c=[gV]∧H=h)
theorem ADw(hT:AF4 A7):JGen1PR (G8 mc A7 cd):=by intro h db n v nv rest hw b1 hs;obtain⟨c,H,e1,rfl,rfl⟩:=(hT h db 4 n v rest b1 hw hs (by omega) (by omega)).get;refine gn rfl ?_;simp only[B0,Nat.reduceAdd,e1];exact⟨rfl,_,rfl,rfl,rfl⟩
abbrev AF0(A7:Call):Prop:=JGen1PR (A7 329)
abbrev JDecStR(g:List A0→Hp→N3):Prop:=∀h sb v,Wf h→Sl 1 h v 30 (M4 T5)→MB v→(∀c,Ch v c→c≠sb)→h.at sb=some (B6 YR 9 52 true)→h.base≤sb→C0 (g [v,Vk 332 [C2 sb 0]] h) (fun r H=>r=.bool true∧H.at sb=some (B6 BT 9 52 true)∧Wf H∧Fr (fun c=>c=sb) h H)
theorem ADx(hcd:AIw cd)(hJ:A72 A7):JDecStR (G8 Gx A7 cd):=by
 intro h sb v hw hs hc hn b2 hb2;have hwb:=hw.base;have ls:=hw.lt b2;obtain⟨K,hK,wK,fK,nK,a1,a2⟩:=U7 hw (B6 [.bool false] 1 4 true) (B6 [v] 1 504 true);have bK:=fK.base;have b3:K.at sb=some (B6 YR 9 52 true):=by rw[fK.e _ ls];exact b2
 obtain⟨r,G,e2,rfl,g1,wG,fG⟩:=(hJ K (h.A6+1) sb v wK a2 b3 (hs.fr hw fK) hc (fun c hb=>⟨by have:=hs.lt hw (by omega) hb;omega,hn c hb⟩) (by omega) (by omega) (by omega)).get;have g0:G.at h.A6=some (B6 [.bool false] 1 4 true):=by rw[fG.M5 _ (by omega) (by omega)];exact a1
 have nG:=fG.A6;have bG:=fG.base;rw[←hK] at e2;refine(mq hcd hs.cell e2 g0).mono ?_;rintro r H ⟨rfl,rfl⟩;exact⟨rfl,by rw[E9 (by omega)];exact g1,wG.put (by omega) _,(((fK.mono fun _ _ h=>h.elim).trans fG fun k hk e=>by omega).O6 _ (fun hk=>by omega) (by omega))⟩
abbrev AEp(A7:Call):Prop:=JDecStR (A7 328)
abbrev JDecGR(g:List A0→Hp→N3):Prop:=∀h nb v,Wf h→Sl 1 h v 8 (M4 AT0)→MB v→h.at nb=some (B6 [AVD] 1 3 true)→h.base≤nb→C0 (g [v,Vk 329 [C2 nb 0]] h) (fun r H=>r=.bool true∧H.at nb=some (B6 [iN 1] 1 3 true)∧Wf H∧Fr (fun c=>c=nb) h H)
theorem AHa(hcd:AIw cd)(hJ:AKY A7):JDecGR (G8 Gx A7 cd):=by
 intro h nb v hw hs hc b2 hb2;have hwb:=hw.base;have ls:=hw.lt b2;obtain⟨K,hK,wK,fK,nK,a1,a2⟩:=U7 hw (B6 [.bool false] 1 4 true) (B6 [v] 1 504 true);have bK:=fK.base;have b3:K.at nb=some (B6 [AVD] 1 3 true):=by rw[fK.e _ ls];exact b2
 obtain⟨r,G,e2,rfl,g1,wG,fG⟩:=(hJ K (h.A6+1) nb v wK a2 b3 (hs.fr hw fK) hc (fun c hb=>by have:=hs.lt hw (by omega) hb;omega) (by omega) (by omega) (by omega)).get;have g0:G.at h.A6=some (B6 [.bool false] 1 4 true):=by rw[fG.M5 _ (by omega) (by omega)];exact a1
 have nG:=fG.A6;have bG:=fG.base;rw[←hK] at e2;refine(mq hcd hs.cell e2 g0).mono ?_;rintro r H ⟨rfl,rfl⟩;exact⟨rfl,by rw[E9 (by omega)];exact g1,wG.put (by omega) _,(((fK.mono fun _ _ h=>h.elim).trans fG fun k hk e=>by omega).O6 _ (fun hk=>by omega) (by omega))⟩
abbrev ANg(A7:Call):Prop:=JDecGR (A7 328)
abbrev JDecNR(g:List A0→Hp→N3):Prop:=∀h n v nv rest,Wf h→Sl 1 h v n (M4 (255::255::rest))→C0 (g [v,Vk 329 [nv]] h) (fun r H=>r=.bool false∧Wf H∧Fr N5 h H)
theorem AIa(hcd:AIw cd)(hJ:AF0 A7):JDecNR (G8 Gx A7 cd):=by intro h n v nv rest hw hs;have hwb:=hw.base;obtain⟨K,hK,wK,fK,nK,a1,a2⟩:=U7 hw (B6 [.bool false] 1 4 true) (B6 [v] 1 504 true);have bK:=fK.base;obtain⟨c,G,e2,rfl,rfl⟩:=(hJ K (h.A6+1) n v nv rest wK a2 (hs.fr hw fK)).get;rw[←hK] at e2;refine(ADm hcd hs.cell (e2.trans (by rw[hK])) wK (by omega) a1).mono ?_;rintro r H ⟨rfl,wH,fH⟩;exact⟨rfl,wH,fK.trans fH fun k hk e=>by omega⟩
abbrev AJ7(A7:Call):Prop:=JDecNR (A7 328)
theorem AAE(hD:AEp A7){v:A0}(hw:Wf h)(hs:Sl 1 h v 30 (M4 T5))(hc:MB v):C0 (G8 yP A7 cd [v] h) (QR (.tuple ⟨[.agg ⟨BT⟩,.bool true]⟩) h):=by have hwb:=hw.base;obtain⟨J,hJ,wJ,fJ,nJ,a1⟩:=J7 hw (B6 YR 9 52 true);have bJ:=fJ.base;obtain⟨r,H,e1,rfl,c1,wH,fH⟩:=(hD J h.A6 v wJ (hs.fr hw fJ) hc (fun c hb=>by have:=hs.lt hw (by omega) hb;omega) a1 (by omega)).get;have bH:=fH.base;have cv:=hs.cell;have st9:BT.length=9:=rfl;unfold Vk at e1;unfold YR at hJ;refine B5 rfl ?_;simp(disch:=omega) only[B0,reduceCtorEq,hJ,e1,c1];refine .ret ?_;simp(disch:=omega) only[B0,reduceCtorEq];exact .put (by rw[fH.log,fJ.log]) (by omega)
abbrev A1K(A7:Call):Prop:=∀H v,Wf H→Sl 1 H v 30 (M4 T5)→MB v→A7 278 [v] H=.val (.tuple ⟨[.agg ⟨BT⟩,.bool true]⟩) H
theorem ALV{v:A0}(hs:Sl 1 H v xs.length (M4 xs))(hb:∀x∈xs,x<256)(k:A0→N7):ANB H (AJF v (bN 255)) k=k (iN (GQ 255 (Tr xs) 0)):=by
 obtain⟨hl,⟨h0,h1⟩|⟨b,o,c,rfl,h0,hh⟩⟩:=hs
 ·have:=IU h0;subst this;rcases h1 with rfl|⟨b,o,c,rfl⟩<;>rfl
 · have e:AJF (F8 b o xs.length c) (bN 255)=(bif Nat.beq xs.length 0 then A3k (AD .i64 (GQ 255 [] 0)) else .read b fun ob=>R5 (CV ob o xs.length) (fun cs=>R5 (bytesOf cs) (fun l=>AD .i64 (GQ 255 l 0)) none) none):=rfl;obtain⟨cc,m,e',cl,ro,hat,hm,hc⟩:=hh;rw[O4] at hm hc;have hld:V6 cc o xs.length []=some (M4 xs):=by
    have:=FO fun k hk=>hc k (by rw[O4] at hk;exact hk);rwa[O4] at this
   have hcb:CV (.row cc m e' cl ro) o xs.length=some (M4 xs):=by show(bif Nat.ble (o+xs.length) m then V6 cc o xs.length [] else none)=_;rw[W8 hm,cond_true,hld]
   rw[e,U4 (by omega),cond_false,AJe,hat,FL,hcb,FL,qm hb,FL,Aa];rfl
theorem ASv(x c:OD)(lo:List A0)(tm:T A0):A7k x c lo tm=AJF (G4 x lo tm) (G4 c lo tm):=rfl
abbrev A1N(A7:Call):Prop:=∀H v w xs,Sl 1 H v xs.length (M4 xs)→(∀x∈xs,x<256)→Sl 1 H w 1 (M4 [255])→A7 331 [v,w] H=.val (iN (GQ 255 (Tr xs) 0)) H
theorem AAw{v:A0}(hs:Sl 1 h v xs.length (M4 xs))(hb:∀x∈xs,x<256)(hw2:Sl 1 h w 1 (M4 [255])):C0 (G8 yu A7 cd [v,w] h) (VI (iN (GQ 255 (Tr xs) 0)) h):=by have wl:=hw2.len;have wA:=hw2.A (by omega);have g0:(M4 [255])[0]?=some (bN 255):=rfl;have c1:=fun k=>ALV hs hb k;have zc:=@ASv;refine B5 rfl ?_;simp(disch:=omega) only[B0,reduceCtorEq,wA,g0,zc,c1];refine .ret ?_;simp only[B0];exact⟨rfl,rfl⟩
def AG9:List Nat:=List.replicate 30 255
abbrev AEF(A7:Call):Prop:=∀H v,Wf H→(Sl 1 H v 30 (M4 T5)→A7 277 [v] H=.val (.bool false) H)∧(Sl 1 H v 30 (M4 AG9)→A7 277 [v] H=.val (.bool true) H)
theorem nh(hC:A1N A7){v:A0}{b:Bool}(hw:Wf h)(hl:xs.length=30)(hs:Sl 1 h v 30 (M4 xs))(hb:∀x∈xs,x<256)(hc:Nat.beq (GQ 255 (Tr xs) 0) 30=b):C0 (G8 yO A7 cd [v] h) (QR (.bool b) h):=by
 obtain⟨J,hJ,wJ,fJ,nJ,a1⟩:=J7 hw (B6 [bN 255] 1 5 true);have h1:Sl 1 J (F8 h.A6 0 1 1) 1 (M4 [255]):=⟨rfl,.inr ⟨_,_,_,rfl,by omega,O3 a1 (by simp[M4])⟩⟩
 have hsJ:=hs.fr hw fJ;rw[←hl] at hsJ;have e1:=hC J v _ xs hsJ hb h1;have sl:=hs.len;refine B5 rfl ?_;simp(disch:=first|omega|exact⟨rfl,rfl,rfl⟩|assumption) only[B0,reduceCtorEq,hJ,e1,sl,hc];refine .ret ?_;simp only[B0];exact⟨rfl,fJ.log⟩
theorem DT.row(hf:DT h f dv wv ev)(hok:f.Ok)(hs:s<f.data.length):∃ds w,Sl 1 h dv f.data.length ds∧ds[s]?=some w∧Sl 1 h w f.size (M4 (f.M5 s))∧MB w∧(f.M5 s).length=f.size:=by
 obtain⟨ds,h1,h2,h3⟩:=hf.data;have hr:f.data[s]?=some (f.M5 s):=by unfold FM.M5;rw[lj,X0 hs];rfl
 obtain⟨w,h4,h5⟩:=h3 s _ hr;have hl:=(hok.row _ (s6 hr)).1;rw[hl] at h5;exact⟨ds,w,h2,h4,h5,(hf.t4 ds h2 w (s6 h4)).2,hl⟩
theorem ANd(hG:ANg A7)(hN:AJ7 A7)(hw:Wf h)(hf:DT h f dv wv ev)(hok:f.Ok)(h38:38≤f.size)(hs:s<f.data.length){z:Int}(hj:(f.M5 s=Q5 f.size∧z=.ofNat 1)∨(f.M5 s=List.replicate f.size 255∧z=.negSucc 0)):C0 (G8 AF3 A7 cd [.agg ⟨N9 f dv wv ev⟩,iN s] h) (QR (.int .i64 z) h):=by
 have hwb:=hw.base;have q:=hok.n1;have cwv:=hf.I0.cell;have cev:=hf.dead.cell;obtain⟨I,hI,wI,fI,nI,c1⟩:=J7 hw (B6 (N9 f dv wv ev) 5 39 true);obtain⟨I2,hI2,w2,f2,n2,c2⟩:=O5 wI [i0] [AVD] 1 3;have bI:=fI.base;have b2:=f2.base;have fh:=fI.trans f2 fun _ _ h=>h;obtain⟨ds,w,sd,gd,sw,ck,hl⟩:=(hf.fr hw fh).row hok hs;have dA:=sd.A (by omega);obtain⟨w1,s1,sw1,ck1,bk1⟩:=YZ sw ck (k:=8) (by omega) (by omega);have cw:=sw.cell;have cdv:=sd.cell;have c12:I2.at h.A6=some (B6 (N9 f dv wv ev) 5 39 true):=by rw[f2.e _ (by omega)];exact c1
 unfold N9 at hI c12;rw[nI] at hI2 c2;rcases hj with⟨he,rfl⟩|⟨he,rfl⟩
 · rw[he] at sw1;have e8:(M4 (Q5 f.size)).take 8=M4 AT0:=by rw[VP];rfl
   rw[e8] at sw1;obtain⟨r,H,e1,rfl,g1,wH,fH⟩:=(hG I2 (h.A6+1) w1 w2 sw1 ck1 c2 (by omega)).get;unfold Vk at e1;refine B5 rfl ?_;unfold N9;simp(disch:=first|omega|(simp only[C6]<;>omega)) only[B0,reduceCtorEq,Vh,hI,hI2,c12,dA,gd,s1,e1,g1,nI];refine .ret ?_;simp only[B0];exact⟨rfl,by rw[fH.log,fh.log]⟩
 · rw[he] at sw1;obtain⟨d,hd⟩:∃d,f.size=d+8:=⟨f.size-8,by omega⟩
   have e8:(M4 (List.replicate f.size 255)).take 8=M4 (255::255::[255,255,255,255,255,255]):=by rw[VP,ABp,hd,show min 8 (d+8)=8 by omega];rfl
   rw[e8] at sw1;obtain⟨r,H,e1,rfl,wH,fH⟩:=(hN I2 8 w1 (C2 (h.A6+1) 0) _ w2 sw1).get;unfold Vk at e1;refine B5 rfl ?_;unfold N9;simp(disch:=first|omega|(simp only[C6]<;>omega)) only[B0,reduceCtorEq,Vh,hI,hI2,c12,dA,gd,s1,e1,nI];refine .ret ?_;simp only[B0];exact⟨rfl,by rw[fH.log,fh.log]⟩
abbrev ANw(A7:Call):Prop:=∀H f dv wv ev s z,Wf H→DT H f dv wv ev→f.Ok→38≤f.size→s<f.data.length→(f.M5 s=Q5 f.size∧z=.ofNat 1)∨(f.M5 s=List.replicate f.size 255∧z=.negSucc 0)→A7 276 [.agg ⟨N9 f dv wv ev⟩,iN s] H=.val (.int .i64 z) H
def A90:List A0:=[i0,i0,i0,i0,i0,i0,i0,i0,i0,i0,i0,i0,.bool false,i0,i0,i0]
def ug(n p i:Nat):List A0:=if i=0 then[iN n,iN (n+1),iN 1,i0,i0,i0,i0,i0,i0,i0,i0,i0,.bool false,i0,iN p,i0] else[iN n,iN (n+1),iN 1,i0,i0,i0,i0,i0,i0,i0,iN 4,iN 4,.bool true,iN 1,iN p,i0]
structure JQ(h:Hp)(f:FM)(dv wv ev sv uv tv:A0)(n a b c:Nat):Prop where
 wf:Wf h
 fl:DT h f dv wv ev
 ok:f.Ok
 A4e:38≤f.size
 ly:TW h n a b c sv uv tv
 hn:n+1<f.data.length
 j1:f.M5 n=Q5 f.size
 j2:f.M5 (n+1)=List.replicate f.size 255
theorem JQ.fr{h H:Hp}{f:FM}{dv wv ev sv uv tv:A0}{n a b c:Nat}(q:JQ h f dv wv ev sv uv tv n a b c)(hw:Wf H)(fr:Fr N5 h H):JQ H f dv wv ev sv uv tv n a b c:=⟨hw,q.fl.fr q.wf fr,q.ok,q.A4e,q.ly.fr q.wf fr,q.hn,q.j1,q.j2⟩
theorem AGK(h:8+30*i+30≤s):((Q5 s).drop (8+30*i)).take 30=if i=0 then T5 else AG9:=by
 by_cases h0:i=0
 ·subst h0;rfl
 · rw[if_neg h0];have:(Q5 s).drop (8+30*i)=(List.replicate (s-38) 255).drop (30*i-30):=by
    unfold Q5;rw[List.drop_append,List.drop_eq_nil_of_le (by simp[T5];omega),BS];congr 1;simp[T5];omega
   rw[this,List.drop_replicate,ABp,show min 30 (s-38-(30*i-30))=30 by omega];rfl
theorem AHx(hF:A2r A7)(hG:ANw A7)(hB:AEF A7)(hS:A1K A7){n a b:Nat}(q:JQ h f dv wv ev sv uv tv n a b c):C0 (G8 A96 A7 cd [.agg ⟨N9 f dv wv ev⟩,.agg ⟨AX n sv uv tv⟩] h) (QR (.tuple ⟨[.agg ⟨ug n ((f.size-8)/30) 1⟩,.bool true]⟩) h):=by
 have hw:=q.wf;have hwb:=hw.base;have n1:=q.ok.n1;have s1:=q.ok.AUZ;have A4e:=q.A4e;have hn:=q.hn;obtain⟨p,hp⟩:∃p,(f.size-8)/30=p:=⟨_,rfl⟩
 have hp1:1≤p:=by rw[←hp];omega
 have hp2:30*p+8≤f.size:=by rw[←hp];omega
 obtain⟨J,hJ,wJ,fJ,nJ,a1,a2,a3⟩:=PB hw (B6 (N9 f dv wv ev) 5 39 true) (B6 (AX n sv uv tv) 8 42 true) (B6 A90 16 313 true);have bJ:=fJ.base;have qJ:=q.fr wJ fJ;have e1:=hF J f dv wv ev sv uv tv n a b c wJ qJ.fl qJ.ok A4e qJ.ly hn;obtain⟨K,hK,wK,fK,nK,a4⟩:=O5 wJ A90 [iN n,iN (n+1),i0,i0,i0,i0,i0,i0,i0,i0,i0,i0,.bool false,i0,iN p,i0] 16 313;have fhK:=fJ.trans fK fun _ _ h=>h;have bK:=fK.base;have qK:=q.fr wK fhK;have e2:=hG K f dv wv ev n (.ofNat 1) wK qK.fl qK.ok A4e (by omega) (.inl ⟨q.j1,rfl⟩);obtain⟨K1,hK1⟩:∃K1,K.put J.A6 (some (.row (C7 [iN n,iN (n+1),iN 1,i0,i0,i0,i0,i0,i0,i0,i0,i0,.bool false,i0,iN p,i0] 0 .nil fun t=>t) 16 313 true false))=K1:=⟨_,rfl⟩
 have kK1:Ky h K1 (J.A6+1):=by rw[←hK1];exact(Ky.mk wK fhK nK).put (by omega) (by omega) hw _
 have qK1:=q.fr kK1.wf kK1.fr;have e3:=hG K1 f dv wv ev (n+1) (.negSucc 0) kK1.wf qK1.fl qK1.ok A4e hn (.inr ⟨q.j2,rfl⟩);have b1:K.at h.A6=some (B6 (N9 f dv wv ev) 5 39 true):=by rw[fK.e _ (by omega)];exact a1
 have b2:K.at (h.A6+1)=some (B6 (AX n sv uv tv) 8 42 true):=by rw[fK.e _ (by omega)];exact a2
 have c1:K1.at h.A6=some (B6 (N9 f dv wv ev) 5 39 true):=by rw[←hK1,E9 (by omega)];exact b1
 have c3:K1.at (h.A6+1+1)=some (B6 A90 16 313 true):=by rw[←hK1,E9 (by omega),fK.e _ (by omega)];exact a3
 have c4:K1.at J.A6=some (B6 (ug n p 0) 16 313 true):=by rw[←hK1,K0];rfl
 have c4':K1.at J.A6=some (B6 [iN n,iN (n+1),iN 1,i0,i0,i0,i0,i0,i0,i0,i0,i0,.bool false,i0,iN p,i0] 16 313 true):=c4;have g1:PG (.ofNat 1) (.negSucc 0)=false:=rfl;have nK1:=kK1.nx;rw[hp];have cdv:Cell dv:=by obtain⟨ds,w,sd,_⟩:=q.fl.row q.ok (show n<f.data.length by omega);exact sd.cell
 have cwv:=q.fl.I0.cell;have cev:=q.fl.dead.cell;have csv:=q.ly.st.cell;have cuv:=q.ly.un.cell;have ctv:=q.ly.ta.cell;have hz:Tv 12 (Value.int IntKind.i64 (Int.ofNat 0))++[Value.bool false,i0,i0,i0]=[i0,i0,i0,i0,i0,i0,i0,i0,i0,i0,i0,i0,.bool false,i0,i0,i0]:=rfl;unfold N9 AX A90 at *;refine B5 rfl ?_;simp(disch:=first|omega|(simp only[C6]<;>omega)|exact⟨rfl,rfl,rfl⟩|assumption) only[↓CG,B0,reduceCtorEq,Nat.reduceAdd,Nat.reduceMul,Nat.reduceSub,hz,hJ,e1,a1,a2,hK,a4,b1,b2,e2,hp,hK1,c1,c4',e3,g1];refine D9.lp (P:=fun tm df H=>df=[]∧D0 tm [(V1,C2 (h.A6+1+1) 0),(Q8,C2 J.A6 0)]∧∃m,Ky h H m∧J.A6<m∧H.at (h.A6+1+1)=some (B6 A90 16 313 true)∧H.at J.A6=some (B6 (ug n p 1) 16 313 true)) ?_ ?_
 · refine K6 (n:=p) (by omega) (fun i tm H=>D0 tm [(T1,C2 h.A6 0),(V1,C2 (h.A6+1+1) 0),(Q8,C2 J.A6 0),([false,false,false,true,false],iN p),([true,true,true,false,false],iN i)]∧∃m,Ky h H m∧J.A6<m∧H.at h.A6=some (B6 [iN f.size,dv,wv,iN f.K4,ev] 5 39 true)∧H.at (h.A6+1+1)=some (B6 A90 16 313 true)∧H.at J.A6=some (B6 (ug n p i) 16 313 true)) ⟨by simp[D0,T.A9],_,kK1,by omega,c1,c3,c4⟩ (fun i tm H hi hI=>?_) (fun tm H hI=>?_)
   · obtain⟨⟨t2,t4,t6,t54,t55,-⟩,m,kH,hm,d1,d2,d3⟩:=hI;have qH:=q.fr kH.wf kH.fr;have nH:=kH.nx;obtain⟨ds,w,sd0,gd,sw0,ck,hl⟩:=q.fl.row q.ok (show n<f.data.length by omega);have hbk:∀c,Ch w c→c<h.A6:=fun c hc=>sw0.lt hw (by omega) hc;have sd:=sd0.fr hw kH.fr;have sw:=sw0.fr hw kH.fr;have dA:=sd.A (by omega);have h2:30*(i+1)≤30*p:=A2I _ hi;obtain⟨w1,r1,sw1,ck1,bk1⟩:=lU sw ck (k:=8+30*i) (by omega) (by omega);obtain⟨w2,r2,sw2,ck2,bk2⟩:=YZ sw1 ck1 (k:=30) (by omega) (by omega);have r1':A8y w (iN (8+30*i))=some w2∨A8y w (iN (8+30*i))=some w1:=.inr r1;have r1'':A8y w (iN (8+30*i))=some w1:=r1;rw[q.j1,A0A,VP,AGK (by omega)] at sw2;have cw2:=sw2.cell;rcases Br i with h0|h0
     · subst h0;rw[if_pos rfl] at sw2;have e4:=(hB H w2 kH.wf).1 sw2;have d3':H.at J.A6=some (B6 [iN n,iN (n+1),iN 1,i0,i0,i0,i0,i0,i0,i0,i0,i0,.bool false,i0,iN p,i0] 16 313 true):=d3;obtain⟨H1,hH1⟩:∃H1,H.put J.A6 (some (.row (C7 [iN n,iN (n+1),iN 1,i0,i0,i0,i0,i0,i0,i0,i0,i0,.bool false,iN 1,iN p,i0] 0 .nil fun t=>t) 16 313 true false))=H1:=⟨_,rfl⟩
       have k1:Ky h H1 m:=by rw[←hH1];exact kH.put (by omega) hm hw _
       have sw3:Sl 1 H1 w2 30 (M4 T5):=by refine sw2.K7 fun c _ hc=>?_;rw[←hH1];refine E9 fun e=>?_;have:=hbk c (bk1 c (bk2 c hc));omega
       have e5:=hS H1 w2 k1.wf sw3 ck2;obtain⟨H2,hH2,kH2,f3,f2⟩:=k1.O5 YR BT 9 52;have d4:H1.at J.A6=some (B6 [iN n,iN (n+1),iN 1,i0,i0,i0,i0,i0,i0,i0,i0,i0,.bool false,iN 1,iN p,i0] 16 313 true):=by rw[←hH1,K0];rfl
       have n1':=k1.nx;have d5:H2.at J.A6=some (B6 [iN n,iN (n+1),iN 1,i0,i0,i0,i0,i0,i0,i0,i0,i0,.bool false,iN 1,iN p,i0] 16 313 true):=by rw[f2.e _ (by omega)];exact d4
       unfold BT YR at *;unfold Ma;simp(disch:=first|omega|(simp only[C6]<;>omega)) only[↓CG,B0,reduceCtorEq,Nat.reduceAdd,Vh,t2,t6,t54,t55,d1,d3',dA,gd,r1'',r2,e4,hH1,e5,hH2,f3,d5];have d6:∀c o1 o2,c<J.A6→((H2.put J.A6 o1).put J.A6 o2).at c=H.at c:=fun c o1 o2 hc=>by rw[E9 (by omega),E9 (by omega),f2.e _ (by omega),←hH1,E9 (by omega)]
       exact .go ⟨by simp[D0,T.A9,t2,t4,t6,t54],m+1,(kH2.put (by omega) (by omega) hw _).put (by omega) (by omega) hw _,by omega,by rw[d6 _ _ _ (by omega)];exact d1,by rw[d6 _ _ _ (by omega)];exact d2,by rw[K0];rfl⟩
     · rw[if_neg (by omega)] at sw2;have e4:=(hB H w2 kH.wf).2 sw2;have d3':H.at J.A6=some (B6 [iN n,iN (n+1),iN 1,i0,i0,i0,i0,i0,i0,i0,iN 4,iN 4,.bool true,iN 1,iN p,i0] 16 313 true):=by
        unfold ug at d3;rw[if_neg (by omega)] at d3;exact d3
       unfold Ma;simp(disch:=first|omega|(simp only[C6]<;>omega)) only[B0,reduceCtorEq,Nat.reduceAdd,Vh,t2,t6,t54,t55,d1,d3',dA,gd,r1'',r2,e4];refine .go ⟨by simp[D0,T.A9,t2,t4,t6,t54],m,kH,hm,d1,d2,?_⟩;trivial
   · obtain⟨⟨t2,t4,t6,t54,t55,-⟩,m,kH,hm,d1,d2,d3⟩:=hI;have d3':H.at J.A6=some (B6 (ug n p 1) 16 313 true):=by
      unfold ug at d3 ⊢;grind
     unfold Ma;simp(disch:=omega) only[B0,t54,t55];exact .ex ⟨rfl,rfl,by simp[D0,T.A9,t4,t6],m,kH,hm,d2,d3'⟩
 rintro tm df H ⟨rfl,⟨t4,t6,-⟩,m,kH,hm,d2,d3⟩;have nH:=kH.nx;have d3':H.at J.A6=some (B6 [iN n,iN (n+1),iN 1,i0,i0,i0,i0,i0,i0,i0,iN 4,iN 4,.bool true,iN 1,iN p,i0] 16 313 true):=d3;have d2':H.at (h.A6+1+1)=some (B6 [i0,i0,i0,i0,i0,i0,i0,i0,i0,i0,i0,i0,.bool false,i0,i0,i0] 16 313 true):=d2;have hbH:=kH.fr.base;have hbl:below H.base [h.A6+1+1] H.log=H.log:=Er fun y hy=>by grind
 simp(disch:=first|omega|(simp only[C6]<;>omega)|assumption) only[B0,t4,t6,d2',d3'];refine .ret ?_;simp(disch:=first|omega|(simp only[C6]<;>omega)) only[B0,t4];exact .put kH.fr.log (by omega)
abbrev ABi(A7:Call):Prop:=∀h f dv wv ev sv uv tv n a b c,JQ h f dv wv ev sv uv tv n a b c→A7 207 [.agg ⟨N9 f dv wv ev⟩,.agg ⟨AX n sv uv tv⟩] h=.val (.tuple ⟨[.agg ⟨ug n ((f.size-8)/30) 1⟩,.bool true]⟩) h
theorem APF:Tv 12 (Value.int IntKind.i64 (Int.ofNat 0))++[Value.bool false,i0,i0,i0]=[i0,i0,i0,i0,i0,i0,i0,i0,i0,i0,i0,i0,.bool false,i0,i0,i0]:=rfl
theorem AHA(hF:ABi A7){n a b:Nat}(q:JQ h f dv wv ev sv uv tv n a b c):C0 (G8 A9f A7 cd [.agg ⟨N9 f dv wv ev⟩,.agg ⟨AX n sv uv tv⟩] h) (QR (.tuple ⟨[.agg ⟨BT⟩,i0,i0]⟩) h):=by
 have hw:=q.wf;have hwb:=hw.base;obtain⟨p,hp⟩:∃p,(f.size-8)/30=p:=⟨_,rfl⟩
 obtain⟨J,hJ,wJ,fJ,nJ,a1,a2,a3⟩:=PB hw (B6 (N9 f dv wv ev) 5 39 true) (B6 (AX n sv uv tv) 8 42 true) (B6 YR 9 52 true);have bJ:=fJ.base;have e1:=hF J f dv wv ev sv uv tv n a b c (q.fr wJ fJ);rw[hp] at e1;obtain⟨K,hK,wK,fK,nK,a4⟩:=O5 wJ A90 (ug n p 1) 16 313;have bK:=fK.base;have b3:K.at (h.A6+1+1)=some (B6 YR 9 52 true):=by rw[fK.e _ (by omega)];exact a3
 have cdv:Cell dv:=by obtain⟨ds,w,sd,_⟩:=q.fl.row q.ok (show n<f.data.length by have:=q.hn;omega);exact sd.cell
 have cwv:=q.fl.I0.cell;have cev:=q.fl.dead.cell;have csv:=q.ly.st.cell;have cuv:=q.ly.un.cell;have ctv:=q.ly.ta.cell;have hbl:below K.base [h.A6+1+1] K.log=K.log:=Er fun y hy=>by rw[LZ.1 hy];omega
 rw[show ug n p 1=[iN n,iN (n+1),iN 1,i0,i0,i0,i0,i0,i0,i0,iN 4,iN 4,.bool true,iN 1,iN p,i0] from rfl] at e1 hK a4;unfold N9 AX A90 YR at *;refine B5 rfl ?_;simp(disch:=first|omega|(simp only[C6]<;>omega)|assumption) only[B0,reduceCtorEq,APF,hJ,e1,a1,a2,hK,a4,b3];refine .ret ?_;simp(disch:=first|omega|(simp only[C6]<;>omega)) only[B0,reduceCtorEq];exact .put (by rw[fK.log,fJ.log]) (by omega)
abbrev ADX(A7:Call):Prop:=∀h f dv wv ev sv uv tv n a b c,JQ h f dv wv ev sv uv tv n a b c→A7 115 [.agg ⟨N9 f dv wv ev⟩,.agg ⟨AX n sv uv tv⟩] h=.val (.tuple ⟨[.agg ⟨BT⟩,i0,i0]⟩) h
theorem JQ.sb{n a b:Nat}(q:JQ h f dv wv ev sv uv tv n a b c)(l:List Nat):JQ (B8 h h.A6 l) f dv wv ev sv uv tv n a b c:=⟨q.wf.sb l,q.fl.sb _ _,q.ok,q.A4e,⟨q.ly.st.sb _ _,q.ly.un.sb _ _,q.ly.ta.sb _ _⟩,q.hn,q.j1,q.j2⟩
structure AZe(dv wv ev sv uv tv:A0):Prop where
 c1:Cell dv
 c2:Cell wv
 c3:Cell ev
 c4:Cell sv
 c5:Cell uv
 c6:Cell tv
theorem JQ.ce{n a b:Nat}(q:JQ h f dv wv ev sv uv tv n a b c):AZe dv wv ev sv uv tv:=by refine⟨?_,q.fl.I0.cell,q.fl.dead.cell,q.ly.st.cell,q.ly.un.cell,q.ly.ta.cell⟩;obtain⟨ds,w,sd,_⟩:=q.fl.row q.ok (show n<f.data.length by have:=q.hn;omega);exact sd.cell
theorem AAa(hR:ADX A7)(hM:di A7){n a b bx:Nat}(q:JQ h f dv wv ev sv uv tv n a b c)(hat:h.at bx=some (B6 (Ci f n dv wv ev sv uv tv up) 36 107 true)):C0 (G8 yV A7 cd [C2 bx 0] h) (QR (.agg ⟨BT⟩) h):=by
 have hw:=q.wf;have hwb:=hw.base;have hbx:=hw.lt hat;obtain⟨J,hJ,wJ,fJ,nJ,a1⟩:=J7 hw (B6 YR 9 52 true);have bJ:=fJ.base;have qJ:=q.fr wJ fJ;have e1:=hR (B8 J J.A6 []) f dv wv ev sv uv tv n a b c (qJ.sb []);have bx1:J.at bx=some (B6 (Ci f n dv wv ev sv uv tv up) 36 107 true):=by rw[fJ.e _ hbx];exact hat
 obtain⟨K,hK,wK,fK,nK,a4⟩:=O5 wJ YR BT 9 52;have bK:=fK.base;have b3:K.at h.A6=some (B6 YR 9 52 true):=by rw[fK.e _ (by omega)];exact a1
 obtain⟨k1,k2,k3,k4,k5,k6⟩:=q.ce;rw[show Ci f n dv wv ev sv uv tv up=[iN f.size,dv,wv,iN f.K4,ev,iN n,iN n,iN (n+1),iN (n+2),iN (n+3),sv,uv,tv,i0,i0,i0,i0,.bool false,i0,i0,B7,B7,B7,B7,.bool false,.bool up,.bool false,i0,i0,i0,i0,i0,i0,i0,i0,i0] from rfl] at bx1;unfold N9 AX YR BT at *;refine B5 rfl ?_;simp(disch:=first|omega|(simp only[C6]<;>omega)|assumption) only[B0,reduceCtorEq,Nat.reduceAdd,Vh,hJ,e1,bx1,hK,A2B fK,hM,a4,b3];refine .ret ?_;simp(disch:=first|omega|(simp only[C6]<;>omega)) only[B0];exact .put (by rw[fK.log,fJ.log]) (by omega)
abbrev aG(A7:Call):Prop:=∀h f dv wv ev sv uv tv n a b c bx up,JQ h f dv wv ev sv uv tv n a b c→h.at bx=some (B6 (Ci f n dv wv ev sv uv tv up) 36 107 true)→A7 46 [C2 bx 0] h=.val (.agg ⟨BT⟩) h
theorem xZ{s:Nat}:∀ {rows:List (List Nat)},(∀r∈rows,r.length=s)→rows.flatten.length=rows.length*s
 | [],_=>by simp
 | r::rows,h=>by rw[ADI,Bz,h r Ct,xZ fun q hq=>h q (EM _ hq),Gn,Mm];omega
theorem AG3:∀rows:List (List Nat),(rows.map M4).flatten=M4 rows.flatten
 | []=>rfl
 | r::rows=>by rw[AEB,ADI,ADI,AG3 rows,Ih]
def SC(f:FM)(n:Nat):List Nat:=(f.data.take n).flatten
theorem ALE(hok:f.Ok){n:Nat}(hn:n≤f.data.length):(SC f n).length=n*f.size:=by unfold SC;rw[xZ (s:=f.size) fun r hr=>(hok.row r (ABr hr)).1,FB,A1v hn]
abbrev AaD(f:FM)(n:Nat)(h:Hp)(r:A0)(H:Hp):Prop:=Sl 1 H r (SC f n).length (M4 (SC f n))∧∀c,Ch r c→h.A6≤c
abbrev DImageR(g:List A0→Hp→N3):Prop:=∀h f dv wv ev sv uv tv n a b c bx up,JQ h f dv wv ev sv uv tv n a b c→h.at bx=some (B6 (Ci f n dv wv ev sv uv tv up) 36 107 true)→1≤n→n≤3→C0 (g [C2 bx 0] h) (fun r H=>AaD f n h r H∧Wf H∧Fr N5 h H)
abbrev AEI(A7:Call):Prop:=DImageR (A7 48)
theorem ADj(hC:VR 5 116 A7):DImageR (G8 yF A7 cd):=by
 intro h f dv wv ev sv uv tv n a b c bx up q hat h1 h3;have hw:=q.wf;have hwb:=hw.base;have hbx:=hw.lt hat;have hn:=q.hn;obtain⟨s0,s1,_,_,_,N1,_,_,hrw,_⟩:=id q.ok;obtain⟨ds,d1,d2,d3⟩:=q.fl.data;obtain⟨w,e1,sw,_,bw⟩:=YZ d2 q.fl.t5 (k:=n) (by omega) (by omega);have hl:=ALE q.ok (n:=n) (by omega);have hb1:1*f.size≤n*f.size:=BY _ h1;have hb2:n*f.size≤3*f.size:=BY _ h3;have hfl:((f.data.take n).map M4).flatten=M4 (SC f n):=AG3 _;have hfl2:((f.data.take n).map M4).flatten.length=(SC f n).length:=by rw[hfl,O4]
 have hln:(ds.take n).length=n:=by rw[FB,d1];omega
 have hrg:AEZ (B8 h h.A6 []) (ds.take n) ((f.data.take n).map M4):=by
  refine⟨by rw[xP,FB,FB,d1],fun i r hi=>?_⟩;rw[Rp] at hi;cases hx:(f.data.take n)[i]? with
  | none=>rw[hx] at hi;cases hi
  | some x =>
   rw[hx] at hi;cases hi;have hin:=(Fe.1 hx).1;rw[FB] at hin;rw[jU,if_pos (by omega)] at hx;obtain⟨u,g1,g2⟩:=d3 i x hx;exact⟨Kw x,u,by rw[jU,if_pos (by omega)];exact g1,by rw[O4];exact g2⟩
 have sw':Sl 1 (B8 h h.A6 []) w (ds.take n).length (ds.take n):=by rw[hln];exact sw
 obtain⟨v2,H2',H2,e2,l2,s2,n2,⟨rfl,o2⟩,w2,f2⟩:=drawn (P:=fun v H=>v=F8 h.A6 0 (SC f n).length (C4 1 (SC f n).length)∧u0 5 H h.A6 (M4 (SC f n))) hw (fun _ _ _ _ p=>p) ((hC (B8 h h.A6 []) w (ds.take n) _ (hw.sb []) sw' hrg (by omega) (by omega) (by rw[xP,FB];omega)).mono fun r H ⟨e,o,w,f⟩=>by rw[hfl2] at e;rw[hfl] at o;exact⟨⟨e,o⟩,w,f⟩)
 rw[show Ci f n dv wv ev sv uv tv up=[iN f.size,dv,wv,iN f.K4,ev,iN n,iN n,iN (n+1),iN (n+2),iN (n+3),sv,uv,tv,i0,i0,i0,i0,.bool false,i0,i0,B7,B7,B7,B7,.bool false,.bool up,.bool false,i0,i0,i0,i0,i0,i0,i0,i0,i0] from rfl] at hat;refine B5 rfl ?_;generalize hk:C4 1 (SC f n).length=k at *;simp(disch:=first|omega|(simp only[C6]<;>omega)) only[B0,reduceCtorEq,Vh,hat,e1,e2,l2,s2];refine .ret ?_;simp only[B0];exact⟨⟨Dw o2 (by rw[O4]) (by omega),fun c hc=>by rw[X3 hc];exact M8 _⟩,w2,f2⟩
theorem PI.sl{b n:Nat}{e:TypeId}{vs:List A0}(hr:PI H b n e vs)(h0:0<n):Sl 1 H (F8 b 0 n n) n vs:=by obtain⟨hl,c,hat,hc⟩:=hr;exact⟨by omega,.inr ⟨_,_,_,rfl,h0,c,n,e,true,false,hat,by omega,fun k hk=>by grind⟩⟩
def nU:A0:=.string (O2 [115,101,116,116,105,110,103,115,32,52])
def yl:A0:=.string (O2 [115,101,116,116,105,110,103,115,32])
def AEl(x:Pr):SH:=bl x.1++32::bl x.2
def AVT(l a b:SH)(f:Bool):Prop:=(∃x,l=JI (valueOf x)∧a=iO∧b=AEl (valueOf x)∧f=true)∨(∃x,l=AEl (valueOf x)∧a=bl (valueOf x).1∧b=bl (valueOf x).2∧f=true)∨(l=[]∧a=[]∧b=[]∧f=false)
abbrev AVa(A7:Call):Prop:=∀H l a b f,AVT l a b f→A7 216 [.string (O2 l),.string (O2 [32])] H=.val (.tuple ⟨[.string (O2 a),.string (O2 b),.bool f]⟩) H
abbrev ARL(A7:Call):Prop:=∀H,A7 214 [nU,yl] H=.val (.tuple ⟨[.string (O2 [52]),.bool true]⟩) H
abbrev ALo(A7:Call):Prop:=∀H,Wf H→A7 215 [.string (O2 [52])] H=.val (.tuple ⟨[iN 4,.nilIface]⟩) H
def ACs(k:Ix):List SH:=CK (N4 k)++[[]]
theorem Zj(k:Ix):(ACs k).length=k.length+2:=by simp[ACs,CK,O1]
theorem ASD{k:Ix}(hk:k.length≤3):AJA (ACs k):=by
 have hm:∀l∈ACs k,l.length≤10:=fun l hl=>by
  rcases Gt.1 hl with h|h
  · rcases m8.1 h with rfl|h
    ·decide
    ·obtain⟨x,hx,rfl⟩:=FY.1 h;exact fF (GF k x hx)
  grind
 refine⟨by simp[ACs],by rw[Zj];omega,fun l hl=>?_,fun i l hi hl=>?_,fun i=>?_⟩
 · rcases Gt.1 hl with h|h
   ·exact A9y (GF k) l h
   ·rw[LZ.1 h];intro x hx;cases hx
 · rw[Zj] at hi;have hl2:l∈CK (N4 k):=by
    have h3:(CK (N4 k)).length=k.length+1:=by simp[CK,O1]
    unfold ACs at hl;grind
   rcases m8.1 hl2 with rfl|h
   ·decide
   ·obtain⟨x,hx,rfl⟩:=FY.1 h;simp[JI]
 · have h1:=zP (ls:=(ACs k).drop i) fun l hl=>hm l (A40 hl);have h2:((ACs k).drop i).length≤5:=by rw[zV,Zj];omega
   omega
theorem APD{k:Ix}{x:Nat×Nat}(h:k[j]?=some x):(ACs k)[j+1]?=some (JI (valueOf x)):=by have hj:=(Fe.1 h).1;show(HN::(N4 k).map JI++[[]])[j+1]?=_;rw[EB,A11,OZ (by rw[xP,O1];exact hj),Rp,Fv h];rfl
theorem ANe(k:Ix):(ACs k)[k.length+1]?=some []:=by show(HN::(N4 k).map JI++[[]])[k.length+1]?=_;rw[EB,A11,Gj (by rw[xP,O1];exact M8 _),xP,O1,Wj];rfl
theorem AXb:PH iO [118,97,108]=true:=rfl
theorem Rf:PH [] [118,97,108]=false:=rfl
theorem AFK:PH [] [107,101,112,116,32,45]=false:=rfl
theorem Aa1:PH [] [107,101,112,116]=false:=rfl
def AWs:=And.intro AXb<|And.intro Rf<|And.intro AFK Aa1
abbrev SParseR(g:List A0→Hp→N3):Prop:=∀h k,Wf h→GM k→k.length≤3→C0 (g [.string (O2 (O9 (N4 k)))] h) (fun r H=>∃v,r=.tuple ⟨[.agg ⟨[iN 4,v,B7]⟩,i0]⟩∧Ng H v (N4 k)∧(∀c,0<k.length→Ch v c→h.A6≤c)∧Wf H∧Fr N5 h H)
theorem AAL(hS:A70 A7)(hX:ARL A7)(hA:ALo A7)(hC:AVa A7)(hP:ku A7):SParseR (G8 xd A7 cd):=by
 intro h k hw ho hk;obtain⟨J,hJ,wJ,fJ,nJ,a1,a2⟩:=U7 hw (B6 [i0,B7,B7] 3 57 true) (B6 [i0,B7,B7] 3 57 true);have hwb:=hw.base;obtain⟨r,S,e1,rfl,rowS,wS,fS⟩:=(hS J (ACs k) wJ (ASD hk)).get;have htx:BQ (ACs k)=O9 (N4 k):=(ADk (N4 k)).symm;rw[htx,Zj] at e1;rw[Zj] at rowS;have hne:PH (O9 (N4 k)) []=false:=by rfl
 have slS:=rowS.sl (by omega);have vS:=slS.A (by omega);have g0:((ACs k).map Rs)[0]?=some nU:=rfl;obtain⟨tv,s1,ACo,ck,bk⟩:=lU slS (.cl (M8 _) (by unfold R8;omega)) (k:=1) (by omega) (by omega);have s1':A8y (F8 J.A6 0 (k.length+2) (k.length+2)) (iN 1)=some tv:=s1;rw[show k.length+2-1=k.length+1 by omega] at ACo;have b2:S.at (h.A6+1)=some (B6 [i0,B7,B7] 3 57 true):=by rw[fS.e _ (by omega)];exact a2
 obtain⟨cS,hatS,hcS⟩:=rowS.get;have hc0:=hcS 0 _ g0;have e2:=hX S;have e3:=hA S wS;have tlen:=ACo.len;have ctv:=ACo.cell;unfold nU at hc0 e2;unfold yl at e2;refine B5 rfl ?_;simp(disch:=first|omega|(simp only[C6]<;>omega)|assumption) only[B0,reduceCtorEq,Nat.reduceAdd,Vh,hJ,e1,hatS,hc0,e2,e3,b2,s1',tlen];have bS:=fS.base;have bJ:=fJ.base;have nS:=fS.A6;have hJS:=wS.lt hatS;have hbk:=fun c hc=>X3 (bk c hc);refine D9.lp (P:=fun tm df H=>df=[]∧D0 tm [([],.string (O2 (O9 (N4 k)))),(T1,C2 h.A6 0),(V1,C2 (h.A6+1) 0)]∧∃v,Bd 187 2 S (fun c=>c=h.A6+1) H v k.length (YQ (N4 k))∧H.at (h.A6+1)=some (B6 [iN 4,v,B7] 3 57 true)) ?_ ?_
 · refine K6 (n:=k.length+1) (by omega) (fun i tm H=>D0 tm [([],.string (O2 (O9 (N4 k)))),(T1,C2 h.A6 0),(V1,C2 (h.A6+1) 0),([false,true,true,true,true],tv),([true,false,true,true,true],iN (k.length+1)),([false,false,true,true,true],iN i)]∧∃v,Bd 187 2 S (fun c=>c=h.A6+1) H v (k.take i).length (YQ (N4 (k.take i)))∧H.at (h.A6+1)=some (B6 [iN 4,v,B7] 3 57 true)) ?_ (fun i tm H hi hI=>?_) (fun tm H hI=>?_)
   ·refine⟨by simp[D0,T.A9,It],B7,?_,by rw[K0];rfl⟩;exact(Bd.nil (Q:=fun c=>c=h.A6+1) wS (Fr.refl _ _)).put wS rfl (by omega) (by omega) _
   · obtain⟨⟨t0,t2,t4,t32,t33,t34,-⟩,v,bd,b3⟩:=hI;have wH:=bd.wf;have fH:=bd.fr;have bH:=fH.base;have nH:=fH.A6;have slH:=ACo.K7 fun c _ hc=>by
      have:=hbk c hc;exact fH.M5 c (by omega) (by omega)
     have tA:=slH.A (by omega);have cv:=bd.cell;rcases DX i k.length with hik|hik
     · have hx:=X0 hik;have gl:(((ACs k).map Rs).drop 1)[i]?=some (.string (O2 (JI (valueOf k[i])))):=by
        rw[AEW,Rp,ik,APD hx];rfl
       have e4:=hC H _ _ _ _ (.inl ⟨k[i],rfl,rfl,rfl,rfl⟩);have e5:=hC H _ _ _ _ (.inr (.inl ⟨k[i],rfl,rfl,rfl,rfl⟩));have hle:(k.take i).length≤3:=by rw[FB];omega
       obtain⟨v',H',ea,bd',⟨kk,hv'⟩,nx,f'⟩:=(bd.step (wH.new _) (Fr.new (B6 [.string (O2 (bl (valueOf k[i]).1)),.string (O2 (bl (valueOf k[i]).2))] 2 187 true))).app wS (y:=F8 H.A6 0 1 1) ⟨rfl,.inr ⟨_,_,_,rfl,by omega,O3 Dm (by simp)⟩⟩ rfl (by omega) (by omega);have cv':=bd'.cell;have b3':H'.at (h.A6+1)=some (B6 [iN 4,v,B7] 3 57 true):=by rw[f'.M5 _ (by rw[Q6];omega) (fun hq=>by have:=bd.out.S6 hq.1 hq.2;omega),CN (by omega)];exact b3
       have hst:k.take (i+1)=k.take i++[k[i]]:=take_one hx;have hpr:YQ (N4 (k.take i))++[.string (O2 (bl (valueOf k[i]).1)),.string (O2 (bl (valueOf k[i]).2))]=YQ (N4 (k.take (i+1))):=by rw[hst];unfold N4;rw[A7y,ADo,lE];rfl
       rw[hpr,show(k.take i).length+1=(k.take (i+1)).length by simp;omega] at bd';unfold Jd;simp(disch:=first|omega|(simp only[C6]<;>omega)|exact⟨rfl,rfl,rfl⟩|assumption) only[↓CG,B0,reduceCtorEq,t4,t32,t33,t34,tA,gl,e4,e5,AWs,b3,ea,b3'];exact .go ⟨by simp[D0,T.A9,t0,t2,t4,t32,t33],v',bd'.put wS rfl (by omega) (by omega) _,by rw[K0];rfl⟩
     · have hik2:i=k.length:=by omega
       subst hik2;have gl:(((ACs k).map Rs).drop 1)[k.length]?=some (.string (O2 [])):=by rw[AEW,Rp,ik,ANe];rfl
       have e4:=hC H [] [] [] false (.inr (.inr ⟨rfl,rfl,rfl,rfl⟩));unfold Jd;simp(disch:=omega) only[↓CG,B0,reduceCtorEq,t32,t33,t34,tA,gl,e4,AWs];refine .go ⟨by simp[D0,T.A9,t0,t2,t4,t32,t33],v,?_,b3⟩;rw[Rm] at bd;rw[TO (by omega)];exact bd
   ·obtain⟨⟨t0,t2,t4,t32,t33,t34,-⟩,v,bd,b3⟩:=hI;rw[TO (by omega)] at bd;unfold Jd;simp(disch:=omega) only[B0,t33,t34];exact .ex ⟨rfl,rfl,by simp[D0,T.A9,t0,t2,t4],v,bd,b3⟩
 rintro tm df H ⟨rfl,⟨t0,t2,t4,-⟩,v,bd,b3⟩;have wH:=bd.wf;have fH:=bd.fr;have bH:=fH.base;have nH:=fH.A6;have cv:=bd.cell;have hsl:Ng H v (N4 k):=by have:=bd.sl;rw[←O1 k] at this;exact this
 have b1:H.at h.A6=some (B6 [i0,B7,B7] 3 57 true):=by rw[fH.M5 _ (by omega) (by omega),fS.e _ (by omega)];exact a1
 have e6:=hP H v k wH hsl ho hk;have e7:PH (O9 (N4 k)) (O9 (N4 k))=true:=ba _;simp(disch:=first|omega|(simp only[C6]<;>omega)) only[B0,t0,t2,t4,b1,b3,hne,e6,e7];refine .ret ?_;simp(disch:=first|omega|(simp only[C6]<;>omega)) only[B0,t2];refine⟨v,rfl,hsl.K7 fun c h0 hc=>E9 fun e=>?_,fun c h0 hc=>by have:=bd.out.S6 h0 hc;omega,wH.put (by omega) _,(((fJ.trans fS fun _ _ h=>h).trans fH fun k hk e=>by omega).O6 _ (fun hk=>by omega) (by omega))⟩;have:=bd.out.S6 (by rw[←O1 k];exact h0) hc;omega
abbrev AEx(A7:Call):Prop:=SParseR (A7 118)
theorem zy:∀s:SH,Tr (Nn s)=s
 | []=>rfl
 | c::s=>by show UInt8.ofNat c.toNat::Tr (Nn s)=_;rw[zy s,UInt8.ofNat_toNat]
theorem xr{size:Nat}(h:l.length≤size):AJ l 0 size=l++List.replicate (size-l.length) 255:=by
 apply xw;intro i;unfold AJ;rw[Rp];by_cases hi:i<size
 · rw[A1o hi];show some (l.getD (0*size+i) 255)=_;rw[UM,Ag];by_cases e:i<l.length
   ·rw[OZ e,lj,X0 e];rfl
   ·rw[Gj (by omega),ZH,if_pos (by omega),lj,A7x (by omega)];rfl
 ·rw[A7x (by simp;omega),A7x (by rw[Bz,Ad];omega)];rfl
theorem A4r:∀ls:List SH,ls≠[]→∃X,ls.flatMap (·++[10])=X++[10]
 | [],h=>absurd rfl h
 | [a],_=>⟨a,by simp⟩
 | a::b::r,_=>by obtain⟨X,hX⟩:=A4r (b::r) (by simp);exact⟨a++[10]++X,by rw[tI,hX];simp⟩
theorem AVQ{k:Ix}(hk:k.length≤3):AKR (Nn (O9 (N4 k))):=by
 have h1:=HS (GF k) (by rw[O1];exact hk);have h2:5≤(O9 (N4 k)).length:=by simp[O9,CK,HN]
 refine⟨by rw[BI];exact h2,by rw[BI];omega,?_⟩;obtain⟨X,hX⟩:=A4r (CK (N4 k)) (by simp[CK]);have hX':O9 (N4 k)=X++[10]:=hX;rw[BI,hX'];unfold Nn;rw[Rp,Bz,Gj (by simp)];simp
theorem ATU(off:Nat)(x:OD)(lo:List A0)(tm:T A0):mV off x lo tm=Oh (G4 x lo tm) (JZ off) none:=rfl
def AWD:=@ATU
abbrev ALP(A7:Call):Prop:=∀h v tx m,Wf h→lM h→Sl 1 h v (tx.length+m) (M4 (tx++List.replicate m 255))→MB v→AKR tx→m≤4000→∃r,ASL h v tx r∧A7 117 [v,A2a] h=.val r h
structure SQ(h:Hp)(f:FM)(dv wv ev sv uv tv:A0)(n a b c:Nat)(k:Ix):Prop where
 jq:JQ h f dv wv ev sv uv tv n a b c
 gl:lM h
 hs:n+2<f.data.length
 st:f.M5 (n+2)=Y6 k f.size
 AXq:44≤f.size
 AZV:f.size≤3000
 ord:GM k
 k3:k.length≤3
abbrev DSettingsR(g:List A0→Hp→N3):Prop:=∀h f dv wv ev sv uv tv n a b c k bx up,SQ h f dv wv ev sv uv tv n a b c k→h.at bx=some (B6 (Ci f n dv wv ev sv uv tv up) 36 107 true)→C0 (g [C2 bx 0] h) (fun r H=>∃v,r=.agg ⟨[iN 4,v,B7]⟩∧Ng H v (N4 k)∧(∀c,0<k.length→Ch v c→h.A6≤c)∧Wf H∧Fr N5 h H)
abbrev mC(A7:Call):Prop:=DSettingsR (A7 49)
theorem xE(hD:aG A7)(hT:ALP A7)(hP:AEx A7)(hM:di A7):DSettingsR (G8 Yd A7 cd):=by
 intro h f dv wv ev sv uv tv n a b c k bx up q hat;obtain⟨jq,gl,hsn,st,AXq,AZV,ord,k3⟩:=q;have hw:=jq.wf;have hwb:=hw.base;have hbx:=hw.lt hat;have N1:=jq.ok.n1;obtain⟨J,hJ,wJ,fJ,nJ,a1⟩:=J7 hw (B6 [i0,B7,B7] 3 57 true);have bJ:=fJ.base;have jJ:=jq.fr wJ fJ;have bx1:J.at bx=some (B6 (Ci f n dv wv ev sv uv tv up) 36 107 true):=by rw[fJ.e _ hbx];exact hat
 have e1:=hD (B8 J J.A6 []) f dv wv ev sv uv tv n a b c bx up (jJ.sb []) bx1;have glJ:lM J:=by have:=hw.lt gl;show J.at 5=_;rw[fJ.e _ this];exact gl
 obtain⟨ds,w,sd,gd,sw,ck,hl⟩:=jJ.fl.row jq.ok hsn;have dA:=sd.A (by omega);have tl:=HS (GF k) (by rw[O1];exact k3);have nl:=BI (O9 (N4 k));rw[st] at sw;unfold Y6 at sw;rw[xr (by omega)] at sw;have sw':Sl 1 (B8 J J.A6 []) w ((Nn (O9 (N4 k))).length+(f.size-(Nn (O9 (N4 k))).length)) (M4 (Nn (O9 (N4 k))++List.replicate (f.size-(Nn (O9 (N4 k))).length) 255)):=by rw[show(Nn (O9 (N4 k))).length+(f.size-(Nn (O9 (N4 k))).length)=f.size by omega];exact sw
 obtain⟨r,⟨sr,cr,br⟩,e2⟩:=hT (B8 J J.A6 []) w _ _ (wJ.sb []) glJ sw' ck (AVQ k3) (by omega);have cre:=sr.cell;have e3:=fun K=>oX (H:=J) sr (HA _) K;rw[zy] at e3;obtain⟨r2,S,e4,v,rfl,sv2,fv,wS,fS⟩:=(hP J k wJ ord k3).get;obtain⟨K,hK,wK,fK,nK,a4⟩:=O5 wS [i0,B7,B7] [iN 4,v,B7] 3 57;have cv:=sv2.cell;have nS:=fS.A6;have bS:=fS.base;have bK:=fK.base;have b3:K.at h.A6=some (B6 [i0,B7,B7] 3 57 true):=by rw[fK.e _ (by omega),fS.e _ (by omega)];exact a1
 have zbs:=@AUq;rw[show Ci f n dv wv ev sv uv tv up=[iN f.size,dv,wv,iN f.K4,ev,iN n,iN n,iN (n+1),iN (n+2),iN (n+3),sv,uv,tv,i0,i0,i0,i0,.bool false,i0,i0,B7,B7,B7,B7,.bool false,.bool up,.bool false,i0,i0,i0,i0,i0,i0,i0,i0,i0] from rfl] at bx1;have f5:JZ 5 [i0,i0,i0,i0,i0,i0,i0,iN 4,iN 4]=some i0:=rfl;unfold BT at e1;refine B5 rfl ?_;simp(disch:=first|omega|(simp only[C6]<;>omega)|assumption) only[B0,reduceCtorEq,Vh,AWD,f5,hJ,bx1,e1,dA,gd,e2,zbs,e3,e4,hK,hM,a4,b3];refine .ret ?_;simp(disch:=first|omega|(simp only[C6]<;>omega)) only[B0,reduceCtorEq];refine⟨v,rfl,(sv2.fr wS fK).K7 fun c h0 hc=>E9 fun e=>?_,fun c h0 hc=>by have:=fv c h0 hc;omega,wK.put (by omega) _,((fJ.trans fS fun _ _ h=>h).trans fK fun _ _ h=>h).O6 _ (fun hk=>by omega) (by omega)⟩;have:=fv c (by rw[←O1 k];exact h0) hc;omega
abbrev AFI(A7:Call):Prop:=∀H,A7 485 [.agg ⟨BT⟩] H=.val (.tuple ⟨[.agg ⟨BT⟩,.bool true]⟩) H
def AHQ(H:Hp):Prop:=H.at 0=some (bg Ds)
theorem AaB:(Value.pointer (some ⟨0,0,none⟩))=C2 0 0:=rfl
theorem AU6(g:Fn)(a c:Array A0):AIX (.func g a c)=some false:=rfl
theorem Aab:Dp true (!false)=true:=rfl
def AZv:=And.intro AaB<|L0 @AU6<|Aab
abbrev ABR(A7:Call):Prop:=∀H,Wf H→AHQ H→A7 47 [.agg ⟨BT⟩] H=.val (.tuple ⟨[.agg ⟨BT⟩,.bool true]⟩) H
theorem AGy(hB:AFI A7)(hw:Wf h)(hg:AHQ h):C0 (G8 A7Z A7 cd [.agg ⟨BT⟩] h) (QR (.tuple ⟨[.agg ⟨BT⟩,.bool true]⟩) h):=by
 have hwb:=hw.base;have h0:=hw.lt hg;obtain⟨J,hJ,wJ,fJ,nJ,a1,a2⟩:=U7 hw (B6 BT 9 52 true) (B6 YR 9 52 true);have bJ:=fJ.base;have g0:J.at 0=some (bg Ds):=by rw[fJ.e _ h0];exact hg
 unfold bg Ds at g0;have e1:=hB J;unfold BT YR at *;refine B5 rfl ?_;simp(disch:=first|omega|(simp only[C6]<;>omega)) only[B0,reduceCtorEq,Nat.reduceAdd,AZv,AJK,hJ,a1,g0,e1,a2];refine .ret ?_;simp(disch:=first|omega|(simp only[C6]<;>omega)) only[B0,reduceCtorEq];exact .put fJ.log (by omega)
abbrev DStartR(g:List A0→Hp→N3):Prop:=∀h f dv wv ev sv uv tv n a b c,JQ h f dv wv ev sv uv tv n a b c→AHQ h→C0 (g [.agg ⟨Ci f n dv wv ev sv uv tv false⟩] h) (fun r H=>r=.tuple ⟨[.agg ⟨Ci f n dv wv ev sv uv tv true⟩,i0]⟩∧Wf H∧Fr N5 h H)
abbrev AG2(A7:Call):Prop:=DStartR (A7 11)
def AVP:List A0:=[i0,B7,B7,i0,B7,i0,i0,i0,i0,i0,B7,B7,B7,i0,i0,i0,i0,.bool false,i0,i0,B7,B7,B7,B7,.bool false,.bool false,.bool false,i0,i0,i0,i0,i0,i0,i0,i0,i0]
abbrev lJ(cd:C9):Prop:=∀b H,cd 29 [C2 b 0] .ret H=.ok .ret H
def ZU(f:FM)(n:Nat)(dv wv ev sv uv tv:A0)(up:Bool):List A0:=[iN f.size,dv,wv,iN f.K4,ev,iN n,iN n,iN (n+1),iN (n+2),iN (n+3),sv,uv,tv,i0,i0,i0,i0,.bool false,i0,i0,B7,B7,B7,B7,.bool false,.bool up,.bool false,i0,i0,i0,i0,i0,i0,i0,i0,i0]
theorem AEq{n:Nat}:Ci f n dv wv ev sv uv tv up=ZU f n dv wv ev sv uv tv up:=rfl
theorem AHQ.fr(g:AHQ h)(hw:Wf h)(f:Fr N5 h H):AHQ H:=(f.e 0 (hw.lt g)).trans g
theorem lM.fr(g:lM h)(hw:Wf h)(f:Fr N5 h H):lM H:=(f.e 5 (hw.lt g)).trans g
def ALG:=L0 @AQL<|@rr
theorem ADQ(hcd:lJ cd)(hD:aG A7)(hB:ABR A7):DStartR (G8 xf A7 cd):=by
 intro h f dv wv ev sv uv tv n a b c q hg;have hw:=q.wf;have hwb:=hw.base;have h0:=hw.lt hg;obtain⟨k1,k2,k3,k4,k5,k6⟩:=q.ce;simp only[AEq];obtain⟨J,hJ,wJ,fJ,nJ,a1,a2,a3⟩:=PB hw (B6 (ZU f n dv wv ev sv uv tv false) 36 54 true) (B6 AVP 36 54 true) (B6 [i0] 1 67 true);have bJ:=fJ.base;obtain⟨K,hK⟩:∃K,J.put (h.A6+1) (some (.row (C7 (ZU f n dv wv ev sv uv tv false) 0 .nil fun t=>t) 36 54 true false))=K:=⟨_,rfl⟩
 have kK:Ky h K (h.A6+3):=by rw[←hK];exact(Ky.mk wJ fJ nJ).put (by omega) (by omega) hw _
 have b1:K.at h.A6=some (B6 (ZU f n dv wv ev sv uv tv false) 36 54 true):=by rw[←hK,E9 (by omega)];exact a1
 obtain⟨L,hL,wL,fL,nL,c1⟩:=J7 kK.wf (B6 (ZU f n dv wv ev sv uv tv false) 36 107 true);have nK:=kK.nx;have fhL:=kK.fr.trans fL fun _ _ h=>h;have e1:=hD L f dv wv ev sv uv tv n a b c K.A6 false (q.fr wL fhL) c1;obtain⟨M,hM,wM,fM,nM,d1⟩:=O5 wL YR BT 9 52;have fhM:=fhL.trans fM fun _ _ h=>h;have e2:=hB M wM (hg.fr hw fhM);obtain⟨R,hR,wR,fR,nR,g1⟩:=O5 wM YR BT 9 52;have fhR:=fhM.trans fR fun _ _ h=>h;have r1:R.at K.A6=some (B6 (ZU f n dv wv ev sv uv tv false) 36 107 true):=by rw[fR.e _ (by omega),fM.e _ (by omega)];exact c1
 have r2:R.at L.A6=some (B6 BT 9 52 true):=by rw[fR.e _ (by omega)];exact d1
 have r3:R.at (h.A6+1)=some (B6 (ZU f n dv wv ev sv uv tv false) 36 54 true):=by rw[fR.e _ (by omega),fM.e _ (by omega),fL.e _ (by omega),←hK,K0];rfl
 have r4:R.at (h.A6+1+1)=some (B6 [i0] 1 67 true):=by rw[fR.e _ (by omega),fM.e _ (by omega),fL.e _ (by omega),←hK,E9 (by omega)];exact a3
 have le:AH [(0,2),(1,2),(2,2),(3,2),(4,2),(5,2),(6,2),(7,2),(8,2)] [i0,i0,i0,i0,i0,i0,i0,iN 4,iN 4] [i0,i0,i0,i0,i0,i0,i0,iN 4,iN 4]=some true:=rfl;have bR:=fhR.base;have kR:Ky h R R.A6:=⟨wR,fhR,rfl⟩
 unfold ZU AVP BT YR at *;refine Je (g:=29) (a:=[C2 (h.A6+1+1) 0]) rfl ?_;simp(disch:=first|omega|(simp only[C6]<;>omega)|exact⟨rfl,rfl,rfl⟩|assumption) only[↓CG,B0,reduceCtorEq,Nat.reduceAdd,Nat.reduceMul,Nat.reduceSub,Vh,AJK,ALG,hJ,a1,a2,hK,b1,hL,e1,hM,d1,e2,hR,g1,le,r1,r2,r3,r4];refine⟨.inr rfl,rfl,hcd _ _,?_⟩;simp(disch:=first|omega|(simp only[C6]<;>omega)) only[B0,reduceCtorEq];exact(fun k:Ky h _ R.A6=>⟨k.wf,k.fr⟩) (((kR.put (by omega) (by omega) hw _).put (by omega) (by omega) hw _).put (by omega) (by omega) hw _)
abbrev ARw(A7:Call):Prop:=∀h bk n m,u0 3 h bk (J8 (l8 n m))→1≤n→n≤3→5≤m→m≤29→A7 89 [F8 bk 0 m (C4 1 m)] h=.val (.tuple ⟨[]⟩) h
abbrev qO(A7:Call):Prop:=∀H v n m,Sl 1 H v m (J8 (l8 n m))→2≤m→m≤100→n≤100→A7 90 [v] H=.val v H
theorem vq{v:A0}{n:Nat}(hs:Sl 1 h v m (J8 (l8 n m)))(h2:2≤m)(hm:m≤100)(hn:n≤100):C0 (G8 Yf A7 cd [v] h) (VI v h):=by
 have vl:=hs.len;have vA:=hs.A (by omega);refine B5 rfl ?_;simp(disch:=omega) only[B0,reduceCtorEq,vl];refine D9.lp (P:=fun tm df H=>df=[]∧D0 tm [([],v)]∧H=h) ?_ ?_
 · refine K6 (n:=m-1) (by omega) (fun i tm H=>D0 tm [([],v),(Q3,iN (i+1))]∧H=h) ⟨by simp[D0,T.A9,It],rfl⟩ (fun i tm H hi hI=>?_) (fun tm H hI=>?_)
   · obtain⟨⟨t0,t3,-⟩,rfl⟩:=hI;have g1:=O7 (OP (s:=n) (show i<m by omega));have g2:=O7 (OP (s:=n) (show i+1<m by omega));have q1:i+1-1=i:=by omega
     unfold Ir;simp(disch:=omega) only[B0,reduceCtorEq,t0,t3,vA,g1,g2,q1];exact .go ⟨by simp[D0,T.A9,t0],rfl⟩
   · obtain⟨⟨t0,t3,-⟩,rfl⟩:=hI;have q1:m-1+1=m:=by omega
     rw[q1] at t3;unfold Ir;simp(disch:=omega) only[B0,t0,t3,vl];exact .ex ⟨rfl,rfl,by simp[D0,T.A9,t0],rfl⟩
 rintro tm df H ⟨rfl,⟨t0,-⟩,rfl⟩;simp only[B0,t0];refine .ret ?_;simp only[B0];exact⟨rfl,rfl⟩
def AVe(n s:Nat)(v:A0):Option A0:=vO n s (.val v) none none none [] .nil
theorem AUm(n s:Nat)(x:OD)(lo:List A0)(tm:T A0):vO n s x none none none lo tm=AVe n s (G4 x lo tm):=rfl
theorem ATI(b o:Nat):AVe 2 1 (C2 b o)=some (F8 b o 2 2):=by show Jn b o 1 0 2 2=_;unfold Jn;rw[show Nat.beq 0 2=false from rfl,cond_false];unfold Rd;rw[C1,C1,C1];rfl
def AZ8:=L0 @AUm<|@ATI
theorem ACY(hV:pX A7)(hC:VR 3 88 A7)(hS:ARw A7)(hK:qO A7){n a b:Nat}(hw:Wf h)(hf:DT h f dv wv ev)(hok:f.Ok)(h38:38≤f.size)(hly:TW h n a b c sv uv tv)(lo:AOS n a b c f.data.length):C0 (G8 A05 A7 cd [.agg ⟨N9 f dv wv ev⟩,.agg ⟨AX n sv uv tv⟩] h) (QR (.bool true) h):=by
 obtain⟨n0,n1,a0,a1',b1',c1',AZZ⟩:=lo;have hwb:=hw.base;obtain⟨ds,w0,sd,_⟩:=hf.row hok (show n<f.data.length by omega);have cdv:=sd.cell;have cwv:=hf.I0.cell;have cev:=hf.dead.cell;have csv:=hly.st.cell;have cuv:=hly.un.cell;have ctv:=hly.ta.cell;have ld:=sd.len;have ls:=hly.st.len;have lu:=hly.un.len;have lt:=hly.ta.len;obtain⟨J,hJ,wJ,fJ,nJ,a1,a2⟩:=U7 hw (B6 (N9 f dv wv ev) 5 39 true) (B6 (AX n sv uv tv) 8 42 true);have bJ:=fJ.base;have e1:=hV J f dv wv ev wJ (hf.fr hw fJ) hok;obtain⟨K,hK',wK,fK,nK,a3⟩:=J7 wJ (B6 [F8 (h.A6+1) 1 2 2,F8 (h.A6+1) 3 2 2,sv,uv,tv] 5 36 true);have bK:=fK.base;have fhK:=fJ.trans fK fun _ _ h=>h;have lK:=hly.fr hw fhK;have b2:K.at (h.A6+1)=some (B6 (AX n sv uv tv) 8 42 true):=by rw[fK.e _ (by omega)];exact a2
 have hasL:=O3 b2 (M8 _);have sl1:Sl 1 K (F8 (h.A6+1) 1 2 2) 2 (J8 [n,n+1]):=⟨rfl,.inr ⟨_,_,_,rfl,by omega,((hasL.drop (by show 1≤8;omega)).take 2)⟩⟩
 have sl3:Sl 1 K (F8 (h.A6+1) 3 2 2) 2 (J8 [n+2,n+3]):=⟨rfl,.inr ⟨_,_,_,rfl,by omega,((hasL.drop (by show 3≤8;omega)).take 2)⟩⟩
 obtain⟨m,hm⟩:∃m,4+a+b+c=m:=⟨_,rfl⟩
 have hflat:[J8 [n,n+1],J8 [n+2,n+3],J8 (l8 (n+4) a),J8 (l8 (n+4+a) b),J8 (l8 (n+4+a+b) c)].flatten=J8 (l8 n m):=by have e4:l8 n 4=[n,n+1,n+2,n+3]:=rfl;rw[←hm,show 4+a+b+c=4+(a+(b+c)) by omega,LC,LC,LC,BC,BC,BC,e4];simp[J8]
 have hln:(J8 (l8 n m)).length=m:=by rw[EJ,AT]
 have rg:AEZ K [F8 (h.A6+1) 1 2 2,F8 (h.A6+1) 3 2 2,sv,uv,tv] [J8 [n,n+1],J8 [n+2,n+3],J8 (l8 (n+4) a),J8 (l8 (n+4+a) b),J8 (l8 (n+4+a+b) c)]:=by
  refine⟨rfl,fun i r hi=>?_⟩
  match i,hi with
  | 0,hi=>cases hi;exact⟨Fu _,_,rfl,sl1⟩
  | 1,hi=>cases hi;exact⟨Fu _,_,rfl,sl3⟩
  | 2,hi=>cases hi;exact⟨Fu _,_,rfl,by rw[EJ,AT];exact lK.st⟩
  | 3,hi=>cases hi;exact⟨Fu _,_,rfl,by rw[EJ,AT];exact lK.un⟩
  | 4,hi=>cases hi;exact⟨Fu _,_,rfl,by rw[EJ,AT];exact lK.ta⟩
 have sv5:Sl 1 K (F8 J.A6 0 5 5) 5 [F8 (h.A6+1) 1 2 2,F8 (h.A6+1) 3 2 2,sv,uv,tv]:=⟨rfl,.inr ⟨_,_,_,rfl,by omega,O3 a3 (M8 _)⟩⟩
 obtain⟨v2,H2',H2,e2,l2,s2,n2,⟨rfl,o2⟩,w2,f2⟩:=drawn (P:=fun v H=>v=F8 K.A6 0 m (C4 1 m)∧u0 3 H K.A6 (J8 (l8 n m))) wK (fun _ _ _ _ p=>p) ((hC (B8 K K.A6 []) (F8 J.A6 0 5 5) _ _ (wK.sb []) (sv5.sb _ _) rg (by rw[hflat,hln];omega) (by rw[hflat,hln];omega) (by show 5≤1000;omega)).mono fun r H ⟨e,o,w,f⟩=>by rw[hflat] at o;rw[hflat,hln] at e;exact⟨⟨e,o⟩,w,f⟩)
 have s2':B8 H2' J.base J.log=H2:=by rw[←fK.base,←fK.log];exact s2
 have fh2:=fhK.trans f2 fun _ _ h=>h;have e3:=hS H2 K.A6 n m o2 (by omega) (by omega) (by omega) (by omega);have so:Sl 1 H2 (F8 K.A6 0 m (C4 1 m)) m (J8 (l8 n m)):=Dw o2 hln (by omega);have e4:=hK (B8 H2 H2.A6 []) (F8 K.A6 0 m (C4 1 m)) n m (so.sb _ _) (by omega) (by omega) (by omega);have sA:=so.A (by omega);have g0:=O7 (OP (s:=n) (show 0<m by omega));have g9:=O7 (OP (s:=n) (show m-1<m by omega));have c1:H2.at h.A6=some (B6 (N9 f dv wv ev) 5 39 true):=by rw[f2.e _ (by omega),fK.e _ (by omega)];exact a1
 have c2:H2.at (h.A6+1)=some (B6 (AX n sv uv tv) 8 42 true):=by rw[f2.e _ (by omega)];exact b2
 have cso:=so.cell;have lso:=so.len;unfold N9 AX at *;generalize hq:C4 1 m=oq at *;refine B5 rfl ?_;simp(disch:=first|omega|(simp only[C6]<;>omega)|exact⟨rfl,rfl,rfl⟩|assumption) only[↓CG,B0,reduceCtorEq,Nat.reduceAdd,Nat.reduceMul,Nat.reduceSub,Vh,AZ8,hJ,a1,a2,e1,ld,ls,lu,lt,hK',l2,s2,s2',n2,e2,e3,c1,c2,sA,g0,g9,cso,lso,e4,AZZ];refine .ret ?_;simp only[B0];exact⟨rfl,fh2.log⟩
abbrev ANf(A7:Call):Prop:=∀h f dv wv ev sv uv tv n a b c,Wf h→DT h f dv wv ev→f.Ok→38≤f.size→TW h n a b c sv uv tv→AOS n a b c f.data.length→A7 30 [.agg ⟨N9 f dv wv ev⟩,.agg ⟨AX n sv uv tv⟩] h=.val (.bool true) h
theorem AJD{n:Nat}(hn:38≤n)(hj:j<n):(Q5 n).getD j 0=if j<8 then[0,255,0,255,0,255,1,254].getD j 0 else if j<38 then T5.getD (j-8) 0 else 255:=by rw[lj,ALX hn hj];show AAX _ 8 j=_;unfold AAX;grind
abbrev JCont1R(g:List A0→Hp→N3):Prop:=∀h v n,Wf h→Sl 1 h v 30 (M4 T5)→38≤n→n≤5000→C0 (g [iN n,iN 1,v] h) (AND (Q5 n) h)
theorem nz(hR:Ys A7)(hP:AL9 A7):JCont1R (G8 QU A7 cd):=by
 intro h v n hw hv h38 hn;have hwb:=hw.base;have cv:=hv.cell;obtain⟨J,hJ,wJ,fJ,nJ,a1⟩:=J7 hw (B6 [bN 255] 1 5 true);have hs:Sl 1 J (F8 h.A6 0 1 1) 1 (M4 [255]):=⟨rfl,.inr ⟨_,_,_,rfl,by omega,O3 a1 (by simp[M4])⟩⟩
 obtain⟨r,H1,e1,b,rfl,row,ce,lo,w1,f1⟩:=(hR J _ n wJ hs (by omega) hn).get;have fh1:=fJ.trans f1 fun _ _ h=>h;have m1:=f1.A6;have y1:=fh1.base;have hb:=row.lt w1;obtain⟨c,e,cl,hat,hc⟩:=id row;have s1:=TS (k:=8) (b:=b) (o:=0) (l:=n) (c:=n) (by omega) (by unfold R8;omega) (by omega);have e2:=VQ (hv.fr hw fh1) (Kw _) hat (o:=0+8) (n:=n-8) (cc:=n-8) (k:=30) (by omega) (by omega) (by omega);have hr2:=fq (h:=H1) (b:=b) (e:=e) (cl:=cl) hc (0+8) ((M4 T5).take (30*1));obtain⟨H2,hH2⟩:∃H2,H1.put b (some (.row (C7 ((M4 T5).take (30*1)) (0+8) c fun t=>t) n e cl false))=H2:=⟨_,rfl⟩
 rw[hH2] at e2 hr2;have k2:Ky h H2 H1.A6:=by rw[←hH2];exact(Ky.mk w1 fh1 rfl).put (by omega) hb hw _
 have ce2:cE H2 b=5:=by rw[←hH2];exact(M6 K0).trans ((M6 hat).symm.trans ce)
 obtain⟨H3,hH3,w3,f3,n3,b3⟩:=J7 k2.wf (B6 [B7] 1 301 true);have y3:=f3.base;have nx2:=k2.nx;have y2:=k2.fr.base;obtain⟨H4,e4,⟨bv,ou,hat4,w4,_,_⟩,f4L⟩:=hP H3 H3.A6 H2.A6 1 4 [] ⟨B7,Out.nil,b3,w3,by omega,M8 _⟩ (by omega) (by omega) (by decide);have f4:=(f4L.lower fun x hx hp=>by omega).mono fun k hk hp=>hp.elim id fun hp=>by omega
 have y4:=f4.base;have nx4:=f4.A6;have hcode:([]:List Nat)++CX (Ti 1 4 4)=[0,255,0,255,0,255,1,254]:=by decide
 rw[hcode] at ou;have hr4:=hr2.K7 (by rw[f4.M5 _ (by omega) (by omega),f3.e _ (by omega)]);have ce4:=(Y9 (by rw[f4.M5 _ (by omega) (by omega),f3.e _ (by omega)])).trans ce2;obtain⟨c4,e',cl',hat5,hc5⟩:=id hr4;have cbv:=ou.sl.cell;have e5:=VQ ou.sl (Kw _) hat5 (o:=0) (n:=n) (cc:=n) (k:=8) (by simp;omega) (by omega) (by omega);have fh4:=(k2.fr.trans (P:=N5) f3 fun _ _ h=>h).trans f4 fun k hk e=>by omega
 refine B5 rfl ?_;simp(disch:=first|omega|exact⟨rfl,rfl,rfl⟩|assumption) only[B0,reduceCtorEq,Vh,hJ,e1,s1,e2,hH3,e4,hat4,e5];refine .ret ?_;simp only[B0];refine((fq hc5 0 ((M4 [0,255,0,255,0,255,1,254]).take (8*1))).congr fun j hj=>?_).AS7 (FA h38) (by omega) ((M6 K0).trans ((M6 hat5).symm.trans ce4)) (by omega) (w4.put (by omega) _) (fh4.O6 _ (fun hk=>by omega) (by omega));rw[AJD h38 hj];by_cases h8:j<8
 · rw[if_pos h8,if_pos ⟨BB _,by simp[M4];omega⟩,EC];have:∀j,j<8→(((M4 [0,255,0,255,0,255,1,254]).take (8*1))[j]?).getD undef=bN ([0,255,0,255,0,255,1,254].getD j 0):=fun j hj=>by
    match j,hj with
    | 0,_=>rfl
    | 1,_=>rfl
    | 2,_=>rfl
    | 3,_=>rfl
    | 4,_=>rfl
    | 5,_=>rfl
    | 6,_=>rfl
    | 7,_=>rfl
   exact this j h8
 · rw[if_neg h8,if_neg (by simp[M4];omega)];have hl30:((M4 T5).take (30*1)).length=30:=by rfl
   by_cases h9:j<38
   ·rw[if_pos h9,if_pos ⟨by omega,by rw[hl30];omega⟩,jU,if_pos (by omega),Q1 (G6 (l:=T5) (i:=j-(0+8)) (by simp[T5];omega))];rfl
   grind
abbrev AG1(A7:Call):Prop:=JCont1R (A7 101)
abbrev JCont0R(g:List A0→Hp→N3):Prop:=∀h n,Wf h→38≤n→n≤5000→C0 (g [iN n,i0,B7] h) (AND (List.replicate n 255) h)
theorem sX(hR:Ys A7):JCont0R (G8 QU A7 cd):=by
 intro h n hw h38 hn;have hwb:=hw.base;obtain⟨J,hJ,wJ,fJ,nJ,a1⟩:=J7 hw (B6 [bN 255] 1 5 true);have hs:Sl 1 J (F8 h.A6 0 1 1) 1 (M4 [255]):=⟨rfl,.inr ⟨_,_,_,rfl,by omega,O3 a1 (by simp[M4])⟩⟩
 obtain⟨r,H1,e1,b,rfl,row,ce,lo,w1,f1⟩:=(hR J _ n wJ hs (by omega) hn).get;have fh1:=fJ.trans f1 fun _ _ h=>h;have s1:=TS (k:=8) (b:=b) (o:=0) (l:=n) (c:=n) (by omega) (by unfold R8;omega) (by omega);have e2:=A7T (s:=1) (b:=b) (o:=0+8) (n:=n-8) (c:=n-8) (h:=H1) (y:=B7) (vs:=[]) ⟨rfl,.inl ⟨rfl,.inl rfl⟩⟩;refine B5 rfl ?_;simp(disch:=first|omega|exact⟨rfl,rfl,rfl⟩|assumption) only[B0,reduceCtorEq,Vh,hJ,e1,s1,e2];refine .ret ?_;simp only[B0];exact(row.congr fun j hj=>by grind).AS7 Ad (by omega) ce (by omega) w1 fh1
abbrev AEd(A7:Call):Prop:=JCont0R (A7 101)
theorem AKe(neg:Bool)(x:OD)(lo:List A0)(tm:T A0):AB A4u neg x lo tm=R5 (A4u (G4 x lo tm)) (fun t=>some (.bool (Dp neg (!t)))) none:=by unfold AB;simp only[Gv]
abbrev JFormatR(g:List A0→Hp→N3):Prop:=∀h f dv wv ev sv uv tv n a b c,AZJ h f dv wv ev sv uv tv n a b c→C0 (g [.agg ⟨N9 f dv wv ev⟩,.agg ⟨AX n sv uv tv⟩,.agg ⟨BT⟩] h) (YS (f.Lx n) h)
theorem A9w(hS:AMl A7)(hF:A2r A7)(hC1:AG1 A7)(hC0:AEd A7)(hT:APQ 100 A7):JFormatR (G8 mJ A7 cd):=by
 intro h f dv wv ev sv uv tv n a b c q;obtain⟨hw,hf,hly,hok,h38,hn,hd,hwr⟩:=q;obtain⟨q1,q2,q3,q4,q5,q6,q7,q8,q9,q10⟩:=id hok;obtain⟨J,hJ,wJ,fJ,nJ,a1,a2,a3,a4⟩:=A8k hw (B6 (N9 f dv wv ev) 5 39 true) (B6 (AX n sv uv tv) 8 42 true) (B6 BT 9 52 true) (B6 Vy 5 39 true);have hwb:=hw.base;have bJ:=fJ.base;obtain⟨v8,H1,e1,⟨hs8,hb8⟩,w1,f1⟩:=(hS J wJ).get;have c8:=hs8.cell;have nl8:=Sl.AXi hs8 (by decide);have fJ1:=fJ.trans f1 fun _ _ h=>h;have g1:=hF H1 f dv wv ev sv uv tv n a b c w1 (hf.fr hw fJ1) hok h38 (hly.fr hw fJ1) hn;have a11:H1.at h.A6=some (B6 (N9 f dv wv ev) 5 39 true):=by rw[f1.e _ (by omega)];exact a1
 have a21:H1.at (h.A6+1)=some (B6 (AX n sv uv tv) 8 42 true):=by rw[f1.e _ (by omega)];exact a2
 obtain⟨v2,H2',H2,e2,l2,s2,n2,⟨hs2,ty2,lo2⟩,w2,f2⟩:=drawn (P:=fun v H=>Sl 1 H v (Q5 f.size).length (M4 (Q5 f.size))∧YB 5 H v∧∀c,Ch v c→H1.A6≤c) w1 (fun _ _ _ _ p=>p) (hC1 (B8 H1 H1.A6 []) v8 f.size (w1.sb []) (hs8.sb _ _) h38 (by omega));rw[FA h38] at hs2;have hj:∀x∈Q5 f.size,x<256:=by
  intro x hx;unfold Q5 at hx;rcases Gt.1 hx with hx|hx
  ·exact(by decide:∀x∈[0,255,0,255,0,255,1,254]++T5,x<256) x hx
  grind
 have c2:=hs2.cell;have fJ2:=fJ1.trans f2 fun _ _ h=>h;have wt1:Wt f n (Q5 f.size):=⟨hok,by omega,FA h38,hj⟩
 have tq1:AF5 H2 f dv wv ev n v2 (Q5 f.size):=⟨w2,hf.fr hw fJ2,wt1,hd n (by omega),fun _=>by have:=hwr n;omega,hs2⟩
 obtain⟨r3,H3',H3,e3,l3,s3,n3,⟨dv3,AFK,ev3,rfl,hf3⟩,w3,f3⟩:=drawn w2 (fun _ _ n l ⟨dv,wv,ev,e,hf⟩=>⟨dv,wv,ev,e,hf.sb n l⟩) ((hT (B8 H2 H2.A6 []) f dv wv ev n v2 (Q5 f.size) tq1.sb (by have:=hwr n;omega)).mono fun _ _ x=>x.p);have x1:=f1.A6;have x2:=f2.A6;have x3:=f3.A6;have b1:=f1.base;have b2:=f2.base;have b3:=f3.base;have cdv:=hf3.data.cell;have cwv:=hf3.I0.cell;have cev:=hf3.dead.cell;have k3:=f2.trans f3 fun _ _ h=>h;have fh3:=fJ1.trans k3 fun _ _ h=>h;have A13:H3.at h.A6=some (B6 (N9 f dv wv ev) 5 39 true):=by rw[k3.e _ (by omega)];exact a11
 obtain⟨K3,hK3⟩:∃K3,H3.put h.A6 (some (.row (C7 [iN f.size,dv3,AFK,iN f.K4,ev3] 0 .nil fun t=>t) 5 39 true false))=K3:=⟨_,rfl⟩
 have y3:Ky h K3 H3.A6:=by rw[←hK3];exact(Ky.mk w3 fh3 rfl).put (by omega) (by omega) hw _
 have hf3':DT K3 (f.N6 n (Q5 f.size)) dv3 AFK ev3:=by rw[←hK3];exact hf3.put _ (M6 A13) rfl
 have B1:K3.at h.A6=some (B6 [iN f.size,dv3,AFK,iN f.K4,ev3] 5 39 true):=by rw[←hK3,K0];rfl
 have B2:K3.at (h.A6+1)=some (B6 (AX n sv uv tv) 8 42 true):=by rw[←hK3,E9 (by omega),k3.e _ (by omega)];exact a21
 obtain⟨v4,H4',H4,e4,l4,s4,n4,⟨hs4,ty4,lo4⟩,w4,f4⟩:=drawn (P:=fun v H=>Sl 1 H v (List.replicate f.size 255).length (M4 (List.replicate f.size 255))∧YB 5 H v∧∀c,Ch v c→K3.A6≤c) y3.wf (fun _ _ _ _ p=>p) (hC0 (B8 K3 K3.A6 []) f.size (y3.wf.sb []) h38 (by omega));rw[Ad] at hs4;have c4:=hs4.cell;have ok2:=wt1.N6 (by have:=hwr n;omega);have tq4:AF5 H4 (f.N6 n (Q5 f.size)) dv3 AFK ev3 (n+1) v4 (List.replicate f.size 255):=⟨w4,hf3'.fr y3.wf f4,⟨ok2,by rw[FM.U3];omega,Ad,fun x hx=>by grind⟩,hd (n+1) (by omega),fun _=>by have h1:=FM.KO f n (n+1) (Q5 f.size);have:=hwr (n+1);rw[if_neg (by omega)] at h1;show _<f.K4;omega,hs4⟩
 obtain⟨r5,H5',H5,e5,l5,s5,n5,⟨dv5,wv5,ev5,rfl,hf5⟩,w5,f5⟩:=drawn (P:=AWj (f.Lx n)) w4 (fun _ _ n l ⟨dv,wv,ev,e,hf⟩=>⟨dv,wv,ev,e,hf.sb n l⟩) ((hT (B8 H4 H4.A6 []) _ dv3 AFK ev3 (n+1) _ _ tq4.sb (by have h1:=FM.KO f n (n+1) (Q5 f.size);have:=hwr (n+1);rw[if_neg (by omega)] at h1;show _<f.K4;omega)).mono fun _ _ x=>x.p);have cdv5:=hf5.data.cell;have cwv5:=hf5.I0.cell;have cev5:=hf5.dead.cell;have x4:=f4.A6;have x5:=f5.A6;have nK3:=y3.nx;have bK3:=y3.fr.base;have b4:=f4.base;have b5:=f5.base;have k5:=f4.trans f5 fun _ _ h=>h;have fh5:=y3.fr.trans k5 fun _ _ h=>h;have D1:H5.at h.A6=some (B6 [iN f.size,dv3,AFK,iN f.K4,ev3] 5 39 true):=by rw[k5.e _ (by omega)];exact B1
 obtain⟨K5,hK5⟩:∃K5,H5.put h.A6 (some (.row (C7 [iN f.size,dv5,wv5,iN f.K4,ev5] 0 .nil fun t=>t) 5 39 true false))=K5:=⟨_,rfl⟩
 have y5:Ky h K5 H5.A6:=by rw[←hK5];exact(Ky.mk w5 fh5 rfl).put (by omega) (by omega) hw _
 have hf5':DT K5 (f.Lx n) dv5 wv5 ev5:=by rw[←hK5];exact hf5.put _ (M6 D1) rfl
 have E1:K5.at h.A6=some (B6 [iN f.size,dv5,wv5,iN f.K4,ev5] 5 39 true):=by rw[←hK5,K0];rfl
 have E4:K5.at (h.A6+1+1+1)=some (B6 Vy 5 39 true):=by rw[←hK5,E9 (by omega),k5.e _ (by omega),←hK3,E9 (by omega),k3.e _ (by omega),f1.e _ (by omega)];exact a4
 have nK5:=y5.nx;have bK5:=y5.fr.base;have fh4:=y3.fr.trans f4 fun _ _ h=>h;rw[fJ1.base,fJ1.log] at s2;rw[fJ2.base,fJ2.log] at s3;rw[y3.fr.base,y3.fr.log] at s4;rw[fh4.base,fh4.log] at s5;unfold N9 AX BT Vy at hJ;unfold N9 at a1 a11 g1 e3 e5 A13;have hz:∀w,(f.N6 n w).size=f.size:=fun w=>rfl;have hz2:∀w,(f.N6 n w).K4=f.K4:=fun w=>rfl;have hz3:(f.Lx n).size=f.size:=rfl;have hz4:(f.Lx n).K4=f.K4:=rfl;simp only[hz,hz2,hz3,hz4] at e3 e5;unfold AX at a2 a21 g1 B2;unfold BT at a3 e1;unfold Vy at a4 E4;have m1:comp PV 5 12=true:=by decide
 have m2:comp PV 0 12=true:=by decide
 have m3:comp Pc 5 11=true:=by decide
 have m4:comp Pc 0 11=true:=by decide
 refine B5 rfl ?_;unfold N9 AX BT;simp(disch:=first|omega|(simp only[C6]<;>omega)|exact⟨rfl,rfl,rfl⟩|assumption) only[↓CG,B0,reduceCtorEq,Nat.reduceAdd,Nat.reduceMul,Nat.reduceSub,Vh,AKe,hJ,a1,a2,a3,a4,e1,nl8,a11,a21,g1,e2,l2,s2,n2,e3,l3,s3,n3,A13,hK3,B1,B2,e4,l4,s4,n4,e5,l5,s5,n5,D1,hK5,E1,E4,hz,hz2,hz3,hz4,m1,m2,m3,m4,fJ.n,fJ1.n,fJ2.n,fh3.n,y3.fr.n,fh4.n,fh5.n,y5.fr.n];refine .ret ?_;simp(disch:=first|omega|(simp only[C6]<;>omega)) only[B0,reduceCtorEq];exact YS.mk (y5.put (by omega) (by omega) hw _) (hf5'.put _ (M6 E4) rfl)
abbrev A6p(A7:Call):Prop:=JFormatR (A7 36)
theorem AD7(S5:List Nat)(t size:Nat):AJ (S5.drop (min (t*size) S5.length)) 0 size=AJ S5 t size:=by unfold AJ;grind
def tH(n:Nat)(sv uv tv:A0):List A0:=AX n sv uv tv++ALv++[.bool false,.bool false,.bool false]++YR
theorem ALD{v:A0}(hs:Sl 1 H v 0 [])(hc:MB v):∃v',AUb 0 v=some v'∧Sl 1 H v' 0 []:=by
 obtain⟨_,⟨_,rfl|⟨b,o,c,rfl⟩⟩|⟨b,o,c,rfl,h,_⟩⟩:=hs
 ·exact⟨.slice none 0 0,rfl,⟨rfl,.inl ⟨rfl,.inl rfl⟩⟩⟩
 · rcases hc b o 0 c rfl with⟨h1,h2⟩|⟨m,rfl,h1,h2⟩
   ·refine⟨_,PL (BB _) h2,⟨rfl,.inl ⟨rfl,.inr ?_⟩⟩⟩;grind
   ·obtain⟨o',e1,_⟩:=A7O (b:=b) (o:=o) (M8 0) h1 h2;exact⟨_,e1,⟨rfl,.inl ⟨rfl,.inr ⟨_,_,_,rfl⟩⟩⟩⟩
 ·omega
theorem APZ{v:A0}{k:Nat}(hs:Sl 1 H v l.length (M4 l))(hc:MB v)(hk:k≤l.length):∃v',AUb k v=some v'∧Sl 1 H v' (l.drop k).length (M4 (l.drop k)):=by
 rcases Br l.length with h0|h0
 · have hl:=IU h0;subst hl;have:k=0:=by simpa using hk
   subst this;exact ALD hs hc
 ·obtain⟨v',e1,s1,_⟩:=lU hs hc hk h0;exact⟨v',e1,by rw[zV,←A0A];exact s1⟩
theorem AXk{b:CC}{n:Nat}{df0:Df}(hn:n<1000000)(I:Nat→T A0→Hp→Prop){φ:Ex→T A0→Df→Hp→Prop}{tm:T A0}(h0:I 0 tm h)(hstep:∀i tm h,i<n→I i tm h→D9 (Dx b A7 tm df0 h) (fun e tm df h=>(e=.normal∧df=df0∧I (i+1) tm h)∨(e≠.normal∧φ e tm df h)))(hend:∀tm h,I n tm h→D9 (Dx b A7 tm df0 h) (AGo φ)):D9 (Dx (.loop b) A7 tm df0 h) φ:=by
 refine A6E hn (fun i tm df h=>df=df0∧I i tm h) (fun i tm df h hi hI=>?_) (fun tm df h hI=>?_) ⟨rfl,h0⟩
 ·obtain⟨rfl,hI⟩:=hI;exact hstep i tm h hi hI
 grind
abbrev DNewR(g:List A0→Hp→N3):Prop:=∀h f dv wv ev sv uv tv bv pv n a b c S5 k,ATd h f dv wv ev sv uv tv bv pv n a b c S5 k→MB bv→C0 (g [.agg ⟨N9 f dv wv ev⟩,.agg ⟨AX n sv uv tv⟩,bv,.agg ⟨[iN 4,pv,B7]⟩] h) (fun r H=>AZP (CM f S5 n (Y6 k f.size) (Q5 f.size)) n a b c sv uv tv r H∧Wf H∧Fr N5 h H)
abbrev AQP(A7:Call):Prop:=DNewR (A7 8)
theorem AKy(hcd:lJ cd)(hL:ANf A7)(hV:lF A7)(hC:tG A7)(hN:tz A7)(hB:AEs A7)(hF:A6p A7)(hM:di A7):DNewR (G8 AEy A7 cd):=by
 intro h f dv wv ev sv uv tv bv pv n a b c S5 k q hck;obtain⟨hw,hf,hly,lo,fg,hbv,hil,hib,hs,ho,hk,hsz⟩:=q;obtain⟨o1,o2,o3,o4,o5,o6,o7⟩:=id lo;have A4e:=fg.A4e;have csv:=hly.st.cell;have cuv:=hly.un.cell;have ctv:=hly.ta.cell;have cpv:=hs.cell;have cbv:=hbv.cell;have cdv:=hf.data.cell;have cwv:=hf.I0.cell;have cev:=hf.dead.cell;have bl:=hbv.len;have hwb:=hw.base;obtain⟨J4,hJ4,w4,f4,n4,a1,a2,a3,a4⟩:=A8k hw (B6 (N9 f dv wv ev) 5 39 true) (B6 (AX n sv uv tv) 8 42 true) (B6 [iN 4,pv,B7] 3 57 true) (B6 Pv 36 54 true);obtain⟨J,hJ,wJ,f5,nJ,a5⟩:=J7 w4 (B6 [i0] 1 67 true);have fJ:=f4.trans f5 fun _ _ h=>h;have bJ:=fJ.base;have nJh:J.A6=h.A6+5:=by omega
 have b1:J.at h.A6=some (B6 (N9 f dv wv ev) 5 39 true):=by rw[f5.e _ (by omega)];exact a1
 have b2:J.at (h.A6+1)=some (B6 (AX n sv uv tv) 8 42 true):=by rw[f5.e _ (by omega)];exact a2
 have b3:J.at (h.A6+1+1)=some (B6 [iN 4,pv,B7] 3 57 true):=by rw[f5.e _ (by omega)];exact a3
 have b4:J.at (h.A6+1+1+1)=some (B6 Pv 36 54 true):=by rw[f5.e _ (by omega)];exact a4
 have e1:=hL J f dv wv ev sv uv tv n a b c wJ (hf.fr hw fJ) fg.ok (by omega) (hly.fr hw fJ) lo;have e2:=hV J pv k wJ (hs.fr hw fJ) ho (by omega);obtain⟨S,hS,wS,fS,nS,c1⟩:=J7 wJ (B6 (ZU f n dv wv ev sv uv tv false) 36 107 true);have fhS:=fJ.trans fS fun _ _ h=>h;obtain⟨cv,H3,e3,⟨hcv,tcv,lcv⟩,w3,f3⟩:=(hC S pv k f.size wS (hs.fr hw fhS) ho hk (by omega) (by omega)).get;rw[II] at hcv;have hmul:n*f.size≤3*f.size:=BY _ o2;have hgt:=W8 hil;have ccv:=hcv.cell;have d1:S.at h.A6=some (B6 (N9 f dv wv ev) 5 39 true):=by rw[fS.e _ (by omega)];exact b1
 have d2:S.at (h.A6+1)=some (B6 (AX n sv uv tv) 8 42 true):=by rw[fS.e _ (by omega)];exact b2
 have d3:S.at (h.A6+1+1)=some (B6 [iN 4,pv,B7] 3 57 true):=by rw[fS.e _ (by omega)];exact b3
 have fS3:=fS.trans f3 fun _ _ h=>h;have fh3:=fJ.trans fS3 fun _ _ h=>h;have x3:=f3.A6;have y3:=fh3.base;have hB3:DvB H3 J.A6 f (tH n sv uv tv):=⟨dv,wv,ev,hf.fr hw fh3,by rw[f3.e _ (by omega)];exact c1⟩
 have A1:∀ {H:Hp},Fr (fun k=>k=J.A6) H3 H→H.at h.A6=some (B6 [iN f.size,dv,wv,iN f.K4,ev] 5 39 true):=fun fr=>by rw[fr.M5 _ (by omega) (by omega),f3.e _ (by omega)];exact d1
 have A2:∀ {H:Hp},Fr (fun k=>k=J.A6) H3 H→H.at (h.A6+1)=some (B6 [iN n,iN n,iN (n+1),iN (n+2),iN (n+3),sv,uv,tv] 8 42 true):=fun fr=>by rw[fr.M5 _ (by omega) (by omega),f3.e _ (by omega)];exact d2
 have A3:∀ {H:Hp},Fr (fun k=>k=J.A6) H3 H→H.at (h.A6+1+1)=some (B6 [iN 4,pv,B7] 3 57 true):=fun fr=>by rw[fr.M5 _ (by omega) (by omega),f3.e _ (by omega)];exact d3
 have A4:∀ {H:Hp},Fr (fun k=>k=J.A6) H3 H→H.at (h.A6+1+1+1)=some (B6 Pv 36 54 true):=fun fr=>by rw[fr.M5 _ (by omega) (by omega),fS3.e _ (by omega)];exact b4
 have A5:∀ {H:Hp},Fr (fun k=>k=J.A6) H3 H→H.at J4.A6=some (B6 [i0] 1 67 true):=fun fr=>by rw[fr.M5 _ (by omega) (by omega),fS3.e _ (by omega)];exact a5
 have fh:∀ {H:Hp},Fr (fun k=>k=J.A6) H3 H→Fr N5 h H:=fun fr=>fh3.trans fr fun k hk e=>by omega
 have fg2:=fun t=>FG.gF (t:=t) (set:=Y6 k f.size) fg hib (Bj (HA _) _ _) (II _ _) (by omega) o2;unfold ZU N9 AX Pv at *;refine Je (g:=29) (a:=[C2 J4.A6 0]) rfl ?_;simp(disch:=first|omega|(simp only[C6]<;>omega)|exact⟨rfl,rfl,rfl⟩|assumption) only[↓CG,B0,reduceCtorEq,Nat.reduceAdd,Nat.reduceMul,Nat.reduceSub,Vh,AJK,ALG,AS3,hJ4,hJ,b1,b2,b3,b4,e1,e2,e3,bl,hS,d1,d3,A2 (Fr.refl _ _)];refine D9.lp (P:=fun tm df H=>df=[(29,[C2 J4.A6 0])]∧D0 tm [(U2,C2 (h.A6+1) 0),(AL,C2 (h.A6+1+1) 0),(Cj,C2 (h.A6+1+1+1) 0),(DZ,C2 J4.A6 0),(MC,C2 J.A6 0),(Ku,cv)]∧Wf H∧Fr (fun k=>k=J.A6) H3 H∧DvB H J.A6 (gF f S5 n (Y6 k f.size) n) (tH n sv uv tv)) ?_ ?_
 · refine AXk (n:=n) (by omega) (fun t tm H=>D0 tm [(T1,bv),(V1,C2 h.A6 0),(U2,C2 (h.A6+1) 0),(AL,C2 (h.A6+1+1) 0),(Cj,C2 (h.A6+1+1+1) 0),(DZ,C2 J4.A6 0),(MC,C2 J.A6 0),(Ku,cv),([true,false,true,false,true],iN n),([false,false,true,false,true],iN t)]∧Wf H∧Fr (fun k=>k=J.A6) H3 H∧DvB H J.A6 (gF f S5 n (Y6 k f.size) t) (tH n sv uv tv)) ?_ (fun t tm H ht hI=>?_) (fun tm H hI=>?_)
   · have e0:gF f S5 n (Y6 k f.size) 0=f:=by rfl
     exact⟨by simp[D0,T.A9,AS3],w3,Fr.refl _ _,by rw[e0];exact hB3⟩
   · obtain⟨⟨t2,t4,t5,t7,t8,t9,t10,t11,t41,t42,-⟩,wH,fH,hDv⟩:=hI;have b1':=A1 fH;have bH:=fH.base;have nH:=fH.A6;have m4:=AVZ (z:=f.size) (show t≤3 by omega);have hmt:t*f.size≤3*f.size:=BY _ (by omega);obtain⟨w',g1,sw⟩:=APZ (hbv.fr hw (fh fH)) hck (k:=min (t*f.size) S5.length) (Nat.min_le_right _ _);have g1':A8y bv (iN (min (t*f.size) S5.length))=some w':=g1;obtain⟨v,G',G,e4,l4,s4,n4',⟨hv,tv4,lv⟩,wG,fG⟩:=drawn (P:=fun v H'=>Sl 1 H' v f.size (M4 (AJ S5 t f.size))∧YB 5 H' v∧∀c,Ch v c→H.A6≤c) wH (fun _ _ _ _ p=>p) ((hN (B8 H H.A6 []) w' _ f.size (wH.sb []) (sw.sb _ _) (by omega) (by omega) (by rw[zV];omega)).mono fun r H' ⟨⟨e1,e2,e3⟩,w,fr⟩=>by
      rw[AD7] at e1;rw[Ah] at e1;exact⟨⟨e1,e2,e3⟩,w,fr⟩)
     have yG:=fG.A6;have zG:=fG.base;have fg3:=fg2 t;have zs:=PU f S5 n (Y6 k f.size) t;have zd:=eC f S5 n (Y6 k f.size) t;obtain⟨dg,wg,eg,hg,bs⟩:=id hDv;have hJH:=wH.lt bs;generalize hgt:gF f S5 n (Y6 k f.size) t=gt at *;have hDG:DvB (B8 G G.A6 []) J.A6 gt (tH n sv uv tv):=⟨dg,wg,eg,(hg.fr wH fG).sb _ _,by rw[A2J,fG.e _ hJH];exact bs⟩
     obtain⟨r,K',e5,rfl,hDK,wK',fL⟩:=(hB (B8 G G.A6 []) gt v t J.A6 (AJ S5 t f.size) (tH n sv uv tv) (wG.sb []) hDG rfl (fg3.wt (by omega) (by rw[Ah,zs]) (Bj hib _ _)) (fg3.dead _ (by omega)) (by rw[zs];exact hv.sb _ _) tv4 (by have:=fg3.I0 t;omega)).get;have hbel:below G.base K'.log G.log=G.log:=Er fun y hy=>by
      rcases fL.ls y hy with h|h
      ·cases h
      ·omega
     obtain⟨K,hK⟩:∃K,B8 K' G.base G.log=K:=⟨_,rfl⟩
     have nK:G.A6≤K'.A6:=fL.A6;have wK:Wf K:=by rw[←hK];exact wK'.AHk (by have:=wG.base;omega) _
     have fK:Fr (fun c=>c=J.A6) G K:=by rw[←hK];exact⟨rfl,rfl,nK,fun c h1 h2=>fL.M5 c h1 h2⟩
     have hDK2:DvB K J.A6 (gt.N6 t (AJ S5 t f.size)) (tH n sv uv tv):=by rw[←hK];obtain⟨d,w,e,x,y⟩:=hDK;exact⟨d,w,e,x.sb _ _,y⟩
     have hnew:gF f S5 n (Y6 k f.size) (t+1)=gt.N6 t (AJ S5 t f.size):=by rw[AEV ht,hgt]
     have hal:∀own ws rs',(∀p∈rs',p.2≠J.A6)→allowed (comp dQ) 14 true own ⟨[(H.A6,13)],rs',ws⟩ K'.log=true:=fun own ws rs' hr=>A0S fun b hb=>by have hb':=(fL.ls b hb).elim (fun h=>by cases h) id;subst hb';exact⟨A8i hJH,fun p hp e=>absurd e (hr p hp)⟩
     have hal2:∀own ws,allowed (comp dQ) 14 true own ⟨[(H.A6,13)],[(12,h.A6),(5,h.A6)],ws⟩ K'.log=true:=fun own ws=>hal own ws _ fun p hp=>by
      simp only[m8,Lg,or_false] at hp;rcases hp with rfl|rfl
      ·show h.A6≠J.A6;omega
      ·show h.A6≠J.A6;omega
     unfold XV;simp(disch:=first|omega|(simp only[C6]<;>omega)) only[B0,reduceCtorEq,Nat.reduceAdd,Vh,t2,t4,t10,t41,t42,b1',bl,g1',e4,l4,s4,e5,hbel,hK,hal2];exact .inl ⟨by simp[D0,T.A9,t2,t4,t5,t7,t8,t9,t10,t11,t41],wK,(fH.trans fG fun _ _ h=>h.elim).trans fK fun k hk e=>e,by rw[hnew];exact hDK2⟩
   ·obtain⟨⟨t2,t4,t5,t7,t8,t9,t10,t11,t41,t42,-⟩,wH,fH,hDv⟩:=hI;unfold XV;simp(disch:=omega) only[B0,t41,t42];exact .ex ⟨rfl,rfl,by simp[D0,T.A9,t5,t7,t8,t9,t10,t11],wH,fH,hDv⟩
 rintro tm df H ⟨rfl,⟨t5,t7,t8,t9,t10,t11,-⟩,wH,fH,hDv⟩;have nH:=fH.A6;have bH:=fH.base;have zs:=PU f S5 n (Y6 k f.size) n;have zd:=eC f S5 n (Y6 k f.size) n;have fg3:=fg2 n;have hgl:=AFh (f:=f) (S5:=S5) (n:=n) (set:=Y6 k f.size);have kcv:=fun c hc=>by have h1:=lcv c hc;have h2:=(tcv c hc).1;exact fH.M5 c h2 (by omega)
 have hcvH:=hcv.K7 fun c _ hc=>kcv c hc;have tcvH:YB 5 H cv:=fun c hc=>⟨by have:=(tcv c hc).1;omega,by rw[Y9 (kcv c hc)];exact(tcv c hc).2⟩
 obtain⟨r,G,e6,rfl,hDG,wG,fLG⟩:=(hB H _ cv (n+2) J.A6 (Y6 k f.size) (tH n sv uv tv) wH hDv rfl (fg3.wt (by omega) (by rw[II,zs]) (Bj (HA _) _ _)) (fg3.dead _ (by omega)) (by rw[zs];exact hcvH) tcvH (by have:=fg3.I0 (n+2);omega)).get;rw[←hgl] at hDG;have fG:=fLG.lower fun x _ hx=>by omega
 have fHG:=fH.trans fG fun k hk e=>e;have nG:=fG.A6;have bG:=fG.base;obtain⟨dg,wg,eg,hg,bs⟩:=id hDG;have fg4:=fg2 (n+1);have zs2:=PU f S5 n (Y6 k f.size) (n+1);have zd2:=eC f S5 n (Y6 k f.size) (n+1);have zl2:=uJ f S5 n (Y6 k f.size) (n+1);have hnew:(gF f S5 n (Y6 k f.size) (n+1)).Lx n=CM f S5 n (Y6 k f.size) (Q5 f.size):=ADv;generalize gF f S5 n (Y6 k f.size) (n+1)=gt at *;have hlyG:=hly.fr hw (fh fHG);obtain⟨v2,K',K,e7,l7,s7,n7,⟨d2',w2',ev2',rfl,hf2⟩,wK,fK⟩:=drawn wG (fun _ _ n l ⟨dv,wv,ev,e,hf⟩=>⟨dv,wv,ev,e,hf.sb n l⟩) ((hF (B8 G G.A6 []) gt dg wg eg sv uv tv n a b c ⟨wG.sb [],hg.sb _ _,⟨hlyG.st.sb _ _,hlyG.un.sb _ _,hlyG.ta.sb _ _⟩,fg4.ok,by omega,by omega,fun s hs=>fg4.dead s hs,fun s=>by have:=fg4.I0 s;omega⟩).mono fun _ _ x=>x.p);have nK:=fK.A6;have bK:=fK.base;have js:(gt.Lx n).size=f.size:=by show gt.size=_;exact zs2
 have jl:(gt.Lx n).K4=f.K4:=by show gt.K4=_;exact zl2
 have ca:=hg.data.cell;have cb:=hg.I0.cell;have cc:=hg.dead.cell;have ca2:=hf2.data.cell;have cb2:=hf2.I0.cell;have cc2:=hf2.dead.cell;have hb2:=A2 fHG;have hb3:=A3 fHG;have bs':G.at J.A6=some (B6 [iN f.size,dg,wg,iN f.K4,eg,iN n,iN n,iN (n+1),iN (n+2),iN (n+3),sv,uv,tv,i0,i0,i0,i0,.bool false,i0,i0,B7,B7,B7,B7,.bool false,.bool false,.bool false,i0,i0,i0,i0,i0,i0,i0,i0,i0] 36 107 true):=by rw[bs];simp only[N9,zs2,zl2];rfl
 have hK5:K.at J4.A6=some (B6 [i0] 1 67 true):=by rw[fK.e _ (by omega)];exact A5 fHG
 have hK4:K.at (h.A6+1+1+1)=some (B6 Pv 36 54 true):=by rw[fK.e _ (by omega)];exact A4 fHG
 have hKs:=bs';rw[←fK.e _ (wG.lt bs)] at hKs;have e7':A7 36 [.agg ⟨[iN f.size,dg,wg,iN f.K4,eg]⟩,.agg ⟨[iN n,iN n,iN (n+1),iN (n+2),iN (n+3),sv,uv,tv]⟩,.agg ⟨[i0,i0,i0,i0,i0,i0,i0,iN 4,iN 4]⟩] (B8 G G.A6 [])=.val (.tuple ⟨[.agg ⟨[iN f.size,d2',w2',iN f.K4,ev2']⟩,i0]⟩) K':=by rw[←zs2,←zl2];exact e7
 have z7:∀c,K'.at c=K.at c:=fun c=>by rw[←s7];rfl
 have m5:comp xy 5 19=true:=rfl;unfold Pv at hK4;have hD2:=A2 fH;simp(disch:=first|omega|(simp only[C6]<;>omega)|exact⟨rfl,rfl,rfl⟩|assumption) only[↓CG,B0,reduceCtorEq,Nat.reduceAdd,Nat.reduceMul,Nat.reduceSub,Vh,t5,t7,t8,t9,t10,t11,hD2,e6,hb2,hb3,bs',e7',l7,s7,n7,m5,z7,hKs,hK5,hM,hK4];refine⟨.inr rfl,rfl,hcd _ _,?_⟩;simp(disch:=first|omega|(simp only[C6]<;>omega)) only[B0,t8,t9];have kK:Ky h K K.A6:=⟨wK,(fh fHG).trans fK fun _ _ h=>h,rfl⟩
 have kp:∀(o1 o3 o4:Option N2) (l:List A0),Ky h ((((K.put J.A6 o1).put J4.A6 (some (.row (C7 l 0 .nil fun t=>t) 1 67 true false))).put (h.A6+1+1+1) o3).put J4.A6 o4) K.A6∧DT ((((K.put J.A6 o1).put J4.A6 (some (.row (C7 l 0 .nil fun t=>t) 1 67 true false))).put (h.A6+1+1+1) o3).put J4.A6 o4) (gt.Lx n) d2' w2' ev2':=fun o1 o3 o4 l=>by refine⟨(((kK.put (by omega) (by omega) hw o1).put (by omega) (by omega) hw _).put (by omega) (by omega) hw o3).put (by omega) (by omega) hw o4,?_⟩;have x1:=hf2.put o1 (M6 hKs) rfl;have x2:=x1.put (b:=J4.A6) (some (.row (C7 l 0 .nil fun t=>t) 1 67 true false)) (M6 (by rw[E9 (by omega)];exact hK5)) rfl;have x3:=x2.put (b:=h.A6+1+1+1) o3 (M6 (by rw[E9 (by omega),E9 (by omega)];exact hK4)) rfl;exact x3.put o4 (e:=67) (by rw[Y9 (E9 (by omega))];exact M6 K0) rfl
 refine(fun hh=>⟨⟨d2',w2',ev2',?_,?_,hly.fr hw hh.1.fr⟩,hh.1.wf,hh.1.fr⟩) (kp _ _ _ _)
 ·rw[←hnew];simp only[Ci,N9,js,jl];rfl
 ·rw[←hnew];exact hh.2
theorem SQ.fr{h H:Hp}{f:FM}{dv wv ev sv uv tv:A0}{n a b c:Nat}{k:Ix}(q:SQ h f dv wv ev sv uv tv n a b c k)(hw:Wf H)(fr:Fr N5 h H):SQ H f dv wv ev sv uv tv n a b c k:=⟨q.jq.fr hw fr,q.gl.fr q.jq.wf fr,q.hs,q.st,q.AXq,q.AZV,q.ord,q.k3⟩
abbrev DRunningR(g:List A0→Hp→N3):Prop:=∀h f dv wv ev sv uv tv n a b c k,SQ h f dv wv ev sv uv tv n a b c k→1≤n→n≤3→C0 (g [.agg ⟨Ci f n dv wv ev sv uv tv true⟩] h) (fun r H=>∃iv xv,r=.tuple ⟨[.agg ⟨[iN 4,iv,iN 4,xv,B7]⟩,i0]⟩∧Sl 1 H iv (SC f n).length (M4 (SC f n))∧Ng H xv (N4 k)∧Wf H∧Fr N5 h H)
abbrev ze(A7:Call):Prop:=DRunningR (A7 12)
theorem A3V(hcd:lJ cd)(hD:aG A7)(hI:AEI A7)(hS:mC A7):DRunningR (G8 jI A7 cd):=by
 intro h f dv wv ev sv uv tv n a b c k q h1 h3;have hw:=q.jq.wf;have hwb:=hw.base;obtain⟨k1,k2,k3,k4,k5,k6⟩:=q.jq.ce;simp only[AEq];obtain⟨J,hJ,wJ,fJ,nJ,a1,a2,a3⟩:=PB hw (B6 (ZU f n dv wv ev sv uv tv true) 36 54 true) (B6 [i0,B7,i0,B7,B7] 5 59 true) (B6 [i0] 1 67 true);have bJ:=fJ.base;obtain⟨L,hL,wL,fL,nL,c1⟩:=J7 wJ (B6 (ZU f n dv wv ev sv uv tv true) 36 107 true);have fhL:=fJ.trans fL fun _ _ h=>h;have qL:=q.fr wL fhL;have e1:=hD L f dv wv ev sv uv tv n a b c J.A6 true qL.jq c1;obtain⟨iv,M,e2,⟨si,fi⟩,wM,fM⟩:=(hI L f dv wv ev sv uv tv n a b c J.A6 true qL.jq c1 h1 h3).get;have fhM:=fhL.trans fM fun _ _ h=>h;have nM:=fM.A6;have d1:M.at J.A6=some (B6 (ZU f n dv wv ev sv uv tv true) 36 107 true):=by rw[fM.e _ (by omega)];exact c1
 obtain⟨sr,R,e3,xv,rfl,sx,fx,wR,fR⟩:=(hS M f dv wv ev sv uv tv n a b c k J.A6 true (q.fr wM fhM) d1).get;have fhR:=fhM.trans fR fun _ _ h=>h;have nR:=fR.A6;have siR:=si.fr wM fR;have civ:=si.cell;have cxv:=sx.cell;have r2:R.at (h.A6+1)=some (B6 [i0,B7,i0,B7,B7] 5 59 true):=by rw[fR.e _ (by omega),fM.e _ (by omega),fL.e _ (by omega)];exact a2
 have r4:R.at (h.A6+1+1)=some (B6 [i0] 1 67 true):=by rw[fR.e _ (by omega),fM.e _ (by omega),fL.e _ (by omega)];exact a3
 have bR:=fhR.base;have kR:Ky h R R.A6:=⟨wR,fhR,rfl⟩
 have f7:JZ 7 [i0,i0,i0,i0,i0,i0,i0,iN 4,iN 4]=some (iN 4):=rfl;unfold ZU BT at *;refine Je (g:=29) (a:=[C2 (h.A6+1+1) 0]) rfl ?_;simp(disch:=first|omega|(simp only[C6]<;>omega)|exact⟨rfl,rfl,rfl⟩|assumption) only[B0,reduceCtorEq,Vh,AJK,ALG,AWD,f7,hJ,a1,hL,c1,e1,e2,e3,r2,r4];refine⟨.inr rfl,rfl,hcd _ _,?_⟩;simp(disch:=first|omega|(simp only[C6]<;>omega)) only[B0,reduceCtorEq];have kp:∀c o1 o2,L.A6≤c→((R.put (h.A6+1) o1).put (h.A6+1+1) o2).at c=R.at c:=fun c o1 o2 hc=>by rw[E9 (by omega),E9 (by omega)]
 refine⟨iv,xv,rfl,siR.K7 fun c _ hc=>kp c _ _ (fi c hc),sx.K7 fun c h0 hc=>kp c _ _ ?_,?_⟩
 ·have:=fx c (by rw[←O1 k];exact h0) hc;omega
 exact(fun k:Ky h _ R.A6=>⟨k.wf,k.fr⟩) ((kR.put (by omega) (by omega) hw _).put (by omega) (by omega) hw _)
def rh(f:FM)(nn fill j:Nat):List Nat:=(f.M5 j).set ((j+nn)%f.size) (Nat.land ((f.M5 j).getD ((j+nn)%f.size) 0) fill)
def A3m(f:FM)(nn fill:Nat):FM:={ f with data:=(List.range f.data.length).map (rh f nn fill) }
theorem pI(hs:s<f.data.length):f.data[s]?=some (f.M5 s):=by unfold FM.M5;grind
theorem AEJ(a b:Nat):Nat.land a b≤a:=Nat.and_le_left
theorem sL(f:FM)(nn fill:Nat):(A3m f nn fill).data.length=f.data.length:=by simp[A3m]
theorem AEg(hok:f.Ok){nn:Nat}(hj:j<f.data.length):(rh f nn fill j).length=f.size∧∀x∈rh f nn fill j,x<256:=by
 obtain⟨h1,h2⟩:=hok.row _ (s6 (pI hj));unfold rh;refine⟨by rw[Bu];exact h1,fun x hx=>?_⟩;rcases List.mem_or_eq_of_mem_set hx with h|rfl
 ·exact h2 x h
 · refine AAo (AEJ _ _) ?_;rw[lj];cases e:(f.M5 j)[(j+nn)%f.size]? with
   | none=>decide
   | some y=>exact h2 y (s6 e)
theorem AQv(g:FG f W)(nn fill:Nat):FG (A3m f nn fill) W:=by obtain⟨ok,AXq,dd,ww⟩:=g;obtain⟨o1,o2,o3,o4,o5,o6,o7,o8,o9,o10⟩:=id ok;have hl:=sL f nn fill;refine⟨⟨o1,o2,o3,o4,by rw[hl];exact o5,by rw[hl];exact o6,by rw[hl];exact o7,by rw[hl];exact o8,fun r hr=>?_,o10⟩,AXq,fun s hs=>dd s (by rw[hl] at hs;exact hs),ww⟩;obtain⟨j,hj,rfl⟩:=FY.1 hr;exact AEg ok (pR.1 hj)
theorem mr{n:Nat}(h:x∈Q5 n):x<256:=by
 unfold Q5 at h;rcases Gt.1 h with h|h
 ·exact(show ∀y∈[0,255,0,255,0,255,1,254]++T5,y<256 from by decide) x h
 grind
theorem FG.new{n:Nat}{S5 set:List Nat}(g:FG f (W+6))(hb:∀x∈S5,x<256)(hs:∀x∈set,x<256)(hl:set.length=f.size)(hn:n+2<f.data.length)(hn3:n≤3):FG (CM f S5 n set (Q5 f.size)) W:=by
 have g2:FG (Abs.gF f S5 n set (n+1)) (W+2):=FG.gF (g.less (by omega)) hb hs hl hn hn3;rw[←ADv];have z:=PU f S5 n set (n+1);have zl:=eC f S5 n set (n+1);have A4e:=g.A4e;unfold FM.Lx;refine FG.N6 (FG.N6 g2 (g2.wt (by omega) (by rw[FA (by omega)]) ?_)) ?_
 ·intro x hx;have:=mr hx;exact this
 ·refine⟨(FG.N6 g2 (g2.wt (by omega) (by rw[FA (by omega)]) fun x hx=>mr hx)).ok,by rw[FM.U3];omega,by rw[Ad];rfl,fun x hx=>by grind⟩
theorem ADr(S5:List Nat)(m z:Nat):AJ S5 0 ((m+1)*z)=AJ S5 0 (m*z)++AJ S5 m z:=by unfold AJ;rw[Mm,Nat.one_mul,List.range_add,A7y,List.map_map];simp
theorem AFc{f:FM}{S5:List Nat}{n:Nat}{set jc:List Nat}(hn:n+2<f.data.length):∀m,m≤n→((CM f S5 n set jc).data.take m).flatten=AJ S5 0 (m*f.size)
 | 0,_=>by rw[UM];rfl
 | m+1,h=>by
  have hl:(CM f S5 n set jc).data.length=f.data.length:=by unfold CM;rw[FM.U3,FM.U3,FM.U3,CA]
  have ha:=pI (f:=CM f S5 n set jc) (s:=m) (by omega);rw[lG hn,if_pos (by omega)] at ha;rw[AML ha,List.flatten_append,AFc hn m (by omega),ADr];simp
theorem APn{v:A0}{k:Nat}(hs:Sl 1 H v l.length (M4 l))(hc:MB v)(hk:k≤l.length)(h0:0<l.length):∃v',ACo v (iN k)=some v'∧Sl 1 H v' (l.take k).length (M4 (l.take k))∧MB v':=by
 have hlt:(l.take k).length=k:=by rw[FB];omega
 rw[hlt,←VP];rcases Br k with rfl|hk0
 · obtain⟨b,o,c,rfl,hh⟩:=hs.pos h0;rcases hc b o _ c rfl with⟨h1,h2⟩|⟨m,rfl,h1,h2⟩
   ·exact⟨_,by rw[PN (BB _) h2,if_neg (by omega)],⟨by simp,.inl ⟨rfl,.inr ⟨_,_,_,rfl⟩⟩⟩,.cl (BB _) h2⟩
   ·exact⟨_,A9s (BB _) (by omega),⟨by simp,.inl ⟨rfl,.inr ⟨_,_,_,rfl⟩⟩⟩,.op (BB _) h2⟩
 ·obtain⟨v',e1,s1,c1,_⟩:=YZ hs hc hk hk0;exact⟨v',e1,s1,c1⟩
abbrev AVr(A7:Call):Prop:=∀h v l m,Sl 1 h v l.length (M4 l)→MB v→m≤l.length→0<l.length→l.length≤5000→∃r,A7 7 [v,iN m] h=.val r h∧Sl 1 h r (l.take m).length (M4 (l.take m))∧MB r
theorem oQ{v:A0}(hs:Sl 1 h v l.length (M4 l))(hc:MB v)(hm:m≤l.length)(h0:0<l.length)(hl:l.length≤5000):C0 (G8 WA A7 cd [v,iN m] h) (fun r H=>H=h∧Sl 1 h r (l.take m).length (M4 (l.take m))∧MB r):=by
 have vl:=hs.len;obtain⟨v',e1,s1,c1⟩:=APn hs hc hm h0;refine B5 rfl ?_;rcases DX m l.length with h1|h1
 ·simp(disch:=omega) only[B0,reduceCtorEq,Vh,vl,e1];refine .ret ?_;trivial
 ·have:=TO h1;simp(disch:=omega) only[B0,reduceCtorEq,vl];refine .ret ?_;simp only[B0];grind
structure AXz(f:FM)(nn fill pd bF:Nat)(bs:Nat→Nat)(J:Hp)(j:Nat)(tm:T A0)(H:Hp):Prop where
 tm:D0 tm [(AL,.bool true),(Q0,.int .u16 (.ofNat nn)),(T1,bN fill),(Cj,C2 pd 0),(DZ,C2 bF 0),(MC,iN j)]
 wf:Wf H
 fr:Fr (fun k=>∃i,i<f.data.length∧k=bs i) J H
 rows:∀i,i<f.data.length→u0 5 H (bs i) (M4 (if i<j then rh f nn fill i else f.M5 i))
theorem AQ9(f:FM)(nn fill j:Nat):M4 (rh f nn fill j)=(M4 (f.M5 j)).set ((j+nn)%f.size) (bN (Nat.land ((f.M5 j).getD ((j+nn)%f.size) 0) fill)):=by unfold rh M4;rw[List.map_set]
theorem AZU{a b:Nat}(h:a≠b):Nat.beq a b=false:=by
 cases e:Nat.beq a b with
 | false=>rfl
 | true=>simp_all
theorem AT3{nn bF:Nat}{J:Hp}(hok:f.Ok)(hJ:J.at bF=some (B6 (N9 f (F8 bd 0 f.data.length (C4 1 f.data.length)) wv ev) 5 39 true))(hbd:u0 24 J bd ds)(hl:ds.length=f.data.length)(hds:∀i,i<f.data.length→ds[i]?=some (F8 (bs i) 0 f.size (C4 1 f.size)))(hne:∀i j,i<j→j<f.data.length→bs i≠bs j)(hcE:∀i,i<f.data.length→cE J (bs i)=5∧J.base≤bs i)(hwJ:Wf J)(hn:nn<65536)(hf:fill<256)(cw:Cell wv)(ce:Cell ev){tm:T A0}(h0:AXz f nn fill pd bF bs J 0 tm J):
 D9 (Dx (.loop VB) A7 tm [] J) (fun ex tm df H=>ex=.exit 0∧df=[]∧AXz f nn fill pd bF bs J f.data.length tm H):=by
 obtain⟨q1,q2,q3,q4,q5,q6,q7,q8,q9,q10⟩:=id hok;have nF:∀i,i<f.data.length→bs i≠bF:=fun i hi e=>by have:=(hcE i hi).1;rw[e,M6 hJ] at this;exact absurd this (by decide)
 have nD:∀i,i<f.data.length→bs i≠bd:=fun i hi e=>by have:=(hcE i hi).1;rw[e,hbd.cE] at this;exact absurd this (by decide)
 have ltF:=hwJ.lt hJ;have ltD:=hbd.lt hwJ;obtain⟨cd0,hatd,hcd⟩:=hbd;rw[hl] at hatd hcd;refine K6 (n:=f.data.length) (by omega) (AXz f nn fill pd bF bs J) h0 (fun i tm H hi hI=>?_) (fun tm H hI=>?_)
 · obtain⟨htm,wf,fr,rows⟩:=hI;simp only[D0] at htm;obtain⟨t7,t1,t2,t8,t9,t10,-⟩:=htm;have aF:=fr.M5 _ ltF fun⟨k,hk,e⟩=>nF k hk e.symm;have aD:=fr.M5 _ ltD fun⟨k,hk,e⟩=>nD k hk e.symm;have bH:=fr.base;have nH:=fr.A6;have ro:=rows i hi;have rlt:=ro.lt wf;rw[if_neg (by omega)] at ro;obtain⟨c,rat,hc⟩:=ro;have hsz:=(hok.row _ (s6 (pI hi))).1;have hby:=(hok.row _ (s6 (pI hi))).2;rw[O4,hsz] at rat hc;have hp:(i+nn)%f.size<f.size:=ZI _ (by omega);obtain⟨p,hpe⟩:∃p,(i+nn)%f.size=p:=⟨_,rfl⟩
   have hp':p<f.size:=by omega
   have hx:=G6 (show p<(f.M5 i).length by omega);have hxb:=hby _ (s6 hx);have gd:cd0.get (path (0+i))=some (F8 (bs i) 0 f.size (C4 1 f.size)):=by grind
   have gx:c.get (path (0+p))=some (bN ((f.M5 i).getD p 0)):=by rw[Ag,hc p (by omega)];exact Q1 hx
   have hld:Nat.land ((f.M5 i).getD p 0) fill<half .u8:=AAo (AEJ _ _) hxb;have m1:comp A9u 13 17=true:=rfl;have hbb:=(hcE i hi).2;have y1:=AZU (fun e=>nF i hi e.symm);have y2:=AZU (fun e=>nD i hi e.symm);unfold N9 at hJ;unfold VB;simp(disch:=first|omega|(simp only[C6]<;>omega)|assumption) only[B0,reduceCtorEq,Nat.reduceAdd,t1,t2,t9,t10,aF,aD,hJ,hatd,gd,rat,gx,hpe,Jo,m1,y1,y2];refine .go ⟨by simp[D0,T.A9,t7,t1,t2,t8,t9],wf.put rlt _,fr.O6 _ (fun _=>⟨i,hi,rfl⟩) (by omega),fun k hk=>?_⟩;by_cases e:k=i
   ·subst e;rw[if_pos (by omega),AQ9,hpe];have:=Ty (e:=5) (h:=H) (b:=bs k) (vs:=M4 (f.M5 k)) (fun q hq=>by rw[hc q (by rw[O4] at hq;omega)]) p (bN (Nat.land ((f.M5 k).getD p 0) fill)) (by rw[O4];omega);rw[O4,hsz] at this;grind
   · have:=rows k hk;rw[show(if k<i+1 then rh f nn fill k else f.M5 k)=if k<i then rh f nn fill k else f.M5 k from by
      by_cases h:k<i
      ·grind
      split<;>grind]
     refine this.K7 (E9 fun e2=>?_);grind
 ·obtain⟨htm,wf,fr,rows⟩:=hI;have htm':=htm;simp only[D0] at htm;obtain⟨t7,t1,t2,t8,t9,t10,-⟩:=htm;have aF:=fr.M5 _ ltF fun⟨k,hk,e⟩=>nF k hk e.symm;unfold N9 at hJ;unfold VB;simp(disch:=first|omega|(simp only[C6]<;>omega)) only[B0,t9,t10,aF,hJ];exact .ex ⟨rfl,rfl,by simp[D0,T.A9,t7,t1,t2,t8,t9,t10],wf,fr,rows⟩
def AXB(l:List Nat)(pd bb:Nat)(K:Hp)(j:Nat)(tm:T A0)(H:Hp):Prop:=∃v,D0 tm [(AL,.bool true),(Cj,C2 pd 0),([true,false,true,true],i0),([false,false,true,true],C2 bb 0),([true,true,false,true],i0),(AFn,v)]∧Bd 5 1 K N5 H v (l.length+j) (M4 (l++List.replicate j 255))
theorem ARU{bb:Nat}{K:Hp}{c:T A0}{E:TypeId}{bv:A0}{ws:List A0}(hw:Wf K)(hp:pd<K.A6)(hat:K.at pd=some (.row c 62 E true false))(h48:c.get (path 48)=some bv)(hb:Sl 1 K bv N ws)(hT:N≤5000)(hl:l.length≤N){tm:T A0}(h0:AXB l pd bb K 0 tm h):
 D9 (Dx (.loop VW) A7 tm [] h) (fun ex tm df H=>ex=.exit 2∧df=[]∧AXB l pd bb K (N-l.length) tm H):=by
 have hbl:=hb.len;refine K6 (n:=N-l.length) (by omega) (AXB l pd bb K) h0 (fun i tm H hi hI=>?_) (fun tm H hI=>?_)
 · obtain⟨v,⟨t7,t8,t17,t18,t19,t20,-⟩,bd⟩:=hI;have vl:=bd.sl.len;have aH:=bd.fr.M5 _ hp fun h=>h;have bH:=bd.fr.base;have hwb:=hw.base;have nH:=bd.fr.A6;obtain⟨v',H',e1,bd2⟩:=bd.one hw (bN 255) U6 (by omega);unfold VW;simp(disch:=first|omega|exact⟨rfl,rfl,rfl⟩|assumption) only[B0,t8,t20,vl,aH,hat,h48,hbl,e1];refine .go ⟨v',by simp[D0,T.A9,t7,t8,t17,t18,t19],?_⟩;rw[show M4 (l++List.replicate (i+1) 255)=M4 (l++List.replicate i 255)++[bN 255] from by
    rw[List.replicate_succ',←iX,Ih];rfl]
   exact bd2
 ·obtain⟨v,⟨t7,t8,t17,t18,t19,t20,-⟩,bd⟩:=hI;have vl:=bd.sl.len;have aH:=bd.fr.M5 _ hp fun h=>h;unfold VW;simp(disch:=omega) only[B0,t8,t20,vl,aH,hat,h48,hbl];exact .ex ⟨rfl,rfl,v,by simp[D0,T.A9,t7,t8,t17,t18,t19,t20],bd⟩
theorem AJi{nn:Nat}(hi:i<f.data.length):(A3m f nn fill).data[i]?=some (rh f nn fill i):=by unfold A3m;grind
theorem AVE{nn:Nat}{bw be:Nat}(hok:f.Ok)(wH:Wf H)(hbd:u0 24 H bd ds)(hl:ds.length=f.data.length)(hds:∀i,i<f.data.length→ds[i]?=some (F8 (bs i) 0 f.size (C4 1 f.size)))(hbw:u0 3 H bw (J8 f.I0))(hbe:u0 4 H be (AI3 f.dead))(rows:∀i,i<f.data.length→u0 5 H (bs i) (M4 (rh f nn fill i))):
 DT H (A3m f nn fill) (F8 bd 0 f.data.length (C4 1 f.data.length)) (F8 bw 0 f.I0.length (C4 1 f.I0.length)) (F8 be 0 f.dead.length (C4 1 f.dead.length)):=by
 obtain⟨q1,q2,q3,q4,q5,q6,q7,q8,q9,q10⟩:=id hok;have dl:=sL f nn fill;have sd:Sl 1 H (F8 bd 0 f.data.length (C4 1 f.data.length)) f.data.length ds:=Dw hbd hl (by omega);refine⟨⟨ds,by rw[dl];exact hl,by rw[dl];exact sd,fun i r hi=>?_⟩,Dw hbw (EJ _) (by show 0<f.I0.length;omega),Dw hbe (A27 _) (by show 0<f.dead.length;omega),.own hbd wH,.own hbw wH,.own hbe wH,?_,.op (M8 _) (by omega)⟩
 · have hlt:i<f.data.length:=by grind
   rw[AJi hlt] at hi;cases hi;have hz:=(AEg hok (nn:=nn) (fill:=fill) hlt).1;exact⟨_,hds i hlt,Dw (rows i hlt) (by rw[O4]) (by omega)|>fun x=>by rw[hz] at x ⊢;exact x⟩
 ·rw[dl];refine ALf sd fun u hu=>?_;obtain⟨j,hj⟩:=A1z hu;have hjl:=(Fe.1 hj).1;rw[hds j (by omega)] at hj;cases hj;exact⟨.own (rows j (by omega)) wH,.op (M8 _) (by omega)⟩
theorem AUU{l:List α}(h:l.length=11):∃a0 a1 a2 a3 a4 a5 a6 a7 a8 a9 a10,l=[a0,a1,a2,a3,a4,a5,a6,a7,a8,a9,a10]:=by
 match l,h with
 | [a0,a1,a2,a3,a4,a5,a6,a7,a8,a9,a10],_=>simp
theorem ARh{l:List α}(h:l.length=10):∃a0 a1 a2 a3 a4 a5 a6 a7 a8 a9,l=[a0,a1,a2,a3,a4,a5,a6,a7,a8,a9]:=by
 match l,h with
 | [a0,a1,a2,a3,a4,a5,a6,a7,a8,a9],_=>simp
abbrev AJd(A7:Call):Prop:=∀H,Wf H→AHQ H→lM H→16≤H.A6→A7 4 [] H=.val (.bool true) H
abbrev xm(A7:Call):Prop:=R25SBootR (A7 13)
theorem AS2{g:FM}{S5:List Nat}{n a b:Nat}{k:Ix}(hg:CM f S5 n (Y6 k f.size) (Q5 f.size)=g)(hw:Wf h)(fl:DT h g dv wv ev)(ok:g.Ok)(ly:TW h n a b c sv uv tv)(hn:n+2<f.data.length)(gf:lM h)(AXq:44≤f.size)(s3:f.size≤3000)(ord:GM k)(k3:k.length≤3):SQ h g dv wv ev sv uv tv n a b c k:=by
 have zs:g.size=f.size:=by rw[←hg];unfold CM;rw[FM.T8,FM.T8,FM.T8,DU]
 have zl:g.data.length=f.data.length:=by rw[←hg];unfold CM;rw[FM.U3,FM.U3,FM.U3,CA]
 refine⟨⟨hw,fl,ok,by omega,ly,by omega,?_,?_⟩,gf,by omega,?_,by omega,by omega,ord,k3⟩
 ·rw[zs,←hg,lG hn,if_neg (by omega),if_pos rfl]
 ·rw[zs,←hg,lG hn,if_neg (by omega),if_neg (by omega),if_pos rfl]
 ·rw[zs,←hg,lG hn,if_neg (by omega),if_neg (by omega),if_neg (by omega),if_pos rfl]
theorem ATd.fr{h H:Hp}{f:FM}{dv wv ev sv uv tv bv pv:A0}{n a b c:Nat}{S5:List Nat}{k:Ix}(q:ATd h f dv wv ev sv uv tv bv pv n a b c S5 k)(hw:Wf H)(fr:Fr N5 h H):ATd H f dv wv ev sv uv tv bv pv n a b c S5 k:=⟨hw,q.fl.fr q.wf fr,q.ly.fr q.wf fr,q.lo,q.fg,q.im.fr q.wf fr,q.il,q.ib,q.set.fr q.wf fr,q.ord,q.k3,q.sz⟩
theorem AP6(hS:AJd A7)(hM:A5W A7)(hC:A36 A7)(hL:AVr A7)(hN:AQP A7)(hR:AJY A7)(hE:qG A7)(hT:AG2 A7)(hU:ze A7)(hB:xm A7){x:GN}{lv ov rv rk xv:A0}{nn:Nat}(q:ANK h x lv ov rv rk xv)(gb:AHQ h)(gf:lM h)(h16:16≤h.A6)(hnn:nn<65536)(hfi:fill<256):
 C0 (G8 ALS A7 cd [.agg ⟨dS x lv ov rv rk xv⟩,.int .u16 (.ofNat nn),bN fill] h) (fun r H=>r=.bool true∧H.log=h.log):=by
 have hw:=q.wf;have hwb:=hw.base;have clv:=q.l.cell;have cov:=q.o.cell;have crv:=q.v.cell;have cxv:=q.r.cell;have crk:=q.rk;have pob:=q.ob;obtain⟨z,hz⟩:∃z,x.z=z:=⟨_,rfl⟩
 obtain⟨n,hn⟩:∃n,x.n=n:=⟨_,rfl⟩
 obtain⟨a,ha⟩:∃a,x.a=a:=⟨_,rfl⟩
 have z1:180≤z:=by rw[←hz];unfold GN.z;omega
 have z2:z≤215:=by rw[←hz];unfold GN.z;omega
 have n1:1≤n:=by rw[←hn];unfold GN.n;omega
 have n2:n≤3:=by rw[←hn];unfold GN.n;omega
 have a1:1≤a:=by rw[←ha];unfold GN.a;omega
 have a2:a≤2:=by rw[←ha];unfold GN.a;omega
 have m1:1*z≤n*z:=BY _ n1;have m2:n*z≤3*z:=BY _ n2;obtain⟨ko,kl⟩:=fa (x.v.take 3);have kl3:(AG (x.v.take 3)).length≤3:=by simp_all;omega
 have imgb:∀y∈Vr x.o (n*z),y<256:=A8p pob _;have va':=q.va;obtain⟨J,hJ,wJ,fJ,nJ,g1⟩:=J7 hw (B6 (dS x lv ov rv rk xv) 10 33 true);have eS:=hS J wJ (gb.fr hw fJ) (gf.fr hw fJ) (by omega);obtain⟨r1,H1,e1,⟨b,c,dv,wv,ev,sv,uv,tv,bv,pv,pk,more,rfl,lp,lm,cp,cm,b16,c3,fl1,ly1,sb1,cb,AUM⟩,w1,f1⟩:=(hM J x lv ov rv rk xv { q with wf:=wJ,l:=q.l.fr hw fJ,o:=q.o.fr hw fJ,v:=q.v.fr hw fJ,r:=q.r.fr hw fJ }).get;obtain⟨p0,p1,p2,p3,p4,p5,p6,p7,p8,p9,p10,rfl⟩:=AUU lp;obtain⟨o0,o1,o2,o3,o4,o5,o6,o7,o8,o9,rfl⟩:=ARh lm;simp only[m8,Lg,or_false,forall_eq_or_imp,forall_eq] at cp cm;obtain⟨cp0,cp1,cp2,cp3,cp4,cp5,cp6,cp7,cp8,cp9,cp10⟩:=cp;obtain⟨cm0,cm1,cm2,cm3,cm4,cm5,cm6,cm7,cm8,cm9⟩:=cm;have hI:x.S5=Vr x.o (n*z):=by unfold GN.S5;rw[hz,hn]
 obtain⟨S5,him⟩:∃S5,Vr x.o (n*z)=S5:=⟨_,rfl⟩
 have lI:S5.length=n*z:=by rw[←him];exact A44 _ _
 rw[him] at hI imgb;obtain⟨k,hk⟩:∃k,x.k=k:=⟨_,rfl⟩
 have ko:GM k:=by rw[←hk];exact ko
 have kl3:k.length≤3:=by rw[←hk];exact kl3
 rw[hz,hn,ha,hI,hk] at e1 fl1;rw[hn,ha] at ly1;rw[hI,lI] at sb1;rw[hk] at AUM;have bN':(X2 z (n+4+a+b+c) 100000).data.length=n+4+a+b+c:=Ad;have gF0:FG (CM (X2 z (n+4+a+b+c) 100000) S5 n (Y6 k z) (Q5 z)) 8:=FG.new (A4B (by omega) (by omega) (by omega) (by omega) (by omega)) imgb (Bj (HA _) _ _) (II _ _) (by rw[bN'];omega) n2;obtain⟨F,hF⟩:∃F,CM (X2 z (n+4+a+b+c) 100000) S5 n (Y6 k z) (Q5 z)=F:=⟨_,rfl⟩
 have Fs:F.size=z:=by rw[←hF];unfold CM;rw[FM.T8,FM.T8,FM.T8,DU];rfl
 have Fl:F.K4=100000:=by rw[←hF];unfold CM;rw[FM.U1,FM.U1,FM.U1,HY];rfl
 have FN:F.data.length=n+4+a+b+c:=by rw[←hF];unfold CM;rw[FM.U3,FM.U3,FM.U3,CA,bN']
 rw[hF] at e1 fl1 gF0;have okF:=gF0.ok;have hdv:Ci F n dv wv ev sv uv tv false=[iN z,dv,wv,iN 100000,ev,iN n,iN n,iN (n+1),iN (n+2),iN (n+3),sv,uv,tv,i0,i0,i0,i0,.bool false,i0,i0,B7,B7,B7,B7,.bool false,.bool false,.bool false,i0,i0,i0,i0,i0,i0,i0,i0,i0]:=by simp only[Ci,N9,Fs,Fl];rfl
 rw[hdv] at e1;simp only[EB,BS] at e1;have cdv:=fl1.data.cell;have cwv:=fl1.I0.cell;have cev:=fl1.dead.cell;have csv:=ly1.st.cell;have cuv:=ly1.un.cell;have ctv:=ly1.ta.cell;have cbv:=sb1.cell;have cpv:=AUM.cell;have nb1:=f1.A6;obtain⟨P1,hP1,u1,d1,k1,c1⟩:=O5 w1 A7V [iN z,dv,wv,iN 100000,ev,iN n,iN n,iN (n+1),iN (n+2),iN (n+3),sv,uv,tv,i0,i0,i0,i0,.bool false,i0,i0,B7,B7,B7,B7,.bool false,.bool false,.bool false,i0,i0,i0,i0,i0,i0,i0,i0,i0,p0,p1,p2,p3,p4,p5,p6,p7,p8,p9,p10,iN 4,bv,iN 4,pv,B7,o0,o1,o2,o3,o4,o5,o6,o7,o8,o9] 62 63;obtain⟨r2,H2,e2,⟨bd,bw,be,ds,rfl,ob,⟨dl,bs,hbs⟩,ow,oe,lo1,lo2,lo3⟩,w2,f2⟩:=(hC P1 F dv wv ev u1 (fl1.fr w1 d1) okF).get;have nb2:=f2.A6;obtain⟨P2,hP2,u2,d2,k2,c2⟩:=O5 w2 Vy (N9 F (F8 bd 0 F.data.length (C4 1 F.data.length)) (F8 bw 0 F.I0.length (C4 1 F.I0.length)) (F8 be 0 F.dead.length (C4 1 F.dead.length))) 5 39;have hfc:N9 F dv wv ev=[iN z,dv,wv,iN 100000,ev]:=by unfold N9;rw[Fs,Fl]
 rw[hfc] at e2;have D1:=(fJ.trans f1 fun _ _ h=>h).trans d1 fun _ _ h=>h;have D2:=(D1.trans f2 fun _ _ h=>h).trans d2 fun _ _ h=>h;have d12:=f2.trans d2 fun _ _ h=>h;have c1_2:P2.at H1.A6=P1.at H1.A6:=d12.e _ (by omega);have bP2:=D2.base;unfold N9 at hP2 e2;unfold dS at hJ g1 e1 ⊢;unfold A7V Pv at hP1;unfold Vy at hP2;simp only[EB,BS] at hP1;refine B5 rfl ?_;simp(disch:=first|omega|(simp only[C6]<;>omega)|exact⟨rfl,rfl,rfl⟩|assumption) only[↓CG,B0,reduceCtorEq,Nat.reduceAdd,Nat.reduceMul,Nat.reduceSub,ASY,hJ,g1,eS,e1,hP1,c1,e2,hP2];have bs1:∀i,i<F.data.length→∃r,F.data[i]?=some r∧r.length=F.size∧ds[i]?=some (F8 (bs i) 0 F.size (C4 1 F.size))∧u0 5 H2 (bs i) (M4 r)∧P1.A6≤bs i∧∀j,j<i→bs j<bs i:=fun i hi=>by have hg:=X0 hi;obtain⟨y1,y2,y3,y4,y5⟩:=hbs i _ hg;have hz1:=(okF.row _ (s6 hg)).1;rw[hz1] at y1;exact⟨_,hg,hz1,y1,y2,y4,y5⟩
 have bslt:∀i,i<F.data.length→bs i<H2.A6:=fun i hi=>by obtain⟨r,_,_,_,y,_⟩:=bs1 i hi;exact y.lt w2
 refine D9.lp (P:=fun tm df H=>df=[]∧AXz F nn fill H1.A6 H2.A6 bs P2 F.data.length tm H) ?_ ?_
 · refine(AT3 okF c2 (ob.K7 (d2.e _ (ob.lt w2))) dl (fun i hi=>?_) (fun i j hij hj=>?_) (fun i hi=>?_) u2 hnn hfi VO VO ?_).mono fun ex tm df H x=>⟨x.1,x.2⟩
   ·obtain⟨r,y1,y2,y3,y4,y5,y6⟩:=bs1 i hi;exact y3
   ·obtain⟨r,y1,y2,y3,y4,y5,y6⟩:=bs1 j hj;have:=y6 i hij;omega
   ·obtain⟨r,y1,y2,y3,y4,y5,y6⟩:=bs1 i hi;have y7:=bslt i hi;have y8:=u1.base;have y9:=D1.base;exact⟨(Y9 (d2.e _ y7)).trans y4.cE,by omega⟩
   · refine⟨by simp[D0,T.A9,Nj,Pa],u2,Fr.refl _ _,fun i hi=>?_⟩;obtain⟨r,y1,y2,y3,y4,y5,y6⟩:=bs1 i hi;rw[if_neg (by omega)];have:F.M5 i=r:=by
      have:=pI hi;rw[y1] at this;exact(Option.some.inj this).symm
     rw[this];exact y4.K7 (d2.e _ (bslt i hi))
 rintro tm df H3 ⟨rfl,⟨t7,t1,t2,t8,t9,t10,-⟩,w3,f3,rows⟩;have f13:=d12.trans (P:=N5) f3 fun j hj ⟨i,hi,e⟩=>by obtain⟨r,y1,y2,y3,y4,y5,y6⟩:=bs1 i hi;omega
 have keep3:∀(E:TypeId) (b:Nat) (vs:List A0),E≠5→u0 E H2 b vs→u0 E H3 b vs:=fun E b vs hE o=>by have o2:=o.K7 (d2.e _ (o.lt w2));refine o2.K7 (f3.M5 _ (o2.lt u2) fun⟨i,hi,e⟩=>?_);obtain⟨r,y1,y2,y3,y4,y5,y6⟩:=bs1 i hi;have z1:=y4.cE;rw[←e,o.cE] at z1;exact hE z1
 have fl3:=AVE (nn:=nn) (fill:=fill) okF w3 (keep3 _ _ _ (by decide) ob) dl (fun i hi=>by
  obtain⟨r,y1,y2,y3,y4,y5,y6⟩:=bs1 i hi;exact y3) (keep3 _ _ _ (by decide) ow) (keep3 _ _ _ (by decide) oe) (fun i hi=>by
  have:=rows i hi;rw[if_pos hi] at this;exact this)
 have gG:=AQv gF0 nn fill;have Gl:=sL F nn fill;have Gs:(A3m F nn fill).size=z:=Fs;have Gm:(A3m F nn fill).K4=100000:=Fl;obtain⟨G,hG⟩:∃G,A3m F nn fill=G:=⟨_,rfl⟩
 rw[hG] at fl3 gG Gl Gs Gm;have c2_3:H3.at H2.A6=P2.at H2.A6:=f3.M5 _ (by omega) fun⟨i,hi,e⟩=>by have:=bslt i hi;omega
 have c1_3:H3.at H1.A6=P1.at H1.A6:=f13.e _ (by omega);unfold N9 at c2;rw[Fs,Fl] at c2;generalize hv1:F8 bd 0 F.data.length (C4 1 F.data.length)=dv3 at *;generalize hv2:F8 bw 0 F.I0.length (C4 1 F.I0.length)=AFK at *;generalize hv3:F8 be 0 F.dead.length (C4 1 F.dead.length)=ev3 at *;have cdv3:=fl3.data.cell;have cwv3:=fl3.I0.cell;have cev3:=fl3.dead.cell;have n3:=f3.A6;have D13:=D1.trans f13 fun _ _ h=>h;have ly3:=(ly1.fr w1 d1).fr u1 f13;have sb3:=(sb1.fr w1 d1).fr u1 f13;have sp3:=(AUM.fr w1 d1).fr u1 f13;obtain⟨m,hm⟩:∃m,nn%(n*z+1)=m:=⟨_,rfl⟩
 have hm1:m≤n*z:=by have:=ZI nn (show n*z+1>0 by omega);omega
 have sb3':Sl 1 H3 bv S5.length (M4 S5):=by rw[lI];exact sb3
 obtain⟨lim,e4,sl4,cl4⟩:=hL (B8 H3 H3.A6 []) bv S5 m sb3' cb (by omega) (by omega) (by omega);have sl4:Sl 1 H3 lim (S5.take m).length (M4 (S5.take m)):=sl4;have clim:=sl4.cell;have bvl:=sb3.len;have lT:(S5.take m).length=m:=by rw[FB];omega
 have b3:=D13.base;obtain⟨l,hl⟩:∃l,S5.take m=l:=⟨_,rfl⟩
 rw[hl] at sl4 lT;have lb:∀y∈l,y<256:=fun y hy=>imgb y (by rw[←hl] at hy;exact ABr hy);have nq3:ATd H3 G dv3 AFK ev3 sv uv tv lim pv n a b c l k:=⟨w3,fl3,ly3,⟨n1,n2,a1,a2,by omega,c3,by omega⟩,gG,sl4,by rw[Gs];omega,lb,sp3,ko,kl3,by omega⟩
 have hf3:N9 G dv3 AFK ev3=[iN z,dv3,AFK,iN 100000,ev3]:=by unfold N9;rw[Gs,Gm]
 have gG5:FG (CM G l n (Y6 k G.size) (Q5 G.size)) 2:=FG.new gG lb (Bj (HA _) _ _) (II _ _) (by omega) n2;obtain⟨G5,hG5⟩:∃G5,CM G l n (Y6 k G.size) (Q5 G.size)=G5:=⟨_,rfl⟩
 have G5s:G5.size=z:=by rw[←hG5];unfold CM;rw[FM.T8,FM.T8,FM.T8,DU];exact Gs
 have G5l:G5.K4=100000:=by rw[←hG5];unfold CM;rw[FM.U1,FM.U1,FM.U1,HY];exact Gm
 have hdv5:∀dv wv ev up,Ci G5 n dv wv ev sv uv tv up=[iN z,dv,wv,iN 100000,ev,iN n,iN n,iN (n+1),iN (n+2),iN (n+3),sv,uv,tv,i0,i0,i0,i0,.bool false,i0,i0,B7,B7,B7,B7,.bool false,.bool up,.bool false,i0,i0,i0,i0,i0,i0,i0,i0,i0]:=fun dv wv ev up=>by simp only[Ci,N9,G5s,G5l];rfl
 obtain⟨r5,H5,e5,⟨dv5,wv5,ev5,rfl,fl5,ly5⟩,w5,f5⟩:=(hN H3 G dv3 AFK ev3 sv uv tv lim pv n a b c l k nq3 cl4).get;have nb5:=f5.A6;rw[hG5] at e5 fl5 gG5;rw[hdv5,hf3] at e5;have cdv5:=fl5.data.cell;have cwv5:=fl5.I0.cell;have cev5:=fl5.dead.cell;obtain⟨P5,hP5,u5,d5,k5,c5⟩:=O5 w5 Pv [iN z,dv5,wv5,iN 100000,ev5,iN n,iN n,iN (n+1),iN (n+2),iN (n+3),sv,uv,tv,i0,i0,i0,i0,.bool false,i0,i0,B7,B7,B7,B7,.bool false,.bool false,.bool false,i0,i0,i0,i0,i0,i0,i0,i0,i0] 36 54;have d35:=f5.trans d5 fun _ _ h=>h;have nq5:=nq3.fr u5 d35;obtain⟨r6,H6,e6,⟨dv6,wv6,ev6,rfl,fl6,ly6⟩,w6,f6⟩:=(hR P5 G dv3 AFK ev3 sv uv tv lim pv n a b c l k nq5).get;have nb6:=f6.A6;rw[hG5] at e6 fl6;rw[hdv5,hf3] at e6;have cdv6:=fl6.data.cell;have cwv6:=fl6.I0.cell;have cev6:=fl6.dead.cell;obtain⟨P6,hP6,u6,d6,k6,c6⟩:=O5 w6 Pv [iN z,dv6,wv6,iN 100000,ev6,iN n,iN n,iN (n+1),iN (n+2),iN (n+3),sv,uv,tv,i0,i0,i0,i0,.bool false,i0,i0,B7,B7,B7,B7,.bool false,.bool false,.bool false,i0,i0,i0,i0,i0,i0,i0,i0,i0] 36 54;have d56:=f6.trans d6 fun _ _ h=>h;have fl5':=(fl5.fr w5 d5).fr u5 d56;have fl6':=fl6.fr w6 d6;have ly5':=(ly5.fr w5 d5).fr u5 d56;have e7:=hE P6 G5 dv5 wv5 ev5 dv6 wv6 ev6 sv uv tv sv uv tv n a b c u6 fl5' fl6' gG5.ok ly5' ly5' (by omega) (by omega) (by omega);rw[hdv5,hdv5] at e7;have c1_5:P5.at H1.A6=P1.at H1.A6:=by rw[d35.e _ (by omega)];exact c1_3
 have c2_5:P5.at H2.A6=P2.at H2.A6:=by rw[d35.e _ (by omega)];exact c2_3
 have c5_6:P6.at H5.A6=P5.at H5.A6:=d56.e _ (by omega);have c1_6:P6.at H1.A6=P1.at H1.A6:=by rw[d56.e _ (by omega)];exact c1_5
 have D16:=(D13.trans d35 fun _ _ h=>h).trans d56 fun _ _ h=>h;have sq6:=AS2 hG5 u6 fl5' gG5.ok ly5' (by omega) (gf.fr hw D16) (by omega) (by omega) ko kl3;obtain⟨r8,H8,e8,rfl,w8,f8⟩:=(hT P6 G5 dv5 wv5 ev5 sv uv tv n a b c sq6.jq (gb.fr hw D16)).get;have nb8:=f8.A6;rw[hdv5,hdv5] at e8;obtain⟨P8,hP8,u8,d8,k8,c8⟩:=O5 w8 Pv [iN z,dv5,wv5,iN 100000,ev5,iN n,iN n,iN (n+1),iN (n+2),iN (n+3),sv,uv,tv,i0,i0,i0,i0,.bool false,i0,i0,B7,B7,B7,B7,.bool false,.bool true,.bool false,i0,i0,i0,i0,i0,i0,i0,i0,i0] 36 54;have d68:=f8.trans d8 fun _ _ h=>h;obtain⟨r9,H9,e9,⟨iv,yv,rfl,sl9,sp9,w9,f9⟩⟩:=(hU P8 G5 dv5 wv5 ev5 sv uv tv n a b c k (sq6.fr u8 d68) n1 n2).get;have nb9:=f9.A6;rw[hdv5] at e9;have civ:=sl9.cell;have cyv:=sp9.cell;obtain⟨P9,hP9,u9,d9,k9,c9⟩:=O5 w9 [i0,B7,i0,B7,B7] [iN 4,iv,iN 4,yv,B7] 5 59;have d89:=f9.trans d9 fun _ _ h=>h;have d69:=d68.trans d89 fun _ _ h=>h;have d39:=(d35.trans d56 fun _ _ h=>h).trans d69 fun _ _ h=>h;have D19:=D13.trans d39 fun _ _ h=>h;obtain⟨Q,hQ,wQ,fQ,nQ,cQ⟩:=J7 u9 (B6 [] 0 5 true);obtain⟨av,H11,e11,bd11,n11,k11⟩:=(Bd.OX (e:=5) (b:=P9.A6) wQ fQ).any u9 (sl4.fr w3 (d39.trans fQ fun _ _ h=>h)) (Kw _) (by omega);have cav:=bd11.cell;have b11:=bd11.fr.base;have b9:=D19.base;have c1_9:P9.at H1.A6=P1.at H1.A6:=by rw[d39.e _ (by omega)];exact c1_3
 have x1:comp A9p 2 11=true:=rfl;have bP5:=d35.base;have bP6:=d56.base;have bP8:=d68.base;have bP9:=d89.base;unfold Pv at hP5 hP6 hP8;unfold AX at e5 e6;simp(disch:=first|omega|(simp only[C6]<;>omega)|exact⟨rfl,rfl,rfl⟩|assumption) only[↓CG,B0,reduceCtorEq,Nat.reduceAdd,Nat.reduceMul,Nat.reduceSub,t7,t1,t2,t8,t9,t10,ASY,c1_3,c1,hm,e4,bvl,c2_3,c2,e5,hP5,c1_5,c2_5,e6,hP6,c5_6,c5,c6,e7,e8,hP8,c8,e9,hP9,hQ,e11];refine D9.lp (P:=fun tm df H=>df=[]∧AXB l H1.A6 H9.A6 P9 (n*z-l.length) tm H) ?_ ?_
 · refine(ARU u9 (by omega) (c1_9.trans c1) rfl ((sb3.fr w3 d39)) (by omega) (by omega) ⟨av,by simp[D0,T.A9,t7,t8],?_⟩).mono fun ex tm df H x=>⟨x.1,x.2⟩
   rw[List.replicate_zero,rr,A9i];rw[Ag,BS] at bd11;exact bd11
 rintro tm df H12 ⟨rfl,v,⟨s7,s8,s17,s18,s19,s20,-⟩,bd⟩;have c1_12:=(bd.fr.M5 _ (by omega) fun h=>h).trans c1_9;have c9_12:H12.at H9.A6=P9.at H9.A6:=bd.fr.M5 _ (by omega) fun h=>h;have hgi:SC G5 n=l++List.replicate (n*z-l.length) 255:=by unfold SC;rw[←hG5,AFc (by omega) n (M8 _),Gs,xr (by omega)]
 have hgl:(SC G5 n).length=l.length+(n*z-l.length):=by rw[hgi,Bz,Ad]
 have sa:Sl 1 H12 v (SC G5 n).length (M4 (SC G5 n)):=by rw[hgl,hgi];exact bd.sl
 have cv:=bd.cell;obtain⟨r13,H13,e13,rfl,l13⟩:=(hB H12 yv pv iv v (SC G5 n) (N4 k) bd.wf ((sl9.fr w9 d9).fr u9 bd.fr) sa (fun y hy=>by
  rw[hgi] at hy;rcases Gt.1 hy with h|h
  ·exact lb y h
  ·rw[(A5B.1 h).2];omega) (by omega) ((sp9.fr w9 d9).fr u9 bd.fr) ((sp3.fr w3 d39).fr u9 bd.fr) (by rw[O1];omega)).get
 have b12:=bd.fr.base;simp(disch:=first|omega|(simp only[C6]<;>omega)|exact⟨rfl,rfl,rfl⟩|assumption) only[↓CG,B0,reduceCtorEq,Nat.reduceAdd,Nat.reduceMul,Nat.reduceSub,s7,s8,s17,s18,s19,s20,c1_12,c1,c9_12,c9,e13];refine .ret ?_;simp only[B0];exact l13.trans (bd.fr.log.trans D19.log)
theorem BZ{v:A0}(hy:C0 r (VI v h)):r=.val v h:=by obtain⟨v',H,e,rfl,rfl⟩:=hy.get;exact e
theorem A8J{f:α→A0}(hy:C0 r (fun v H=>∃x,VI (f x) h v H)):∃x,r=.val (f x) h:=by obtain⟨v',H,e,x,rfl,rfl⟩:=hy.get;exact⟨x,e⟩
theorem A7u{f:α→A0}(hy:C0 r (fun v H=>∃x,QR (f x) (B8 h h.A6 []) v H))(ho:∀x,Og h.A6 (f x)=true):∃x,TJ r h=.val (f x) h:=by obtain⟨v',H,e,x,rfl,hl⟩:=hy.get;subst e;refine⟨x,?_⟩;show(bif Og h.A6 (f x) then(match H.log with|[]=>N3.val (f x) h|_=>.none) else .none)=_;rw[ho,hl];rfl
theorem AXp{p:α→Prop}{f:α→A0}(hy:C0 r (fun v H=>∃x,p x∧QR (f x) (B8 h h.A6 []) v H))(ho:∀x,Og h.A6 (f x)=true):∃x,p x∧TJ r h=.val (f x) h:=by obtain⟨v',H,e,x,hp,rfl,hl⟩:=hy.get;subst e;refine⟨x,hp,?_⟩;show(bif Og h.A6 (f x) then(match H.log with|[]=>N3.val (f x) h|_=>.none) else .none)=_;rw[ho,hl];rfl
theorem TW.sb{n a b:Nat}(x:TW H n a b c sv uv tv)(k:Nat)(l:List Nat):TW (B8 H k l) n a b c sv uv tv:=⟨x.st,x.un,x.ta⟩
abbrev A7m(A7:Call):Prop:=∀H w,A7 185 [B7,w] H=.val (.int .i64 (.negSucc 0)) H
theorem ASI(hy:C0 r (AZc N (B8 h h.A6 []))):∃s u x1 x2 x3 e:Nat,(s≤N∧u≤16)∧TJ r h=.val (.tuple ⟨[.agg ⟨[iN s,iN u,iN x1,iN x2,iN x3]⟩,iN e]⟩) h:=by obtain⟨v',H,e,s,u,x1,x2,x3,k,hp,rfl,hl⟩:=hy.get;subst e;refine⟨s,u,x1,x2,x3,k,hp,?_⟩;show(bif Og h.A6 (.tuple ⟨[.agg ⟨[iN s,iN u,iN x1,iN x2,iN x3]⟩,iN k]⟩) then(match H.log with|[]=>N3.val (.tuple ⟨[.agg ⟨[iN s,iN u,iN x1,iN x2,iN x3]⟩,iN k]⟩) h|_=>.none) else .none)=_;rw[hl];rfl
theorem ATR{v:A0}(hw:Wf h)(hs:Sl 1 h v (tx.length+m) (M4 (tx++List.replicate m 255)))(ok:AKR tx)(hy:C0 r (fun r H=>ASL (B8 h h.A6 []) v tx r∧H.log=[])):∃x,ASL h v tx x∧TJ r h=.val x h:=by obtain⟨n5,n1,_⟩:=id ok;obtain⟨x,H,e,⟨p1,p2,p3⟩,hl⟩:=hy.get;have p1':Sl 1 h x tx.length (M4 tx):=p1;refine⟨x,⟨p1',p2,p3⟩,?_⟩;subst e;obtain⟨b,o,c,rfl,_⟩:=p1'.pos (by omega);have hb:=hs.lt hw (by omega) (p3 b ⟨_,_,_,rfl⟩);show(bif Nat.blt b h.A6 then(match H.log with|[]=>N3.val _ h|_=>.none) else .none)=_;rw[hl,BW hb];rfl
abbrev AN1(A7:Call):Prop:=∀H,A7 192 [.slice .none 0 0] H=.val (.slice .none 0 0) H
abbrev AKi(A7:Call):Prop:=∀H n,n<100000→A7 273 [uN 1,uN n] H=.val (.tuple ⟨[uN 0,uN n]⟩) H
def PK:List Nat:=[291,292,191,126,74,200,182,370,323,267,183,91,92,32,95,87,30,99,276,278,207,115,46,47,108,109,249,150,66,166,205,43,151,252,67,72,73,22,114,164,160,159,78,104,38,165,79,105,50,102,44,45,10,117,277]
def Mn:List Nat:=[4,189,214,215,281,210,485,216,188,89]
structure AVm(ov:FuncId→List A0→Hp→Option N3):Prop where
 none_:∀g args H,Mn.any (Nat.beq g)=false→ov g args H=none
 AVN:∀H,AHQ H→lM H→16≤H.A6→ov 4 [] H=some (.val (.bool true) H)
 join:∀h b vs s,ALN vs s→h.at b=some (B6 vs vs.length 9 true)→ov 188 [F8 b 0 vs.length vs.length,.string (O2 [32])] h=some (.val (.string (O2 s)) h)
 cut:∀H l a b f,AVT l a b f→ov 216 [.string (O2 l),.string (O2 [32])] H=some (.val (.tuple ⟨[.string (O2 a),.string (O2 b),.bool f]⟩) H)
 AXd:∀H,ov 189 [iN 4] H=some (.val (.string (O2 [52])) H)
 AWM:∀H,ov 214 [nU,yl] H=some (.val (.tuple ⟨[.string (O2 [52]),.bool true]⟩) H)
 AWd:∀H,ov 215 [.string (O2 [52])] H=some (.val (.tuple ⟨[iN 4,.nilIface]⟩) H)
 AVv:∀H,ov 281 [A2a,rI 65533] H=some (.val (.bool true) H)
 AXm:∀H,ov 281 [A2a,rI 10] H=some (.val (.bool false) H)
 AQQ:∀H,ov 210 [A2a] H=some (.val (.tuple ⟨[.agg ⟨Tv 256 (.bool false)⟩,.bool false]⟩) H)
 ARD:∀H,ov 485 [.agg ⟨BT⟩] H=some (.val (.tuple ⟨[.agg ⟨BT⟩,.bool true]⟩) H)
 sort:∀h bk n m,u0 3 h bk (J8 (l8 n m))→1≤n→n≤3→5≤m→m≤29→ov 89 [F8 bk 0 m (C4 1 m)] h=some (.val (.tuple ⟨[]⟩) h)
section
noncomputable abbrev yC (ov:FuncId→List A0→Hp→Option N3) (k:Nat):Call:=JW Proofs.Tryz.prog Ap ov PK k
noncomputable abbrev yD (ov:FuncId→List A0→Hp→Option N3) (k:Nat):C9:=fun g=>Xu (ACH Proofs.Tryz.prog Ap g) (yC ov k)
variable {ov:FuncId→List A0→Hp→Option N3} (hov:AVm ov)
theorem AJu{n:Nat}{g:FuncId}(h:ov g args H=some r):yC ov (n+1) g args H=r:=by show Option.rec (motive:=fun _=>N3) _ (fun r=>r) (ov g args H)=_;rw[h]
theorem HQ{n:Nat}{g:FuncId}{c:CF}(hov:AVm ov)(hc:cF Proofs.Tryz.prog Ap g=c)(h1:Mn.any (Nat.beq g)=false)(h2:PK.any (Nat.beq g)=false):yC ov (n+1) g args H=G8 c (yC ov n) (yD ov n) args H:=by subst hc;show Option.rec (motive:=fun _=>N3) (bif PK.any (Nat.beq g) then _ else _) (fun r=>r) (ov g args H)=_;rw[hov.none_ g args H h1,h2];rfl
theorem GV{n:Nat}{g:FuncId}{c:CF}(hov:AVm ov)(hc:cF Proofs.Tryz.prog Ap g=c)(h1:Mn.any (Nat.beq g)=false)(h2:PK.any (Nat.beq g)=true):yC ov (n+1) g args H=TJ (G8 c (yC ov n) (yD ov n) args (B8 H H.A6 [])) H:=by subst hc;show Option.rec (motive:=fun _=>N3) (bif PK.any (Nat.beq g) then _ else _) (fun r=>r) (ov g args H)=_;rw[hov.none_ g args H h1,h2];rfl
theorem pY(R:(List A0→Hp→N3)→Prop){n:Nat}{g:FuncId}{c:CF}(hov:AVm ov)(hc:cF Proofs.Tryz.prog Ap g=c)(h1:Mn.any (Nat.beq g)=false)(h2:PK.any (Nat.beq g)=false)(h:R (G8 c (yC ov n) (yD ov n))):R (yC ov (n+1) g):=by rw[show yC ov (n+1) g=G8 c (yC ov n) (yD ov n) from funext fun _=>funext fun _=>HQ hov hc h1 h2];exact h
include hov
theorem AA0(k:Nat):lJ (yD ov k):=by intro b H;show Xu (ACH Proofs.Tryz.prog Ap 29) _ _ _ _=_;rw[A9v];rfl
theorem AUu(k:Nat):AIw (yD ov k):=by
 refine⟨fun b H=>?_,fun b H hw hb hat=>?_⟩
 ·show Xu (ACH Proofs.Tryz.prog Ap 375) _ _ _ _=_;rw[Zc];rfl
 ·obtain⟨m',H',e,rfl,w,f,c⟩:=vP (A7:=yC ov k) hw hat hb;exact⟨H',by show Xu (ACH Proofs.Tryz.prog Ap 375) _ _ _ _=_;rw[Zc];exact e,w,f,c⟩
theorem AK8(k:Nat):AKq (yC ov (k+1)):=fun H=>AJu (hov.AQQ H)
theorem AIf(k:Nat):A33 (yC ov (k+1)):=by unfold A33;intros;rw[GV hov A2e rfl rfl];rfl
theorem AHG(k:Nat):A0D (yC ov (k+1)):=by unfold A0D;intros;rw[GV hov A2O rfl rfl];refine J6 ?_ rfl;apply A10<;>assumption
theorem AKT(k:Nat):ALo (yC ov (k+1)):=fun H _=>AJu (hov.AWd H)
theorem yj(k:Nat):A1N (yC ov (k+1)):=by unfold A1N;intros;rw[HQ hov ACp rfl rfl];refine BZ ?_;apply AAw<;>assumption
theorem kU(k:Nat):ADJ 143 (yC ov (k+1)):=by unfold ADJ;intros;rw[HQ hov ABE rfl rfl];refine BZ ?_;apply A9Z<;>assumption
theorem OY(k:Nat):ADJ 112 (yC ov (k+1)):=by unfold ADJ;intros;rw[HQ hov A7i rfl rfl];refine BZ ?_;apply A7p<;>assumption
theorem ALs(k:Nat):AKi (yC ov (k+1)):=by unfold AKi;intros;rw[HQ hov AGH rfl rfl];refine BZ ?_;apply AIj<;>assumption
theorem ASP(k:Nat):ASc (yC ov (k+2)):=by unfold ASc;intros;rw[HQ hov ALi rfl rfl];refine BZ ?_;apply ALr<;>first|assumption|exact ALs hov k
theorem YG(k:Nat):Ys (yC ov (k+3)):=pY BRepeatR hov A6o rfl rfl (A57 (ASP hov k))
theorem UG(k:Nat):eB (yC ov (k+1)):=pY BlankR hov A1j rfl rfl A3z
theorem AHE(k:Nat):AFI (yC ov (k+1)):=fun H=>AJu (hov.ARD H)
theorem se(k:Nat):Yo (yC ov (k+1)):=by unfold Yo;intros;rw[GV hov A88 rfl rfl];refine J6 ?_ rfl;apply A95<;>exact pO.sb ‹_›
theorem QV(k:Nat):IW 192 5 (yC ov (k+1)):=by unfold IW;intros;rw[HQ hov oG rfl rfl];apply VK<;>assumption
theorem ALA(k:Nat):AN1 (yC ov (k+1)):=by unfold AN1;intros;rw[HQ hov oG rfl rfl];rfl
theorem AKL(k:Nat):ATo (yC ov (k+2)):=by refine pY FTwRr hov A1D rfl rfl ?_;apply A29<;>first|exact kU hov k|exact se hov k|exact QV hov k|exact ALA hov k
theorem ACb(k:Nat):A4M (yC ov (k+1)):=fun H k s xv h1 h2=>by rw[HQ hov A5Z rfl rfl];exact A8W h1 h2
theorem ARW(k:Nat):ATE (yC ov (k+1)):=by unfold ATE;intros;rw[GV hov AHW rfl rfl];rfl
theorem Ly(k:Nat):IW 224 24 (yC ov (k+1)):=by unfold IW;intros;rw[HQ hov A9R rfl rfl];apply VK<;>assumption
theorem Ox(k:Nat):IW 225 3 (yC ov (k+1)):=by unfold IW;intros;rw[HQ hov AAT rfl rfl];apply VK<;>assumption
theorem NP(k:Nat):IW 226 4 (yC ov (k+1)):=by unfold IW;intros;rw[HQ hov AAf rfl rfl];apply VK<;>assumption
theorem ABY(k:Nat):A6t (yC ov (k+2)):=by refine pY FlApplyR hov A8P rfl rfl ?_;apply A8w<;>first|assumption|exact se hov k|exact ACb hov k|exact AIf hov k|exact AHG hov k|exact ARW hov k|exact Ly hov k|exact Ox hov k|exact NP hov k|omega
theorem Zn(k:Nat):ARf 53 (yC ov (k+3)):=by unfold ARf;intros;rw[HQ hov AL1 rfl rfl];apply AL5<;>first|assumption|exact ABY hov k
theorem sU(k:Nat):APQ 100 (yC ov (k+4)):=by unfold APQ;intros;rw[HQ hov ACF rfl rfl];apply ADC<;>first|assumption|exact AKL hov (k+1)|exact Zn hov k
theorem bn(k:Nat):ANq (yC ov (k+1)):=by unfold ANq;intros;rw[GV hov AHw rfl rfl];refine J6 ?_ rfl;apply AGZ<;>assumption
theorem oC(k:Nat):YW (yC ov (k+2)):=by unfold YW;intros;rw[GV hov A2V rfl rfl];refine J6 ?_ rfl;apply A1R<;>first|exact bn hov k|exact pO.sb ‹_›
theorem AJj(k:Nat):ATt (yC ov (k+3)):=by refine pY RTwRr hov uw rfl rfl ?_;apply vh<;>first|exact bn hov (k+1)|exact OY hov (k+1)|exact oC hov k
theorem A0h(k:Nat):A36 (yC ov (k+1)):=pY CopiedR hov uk rfl rfl vH
theorem AIh(k:Nat):AEo (yC ov (k+2)):=pY RAskedR hov A1Z rfl rfl (A3T (UG hov k))
theorem APV(k:Nat):AQU (yC ov (k+3)):=pY RCutR hov ABK rfl rfl (AAN (oC hov k) (A0h hov (k+1)) (AIh hov k))
theorem Vt(k:Nat):ARf 107 (yC ov (k+4)):=by unfold ARf;intros;rw[HQ hov AHB rfl rfl];apply AHl<;>first|assumption|exact UG hov (k+2)|exact APV hov k
theorem eM(k:Nat):APQ 110 (yC ov (k+5)):=by unfold APQ;intros;rw[HQ hov A3b rfl rfl];apply A2n<;>first|assumption|exact AJj hov (k+1)|exact Vt hov k
theorem Xv(k:Nat):APQ 41 (yC ov (k+5)):=by unfold APQ;intros;rw[HQ hov tc rfl rfl];apply py<;>first|assumption|exact AJj hov (k+1)|exact Vt hov k
theorem ki(k:Nat):AGR 268 (yC ov (k+1)):=by unfold AGR;intros;rw[HQ hov AAZ rfl rfl];refine BZ ?_;apply ACx<;>assumption
theorem XC(k:Nat):AGR 184 (yC ov (k+2)):=by unfold AGR;intros;rw[HQ hov vF rfl rfl];refine BZ ?_;apply wE<;>first|assumption|exact ki hov k
theorem AMA(k:Nat):AAk (yC ov (k+1)):=by unfold AAk;intros;rw[HQ hov A4N rfl rfl];refine BZ ?_;apply A5N<;>first|assumption|omega
theorem AAj(k:Nat):qO (yC ov (k+1)):=by unfold qO;intros;rw[HQ hov wa rfl rfl];refine BZ ?_;apply vq<;>assumption
theorem Nh(k:Nat):A85 3 i0 179 (yC ov (k+1)):=by unfold A85;intros;rw[HQ hov AGw rfl rfl];refine BZ ?_;apply yN<;>assumption
theorem Lu(k:Nat):VR 3 88 (yC ov (k+2)):=by unfold VR;intros;rw[HQ hov A7P rfl rfl];apply gE<;>first|assumption|exact Nh hov k
theorem Lw(k:Nat):A85 5 (bN 0) 208 (yC ov (k+1)):=by unfold A85;intros;rw[HQ hov AHr rfl rfl];refine BZ ?_;apply yN<;>assumption
theorem NQ(k:Nat):VR 5 116 (yC ov (k+2)):=by unfold VR;intros;rw[HQ hov A4A rfl rfl];apply gE<;>first|assumption|exact Lw hov k
theorem A82(k:Nat):yp (yC ov (k+1)):=fun H=>⟨AJu (hov.AVv H),AJu (hov.AXm H)⟩
theorem AAm(k:Nat):A7m (yC ov (k+1)):=by unfold A7m;intros;rw[HQ hov AAU rfl rfl];rfl
theorem A9a(k:Nat):du (yC ov (k+2)):=by unfold du;intros;rw[HQ hov A6C rfl rfl];refine BZ ?_;apply A48<;>exact AAm hov k
theorem ASf(k:Nat):AVa (yC ov (k+1)):=fun H l a b f h=>AJu (hov.cut H l a b f h)
theorem Zt(k:Nat):di (yC ov (k+1)):=by unfold di;intros;rw[HQ hov AIH rfl rfl];rfl
theorem AGB(k:Nat):AEs (yC ov (k+4)):=by refine pY DBringR hov ABg rfl rfl ?_;apply AAi<;>first|exact AKL hov (k+1)|exact Zn hov k|exact Zt hov (k+2)
theorem ANA(k:Nat):AC8 (yC ov (k+1)):=by unfold AC8;intros;rw[GV hov AHb rfl rfl];refine J6 ?_ rfl;apply AHF<;>first|assumption|exact Wf.sb ‹_› []
theorem AIs(k:Nat):A2f (yC ov (k+1)):=by unfold A2f;intros;rw[HQ hov ADO rfl rfl];refine BZ ?_;apply AAq<;>assumption
theorem AHI(k:Nat):A3D (yC ov (k+2)):=by unfold A3D;intros;rw[GV hov ABk rfl rfl];refine J6 ?_ rfl;apply AAs<;>first|assumption|exact AIs hov k|exact Wf.sb ‹_› []
theorem AGS(k:Nat):A0C (yC ov (k+3)):=by unfold A0C;intros;rw[GV hov ABA rfl rfl];refine J6 ?_ rfl;apply AB4<;>first|assumption|exact AHI hov k|exact Wf.sb ‹_› []
theorem ACS(k:Nat):qW (yC ov (k+4)):=by unfold qW;intros;rw[GV hov A62 rfl rfl];refine J6 ?_ rfl;apply A74<;>first|assumption|exact AGS hov k|exact Wf.sb ‹_› []
theorem AKj(k:Nat):ABF (yC ov (k+5)):=by unfold ABF;intros;rw[GV hov AIF rfl rfl];refine J6 ?_ rfl;apply AI8<;>first|assumption|exact ACS hov k|exact Wf.sb ‹_› []
theorem AHm(k:Nat):A3Q (yC ov (k+6)):=by unfold A3Q;intros;rw[GV hov ACP rfl rfl];refine J6 ?_ rfl;apply ABv<;>first|assumption|exact ANA hov (k+4)|exact AKj hov k|exact Wf.sb ‹_› []
theorem A80(k:Nat):dk (yC ov (k+3)):=by unfold dk;intros;rw[GV hov A4a rfl rfl];refine J6 ?_ rfl;apply A2j<;>first|assumption|exact XC hov k|exact Wf.sb ‹_› []
theorem zx(k:Nat):lF (yC ov (k+7)):=by unfold lF;intros;rw[GV hov ADT rfl rfl];refine J6 ?_ rfl;apply A9F<;>first|assumption|exact AHm hov k|exact A80 hov (k+3)|exact A9a hov (k+4)|exact Wf.sb ‹_› []
theorem ANs(k:Nat):AJ0 (yC ov (k+1)):=fun H=>AJu (hov.AXd H)
theorem AOo(k:Nat):ARj (yC ov (k+1)):=fun h b vs s h1 h2=>AJu (hov.join h b vs s h1 h2)
theorem AC1(k:Nat):A7v (yC ov (k+1)):=pY SbCheckR hov A78 rfl rfl A8z
theorem ABf(k:Nat):A9t (yC ov (k+2)):=pY SbWriteR hov A6X rfl rfl (A6l (AC1 hov k))
theorem AB8(k:Nat):A4v (yC ov (k+3)):=pY SPrint1R hov A53 rfl rfl (A6D (AOo hov (k+1)) (ABf hov k))
theorem A8d(k:Nat):xS (yC ov (k+1)):=pY SbStringR hov A46 rfl rfl A0Q
theorem xL(k:Nat):ku (yC ov (k+8)):=by unfold ku;intros;rw[GV hov ACi rfl rfl];refine J6 ?_ rfl;apply AAH<;>first|assumption|exact zx hov k|exact ANs hov (k+6)|exact AB8 hov (k+4)|exact A8d hov (k+6)|exact Wf.sb ‹_› []
theorem oB(k:Nat):tz (yC ov (k+4)):=pY DFilledR hov A4p rfl rfl (A5G (YG hov k))
theorem A3a(k:Nat):tG (yC ov (k+9)):=pY DContentsR hov vd rfl rfl (vj (xL hov k) (oB hov (k+4)))
theorem AGN(k:Nat):AEI (yC ov (k+3)):=by refine pY DImageR hov A9P rfl rfl ?_;apply ADj<;>exact NQ hov k
theorem ACT(k:Nat):pX (yC ov (k+1)):=by unfold pX;intros;rw[GV hov A6J rfl rfl];refine J6 ?_ rfl;apply A6H<;>first|assumption|exact Wf.sb ‹_› []|exact DT.sb ‹_› _ _
theorem APr(k:Nat):ARw (yC ov (k+1)):=fun h bk n m h1 h2 h3 h4 h5=>AJu (hov.sort h bk n m h1 h2 h3 h4 h5)
theorem APi(k:Nat):ANf (yC ov (k+3)):=by unfold ANf;intros;rw[GV hov ACv rfl rfl];refine J6 ?_ rfl;apply ACY<;>first|assumption|exact ACT hov (k+1)|exact Lu hov k|exact APr hov (k+1)|exact AAj hov (k+1)|exact Wf.sb ‹_› []|exact DT.sb ‹_› _ _|exact TW.sb ‹_› _ _
theorem AF6(k:Nat):AL9 (yC ov (k+1)):=fun h lo cb x w l h1 h2 h3 h4=>by rw[HQ hov ANr rfl rfl];obtain⟨r,H,e,rfl,p⟩:=(AMI (A7:=yC ov k) (cd:=yD ov k) h1 h2 h3 h4).get;exact⟨H,e,p⟩
theorem tn(k:Nat):tP (yC ov (k+1)):=pY JFieldsR hov A6j rfl rfl A6z
theorem AKQ(k:Nat):AMl (yC ov (k+2)):=pY JSlotR hov AHL rfl rfl (AGz (AF6 hov k) (tn hov k))
theorem A7W(k:Nat):A2r (yC ov (k+1)):=by unfold A2r;intros;rw[GV hov AGI rfl rfl];refine J6 ?_ rfl;apply AGr<;>first|assumption|exact Wf.sb ‹_› []|exact DT.sb ‹_› _ _|exact TW.sb ‹_› _ _
theorem AGu(k:Nat):AG1 (yC ov (k+4)):=pY JCont1R hov Vp rfl rfl (nz (YG hov k) (AF6 hov (k+2)))
theorem AHU(k:Nat):AEd (yC ov (k+4)):=pY JCont0R hov Vp rfl rfl (sX (YG hov k))
theorem AC6(k:Nat):A6p (yC ov (k+5)):=by refine pY JFormatR hov A8F rfl rfl ?_;apply A9w<;>first|exact AKQ hov (k+2)|exact A7W hov (k+3)|exact AGu hov k|exact AHU hov k|exact sU hov k
theorem AQE(k:Nat):AQP (yC ov (k+10)):=pY DNewR hov AJH rfl rfl (AKy (AA0 hov _) (APi hov (k+6)) (zx hov (k+2)) (A3a hov k) (oB hov (k+5)) (AGB hov (k+5)) (AC6 hov (k+4)) (Zt hov (k+8)))
theorem A7B(k:Nat):AD9 (yC ov (k+1)):=pY JTakeR hov yg rfl rfl AGm
theorem AJp(k:Nat):AKY (yC ov (k+2)):=pY JGen1R hov zY rfl rfl (AHN (A7B hov k))
theorem AMt(k:Nat):ANg (yC ov (k+3)):=pY JDecGR hov US rfl rfl (AHa (AUu hov _) (AJp hov k))
theorem AH5(k:Nat):AF4 (yC ov (k+1)):=pY JTakePR hov yg rfl rfl ACK
theorem AID(k:Nat):AF0 (yC ov (k+2)):=pY JGen1PR hov zY rfl rfl (ADw (AH5 hov k))
theorem AJS(k:Nat):AJ7 (yC ov (k+3)):=pY JDecNR hov US rfl rfl (AIa (AUu hov _) (AID hov k))
theorem APe(k:Nat):ANw (yC ov (k+4)):=by unfold ANw;intros;rw[GV hov AJN rfl rfl];refine J6 ?_ rfl;apply ANd<;>first|assumption|exact AMt hov k|exact AJS hov k|exact Wf.sb ‹_› []|exact DT.sb ‹_› _ _
theorem AHh(k:Nat):AEF (yC ov (k+2)):=fun H v h1=>⟨fun h2=>by
 rw[GV hov pB rfl rfl];exact J6 (nh (yj hov k) (h1.sb []) rfl h2 (by decide) rfl) rfl,fun h2=>by
 rw[GV hov pB rfl rfl];exact J6 (nh (yj hov k) (h1.sb []) rfl h2 (by decide) rfl) rfl⟩
theorem ADM(k:Nat):A72 (yC ov (k+2)):=pY JState1R hov A6n rfl rfl (A8R (A7B hov k) (tn hov k))
theorem AHC(k:Nat):AEp (yC ov (k+3)):=pY JDecStR hov US rfl rfl (ADx (AUu hov _) (ADM hov k))
theorem AIp(k:Nat):A1K (yC ov (k+4)):=by unfold A1K;intros;rw[GV hov ACN rfl rfl];refine J6 ?_ rfl;apply AAE<;>first|assumption|exact AHC hov k|exact Wf.sb ‹_› []
theorem AMz(k:Nat):ABi (yC ov (k+5)):=by unfold ABi;intros;rw[GV hov AIB rfl rfl];refine J6 ?_ rfl;apply AHx<;>first|exact A7W hov (k+3)|exact APe hov k|exact AHh hov (k+2)|exact AIp hov k|exact JQ.sb ‹_› _
theorem AJ4(k:Nat):ADX (yC ov (k+6)):=by unfold ADX;intros;rw[GV hov AHs rfl rfl];refine J6 ?_ rfl;apply AHA<;>first|exact AMz hov k|exact JQ.sb ‹_› _
theorem dU(k:Nat):aG (yC ov (k+7)):=by unfold aG;intros;rw[GV hov A9V rfl rfl];refine J6 ?_ rfl;apply AAa<;>first|assumption|exact AJ4 hov k|exact Zt hov (k+5)|exact JQ.sb ‹_› _
theorem A3r(k:Nat):Xr (yC ov (k+1)):=by unfold Xr;intros;rw[HQ hov xF rfl rfl];refine BZ ?_;apply vR<;>assumption
theorem AAx(k:Nat):nE (yC ov (k+1)):=by unfold nE;intros;rw[HQ hov A8v rfl rfl];refine BZ ?_;apply A5e<;>assumption
theorem AB6(k:Nat):rB (yC ov (k+2)):=by unfold rB;intros;rw[HQ hov A6I rfl rfl];refine A8J ?_;apply A58<;>first|assumption|exact AAx hov k
theorem AD5(k:Nat):lr (yC ov (k+3)):=by unfold lr;intros;rw[HQ hov A7b rfl rfl];refine BZ ?_;apply A5d<;>first|assumption|exact A3r hov (k+1)|exact AB6 hov k
theorem AIn(k:Nat):AE3 (yC ov (k+4)):=pY TrimRUR hov ACL rfl rfl (ADq (AD5 hov k) (A82 hov (k+2)))
theorem ALp(k:Nat):ALP (yC ov (k+5)):=fun h v tx m h1 h2 h3 h4 h5 h6=>by rw[GV hov AIr rfl rfl];exact ATR h1 h3 h5 (AGc (AK8 hov (k+3)) (AIn hov k) (h1.sb []) h2 h3 h4 h5 h6)
theorem Oj(k:Nat):Yx 386 (bN 10) (yC ov (k+1)):=by unfold Yx;intros;rw[HQ hov A7H rfl rfl];refine BZ ?_;apply A7S<;>first|assumption|omega
theorem XD(k:Nat):Yx 344 AM2 (yC ov (k+2)):=by unfold Yx;intros;rw[HQ hov AMj rfl rfl];refine BZ ?_;apply AKS<;>first|assumption|exact Oj hov k
theorem SF(k:Nat):Yx 337 AM2 (yC ov (k+3)):=by unfold Yx;intros;rw[HQ hov A4o rfl rfl];refine BZ ?_;apply A9l<;>first|assumption|exact XD hov k
theorem AMh(k:Nat):AKH (yC ov (k+4)):=by refine pY StGenR hov qY rfl rfl ?_;apply AIz<;>first|exact AMA hov (k+2)|exact SF hov k
theorem A9I(k:Nat):A70 (yC ov (k+5)):=pY StSplitR hov A6k rfl rfl (A4w (AMh hov k))
theorem AOQ(k:Nat):ARL (yC ov (k+1)):=fun H=>AJu (hov.AWM H)
theorem AHR(k:Nat):AEx (yC ov (k+9)):=pY SParseR hov A9Q rfl rfl (AAL (A9I hov (k+3)) (AOQ hov (k+7)) (AKT hov (k+7)) (ASf hov (k+7)) (xL hov k))
theorem A3p(k:Nat):mC (yC ov (k+10)):=pY DSettingsR hov vI rfl rfl (xE (dU hov (k+2)) (ALp hov (k+4)) (AHR hov k) (Zt hov (k+8)))
theorem A7q(k:Nat):ze (yC ov (k+11)):=pY DRunningR hov A0G rfl rfl (A3V (AA0 hov _) (dU hov (k+3)) (AGN hov (k+7)) (A3p hov k))
theorem AL7(k:Nat):AJd (yC ov (k+1)):=fun H _ h1 h2 h3=>AJu (hov.AVN H h1 h2 h3)
theorem AK5(k:Nat):ABR (yC ov (k+2)):=by unfold ABR;intros;rw[GV hov AHn rfl rfl];refine J6 ?_ rfl;apply AGy<;>first|assumption|exact AHE hov k|exact Wf.sb ‹_› []
theorem AHg(k:Nat):AG2 (yC ov (k+8)):=pY DStartR hov ABq rfl rfl (ADQ (AA0 hov _) (dU hov k) (AK5 hov (k+5)))
theorem AMa(k:Nat):A9W (yC ov (k+2)):=by unfold A9W;intros;rw[GV hov A6y rfl rfl];refine J6 ?_ rfl;apply A8e<;>first|assumption|exact bn hov k|exact Wf.sb ‹_› []|exact DT.sb ‹_› _ _|exact TW.sb ‹_› _ _
theorem A04(k:Nat):kq (yC ov (k+2)):=by unfold kq;intros;rw[GV hov A3Y rfl rfl];refine J6 ?_ rfl;apply A34<;>first|exact bn hov k|exact Wf.sb ‹_› []
theorem AEY(k:Nat):AEr (yC ov (k+1)):=pY RNumR hov uq rfl rfl wk
theorem A7t(k:Nat):ADU (yC ov (k+1)):=pY RCodeR hov A4J rfl rfl A55
theorem AJE(k:Nat):ABh (yC ov (k+3)):=by unfold ABh;intros;rw[HQ hov A9q rfl rfl];apply A6F<;>first|assumption|exact A04 hov k|exact AEY hov (k+1)|exact A7t hov (k+1)
theorem ALO(k:Nat):AKp (yC ov (k+4)):=pY RContR hov A4L rfl rfl (A8X (UG hov (k+2)) (AJE hov k) (AEY hov (k+2)) (A7t hov (k+2)))
theorem bz(k:Nat):AZI 42 (yC ov (k+6)):=fun h f dv wv ev sv uv tv n a b c q=>by rw[HQ hov ve rfl rfl];exact wW (AMa hov (k+3)) (A04 hov (k+3)) (ALO hov (k+1)) (UG hov (k+4)) (eM hov (k+0)) q.wf q.fl q.ly q.ok q.A4e q.n1 q.dead q.I0
theorem ARV(k:Nat):AVr (yC ov (k+1)):=fun h v l m h1 h2 h3 h4 h5=>by rw[HQ hov qP rfl rfl];obtain⟨r,H,e,rfl,p⟩:=(oQ (A7:=yC ov k) (cd:=yD ov k) h1 h2 h3 h4 h5).get;exact⟨r,e,p⟩
theorem uo(k:Nat):jD (yC ov (k+1)):=pY R01ChangedR hov nP rfl rfl nc
theorem ACg(k:Nat):oh (yC ov (k+1)):=by unfold oh;intros;rw[HQ hov sZ rfl rfl];rfl
theorem uT(k:Nat):mj (yC ov (k+1)):=by unfold mj;intros;rw[HQ hov AH2 rfl rfl];refine BZ ?_;apply AHZ<;>assumption
theorem AHD(k:Nat):A32 (yC ov (k+2)):=by unfold A32;intros;rw[GV hov oZ rfl rfl];refine J6 ?_ rfl;apply tM<;>first|assumption|exact uT hov k|exact Wf.sb ‹_› []
theorem A9x(k:Nat):eo (yC ov (k+3)):=by unfold eo;intros;rw[GV hov A49 rfl rfl];refine J6 ?_ rfl;apply A0M<;>first|assumption|exact uT hov (k+1)|exact AHD hov k|exact Wf.sb ‹_› []
theorem Uu(k:Nat):Ol (yC ov (k+4)):=by unfold Ol;intros;rw[GV hov A1I rfl rfl];refine J6 ?_ rfl;apply A19<;>first|assumption|exact A9x hov k|exact Wf.sb ‹_› []
theorem A42(k:Nat):YO (yC ov (k+1)):=by unfold YO;intros;rw[GV hov uz rfl rfl];refine J6 ?_ rfl;apply wj<;>first|assumption|exact Wf.sb ‹_› []
theorem dI(k:Nat):lL (yC ov (k+5)):=pY R06SymR hov qn rfl rfl (mF (Uu hov k) (A42 hov (k+3)))
theorem AHz(k:Nat):AEL (yC ov (k+2)):=pY R06RunR hov AAB rfl rfl (ABD (uT hov k))
theorem jB(k:Nat):dL (yC ov (k+6)):=pY R06ApplyR hov A39 rfl rfl (A22 (dI hov k) (AHz hov (k+3)))
theorem A6V(k:Nat):xK (yC ov (k+1)):=pY R06InputR hov A1h rfl rfl A1d
theorem A6x(k:Nat):dq (yC ov (k+1)):=by unfold dq;intros;rw[GV hov A4k rfl rfl];refine J6 ?_ rfl;apply A1U<;>exact Wf.sb ‹_› []
theorem AHe(k:Nat):AF9 (yC ov (k+2)):=pY R17NewR hov ABN rfl rfl (A9L (bn hov k) (UG hov k))
theorem AAn(k:Nat):uQ (yC ov (k+2)):=by unfold uQ;intros;rw[GV hov A97 rfl rfl];refine J6 ?_ rfl;apply A8M<;>first|assumption|exact OY hov k|exact Wf.sb ‹_› []|exact DT.sb ‹_› _ _
theorem yE(k:Nat):lR (yC ov (k+1)):=by unfold lR;intros;rw[GV hov mD rfl rfl];refine J6 ?_ rfl;apply pP<;>first|assumption|exact Wf.sb ‹_› []
theorem cU(k:Nat):YT (yC ov (k+1)):=by unfold YT;intros;rw[HQ hov ADK rfl rfl];refine A8J ?_;apply ABS<;>assumption
theorem AGJ(k:Nat):A0L (yC ov (k+2)):=by unfold A0L;intros;rw[HQ hov A9K rfl rfl];refine A8J ?_;apply AD3<;>first|assumption|exact cU hov k
theorem A79(k:Nat):xT (yC ov (k+3)):=pY R18FirstR hov A2T rfl rfl (A3P (cU hov (k+1)) (AGJ hov k))
theorem AId(k:Nat):A1B (yC ov (k+1)):=by unfold A1B;intros;rw[HQ hov kL rfl rfl];refine A8J ?_;apply kT<;>assumption
theorem APa(k:Nat):AQR (yC ov (k+4)):=by
 have key:∀j,j≤3→∀m,AYL (yC ov (m+j+1)) j (3^j):=fun j=>by
  induction j with
  | zero =>
   intro _ m h a n h1 h2 h3;rw[HQ hov Sn rfl rfl];exact vM h1
  | succ j ih =>
   intro hj m h a n h1 h2 h3;rw[HQ hov Sn rfl rfl];have:=A1p (cd:=fun g=>Xu (ACH Proofs.Tryz.prog Ap g) (yC ov (m+(j+1)))) (ih (by omega) m) h1 h2 h3 (by omega) (by have:=AUV (k:=j) (by omega);omega);grind
 intro j hj;have:=key j hj (k+3-j);grind
theorem A8Q(k:Nat):yx (yC ov (k+5)):=pY R18OrderR hov A1A rfl rfl (A1W (AId hov (k+3)) (APa hov k) (A79 hov (k+1)))
theorem AIl(k:Nat):A43 (yC ov (k+1)):=by unfold A43;intros;rw[HQ hov oT rfl rfl];refine BZ ?_;apply sS<;>assumption
theorem A8o(k:Nat):er (yC ov (k+2)):=by unfold er;intros;rw[GV hov A25 rfl rfl];refine A7u ?_ fun _=>rfl;apply A1e<;>first|assumption|exact yE hov k|exact Wf.sb ‹_› []
theorem iV(k:Nat):dF (yC ov (k+6)):=pY R18ReadsR hov A1u rfl rfl (A3F (dI hov k) (AIl hov (k+4)) (A8o hov (k+3)))
theorem dB(k:Nat):lP (yC ov (k+6)):=pY R19ChgR hov rn rfl rfl (qk (dI hov k) (yE hov (k+4)))
theorem A8V(k:Nat):zq (yC ov (k+7)):=pY R19AmongR hov A1s rfl rfl (A3N (dB hov k) (iV hov k) (cU hov (k+5)))
theorem iK(k:Nat):VM (yC ov (k+1)):=by unfold VM;intros;rw[GV hov A31 rfl rfl];refine J6 ?_ rfl;apply A1n<;>first|assumption|exact Wf.sb ‹_› []
theorem A87(k:Nat):zB (yC ov (k+1)):=pY R19namedR hov A0F rfl rfl A3j
theorem ADf(k:Nat):A5A (yC ov (k+8)):=pY R19MakeR hov A8Y rfl rfl (A4E (Uu hov (k+3)) (iK hov (k+6)) (dB hov (k+1)) (A8V hov k) (A8Q hov (k+2)) (A87 hov (k+6)))
theorem A5K(k:Nat):eJ (yC ov (k+1)):=by unfold eJ;intros;rw[HQ hov A2y rfl rfl];refine A8J ?_;apply A1L<;>assumption
theorem A8K(k:Nat):dz (yC ov (k+7)):=by unfold dz;intros;rw[GV hov A3h rfl rfl];refine A7u ?_ fun _=>rfl;apply A2w<;>first|assumption|exact Uu hov (k+2)|exact iK hov (k+5)|exact dB hov k|exact A5K hov (k+5)|exact iV hov k|exact Wf.sb ‹_› []
theorem XR(k:Nat):bQ (yC ov (k+1)):=pY RCont19R hov A8N rfl rfl A6b
theorem AGj(k:Nat):A3U (yC ov (k+2)):=by unfold A3U;intros;rw[GV hov AA1 rfl rfl];refine AXp ?_ fun _=>rfl;apply AAp<;>first|assumption|exact uo hov k|exact Wf.sb ‹_› []
theorem A5c(k:Nat):fD (yC ov (k+8)):=by unfold fD;intros;rw[GV hov A0J rfl rfl];refine ASI ?_;apply A3x<;>first|assumption|exact A8K hov k|exact jB hov (k+1)|exact XR hov (k+6)|exact AGj hov (k+5)|exact Wf.sb ‹_› []
theorem Se(k:Nat):PF 206 (yC ov (k+1)):=by unfold PF;intros;rw[HQ hov A4R rfl rfl];refine BZ ?_;apply Qz<;>assumption
theorem A5w(k:Nat):fe (yC ov (k+2)):=by unfold fe;intros;rw[GV hov A8j rfl rfl];refine J6 ?_ rfl;apply A26<;>first|exact A6x hov k|exact Se hov k|exact Wf.sb ‹_› []
theorem A8D(k:Nat):xn (yC ov (k+1)):=pY R22PatchR hov A21 rfl rfl A3n
theorem mW(k:Nat):ZO (yC ov (k+1)):=by unfold ZO;intros;rw[GV hov A7h rfl rfl];refine J6 ?_ rfl;apply A8g<;>first|assumption|exact Wf.sb ‹_› []
theorem mi(k:Nat):Zr (yC ov (k+1)):=by unfold Zr;intros;rw[GV hov A6d rfl rfl];refine J6 ?_ rfl;apply A4Y<;>first|assumption|exact Wf.sb ‹_› []
theorem A0x(k:Nat):kx (yC ov (k+1)):=pY R23OutR hov AB9 rfl rfl AA8
theorem Xs(k:Nat):Ss (yC ov (k+1)):=pY R23IntoR hov A4X rfl rfl A7F
theorem A12(k:Nat):YC (yC ov (k+2)):=pY R23renameR hov wz rfl rfl (wU (mi hov k) (A0x hov k) (Xs hov k))
theorem A6K(k:Nat):A3s (yC ov (k+3)):=pY R23doR hov AH4 rfl rfl (AGs (A12 hov k) (A0x hov (k+1)) (Xs hov (k+1)))
theorem iU(k:Nat):VH (yC ov (k+2)):=by unfold VH;intros;rw[GV hov A3d rfl rfl];refine J6 ?_ rfl;apply A0B<;>first|assumption|exact mW hov k|exact Wf.sb ‹_› []
theorem AAO(k:Nat):mz (yC ov (k+3)):=by
 unfold mz;intros;rw[GV hov A8n rfl rfl];refine A7u ?_ fun u=>by first|rfl|(cases u<;>rfl)
 apply A5n<;>first|assumption|exact iU hov k|exact mW hov (k+1)|exact Wf.sb ‹_› []
theorem ui(k:Nat):gj (yC ov (k+4)):=pY R23FittingR hov oM rfl rfl (mh (A6K hov k) (AAO hov k))
theorem mY(k:Nat):Yq (yC ov (k+2)):=by unfold Yq;intros;rw[HQ hov A4O rfl rfl];refine BZ ?_;apply A59<;>first|assumption|exact bn hov k
theorem lf(k:Nat):Zu (yC ov (k+1)):=by unfold Zu;intros;rw[HQ hov A7w rfl rfl];refine BZ ?_;apply A9d<;>assumption
theorem A5u(k:Nat):fT (yC ov (k+3)):=by unfold fT;intros;rw[GV hov A1E rfl rfl];refine J6 ?_ rfl;apply A2o<;>first|assumption|exact mY hov k|exact lf hov (k+1)|exact Wf.sb ‹_› []
theorem TD(k:Nat):OV (yC ov (k+4)):=by unfold OV;intros;rw[GV hov A20 rfl rfl];refine J6 ?_ rfl;apply A14<;>first|assumption|exact bn hov (k+2)|exact A5u hov k|exact Wf.sb ‹_› []
theorem A5z(k:Nat):fU (yC ov (k+3)):=by unfold fU;intros;rw[GV hov dr rfl rfl];refine A7u ?_ fun _=>rfl;apply dE<;>first|exact mY hov k|exact lf hov (k+1)|exact Wf.sb ‹_› []
theorem A6T(k:Nat):eV (yC ov (k+5)):=by
 unfold eV;intros;rw[GV hov A2X rfl rfl];refine A7u ?_ fun u=>by first|rfl|(cases u<;>rfl)
 apply A3K<;>first|assumption|exact TD hov k|exact bn hov (k+3)|exact A5z hov (k+1)|exact Wf.sb ‹_› []
theorem A3X(k:Nat):qS (yC ov (k+1)):=pY R23finishR hov wO rfl rfl wZ
theorem wC(k:Nat):jk (yC ov (k+6)):=pY R23ForwardR hov qe rfl rfl (mQ (A6K hov (k+2)) (A6T hov k) (A3X hov (k+4)))
theorem AD4(k:Nat):A4y (yC ov (k+3)):=pY R23MadeR hov A5M rfl rfl (A4Z (iU hov k) (mi hov (k+1)) (Xs hov (k+1)))
theorem A7Q(k:Nat):eu (yC ov (k+5)):=by unfold eu;intros;rw[GV hov A3L rfl rfl];refine J6 ?_ rfl;apply A3B<;>first|assumption|exact TD hov k|exact ACg hov (k+3)|exact Wf.sb ‹_› []
theorem A89(k:Nat):dP (yC ov (k+1)):=by unfold dP;intros;rw[HQ hov kc rfl rfl];refine BZ ?_;apply kF<;>assumption
theorem AAe(k:Nat):tf (yC ov (k+2)):=by unfold tf;intros;rw[GV hov A6u rfl rfl];refine J6 ?_ rfl;apply A9g<;>first|assumption|exact A89 hov k|exact Wf.sb ‹_› []
theorem AC0(k:Nat):A84 (yC ov (k+6)):=pY R25ContR hov A9e rfl rfl (A6v (A7Q hov k) (XR hov (k+4)))
theorem NS(k:Nat):PF 113 (yC ov (k+1)):=by unfold PF;intros;rw[HQ hov kC rfl rfl];refine BZ ?_;apply Qz<;>assumption
theorem ACC(k:Nat):A8I (yC ov (k+1)):=pY RLayoutR hov vE rfl rfl vG
theorem ADD(k:Nat):A8f (yC ov (k+4)):=pY R25Set0R hov A98 rfl rfl (A66 (AD4 hov k))
theorem ADb(k:Nat):sE (yC ov (k+2)):=by unfold sE;intros;rw[GV hov A3y rfl rfl];refine J6 ?_ rfl;apply A3E<;>first|assumption|exact bn hov k|exact Wf.sb ‹_› []|exact DT.sb ‹_› _ _
theorem AQn(k:Nat):ARt (yC ov (k+1)):=pY RSecR hov rp rfl rfl ub
theorem AO5(k:Nat):AQN (yC ov (k+3)):=pY RLayR hov A1T rfl rfl (A3v (ADb hov k) (AQn hov (k+1)))
theorem AG0(k:Nat):AJY (yC ov (k+7)):=by refine pY RNewR hov ABV rfl rfl ?_;apply A9H<;>first|exact AO5 hov (k+3)|exact TD hov (k+2)|exact AC0 hov k|exact XR hov (k+5)|exact Xv hov (k+1)|exact bz hov k
theorem A9T(k:Nat):A5W (yC ov (k+9)):=pY R25MadeR hov A8s rfl rfl (A73 (A6V hov (k+7)) (A8D hov (k+7)) (ADf hov k) (A5c hov k) (ACC hov (k+7)) (AHe hov (k+6)) (ADD hov (k+4)) (AG0 hov (k+1)) (ui hov (k+4)) (wC hov (k+2)) (jB hov (k+2)))
theorem A86(k:Nat):xm (yC ov (k+3)):=pY R25SBootR hov kY rfl rfl (kb (AAe hov k))
theorem AB2(k:Nat):mo (yC ov (k+2)):=by unfold mo;intros;rw[GV hov ZP rfl rfl];refine J6 ?_ rfl;apply ae<;>first|assumption|exact NS hov k|exact Wf.sb ‹_› []|exact TW.sb ‹_› _ _
theorem AHM(k:Nat):A3H (yC ov (k+3)):=by unfold A3H;intros;rw[GV hov wh rfl rfl];refine J6 ?_ rfl;apply ur<;>first|exact A5w hov k|exact Wf.sb ‹_› []
theorem AD0(k:Nat):qG (yC ov (k+4)):=by unfold qG;intros;rw[GV hov A4G rfl rfl];refine J6 ?_ rfl;apply A8C<;>first|assumption|exact AAn hov (k+1)|exact AB2 hov (k+1)|exact AHM hov k|exact Wf.sb ‹_› []|exact DT.sb ‹_› _ _|exact TW.sb ‹_› _ _
end
def AQz(a b:Option Addr):Bool:=match a,b with
 | none,none=>true
 | some ⟨x,y,none⟩,some ⟨x',y',none⟩=>Nat.beq x x'&&Nat.beq y y'
 | _,_=>false
theorem AEw{a b:Option Addr}(h:AQz a b=true):a=b:=by
 unfold AQz at h;split at h
 ·rfl
 ·simp_all
 ·cases h
def AUc(a b:A0):Bool:=match a,b with
 | .int k x,.int k' y=>ALw k k'&&A38 x y
 | .bool x,.bool y=>bif x then y else !y
 | .slice a l c,.slice b l' c'=>AQz a b&&Nat.beq l l'&&Nat.beq c c'
 | .pointer a,.pointer b=>AQz a b
 | _,_=>false
theorem ADa{a b:A0}(h:AUc a b=true):a=b:=by
 unfold AUc at h;split at h
 ·rw[U8,dX] at h;rw[AA5 h.1,of_decide_eq_true h.2]
 ·grind
 ·rw[U8,U8] at h;rw[AEw h.1.1,T9 h.1.2,T9 h.2]
 ·rw[AEw h]
 ·cases h
def APB:List A0→List A0→Bool
 | [],[]=>true
 | a::l,b::r=>AUc a b&&APB l r
 | _,_=>false
theorem AE1:∀ {l r:List A0},APB l r=true→l=r
 | [],[],_=>rfl
 | a::l,b::r,h=>by
  have h':(AUc a b&&APB l r)=true:=h;rw[U8] at h';rw[ADa h'.1,AE1 h'.2]
 | [],_::_,h=>by cases h
 | _::_,[],h=>by cases h
def AUI(a b:A0):Bool:=match a,b with
 | .agg ⟨x⟩,.agg ⟨y⟩=>APB x y
 | a,b=>AUc a b
theorem ABQ{a b:A0}(h:AUI a b=true):a=b:=by
 unfold AUI at h;split at h
 ·rw[AE1 h]
 ·exact ADa h
def ACG:List A0→List A0→Bool
 | [],[]=>true
 | a::l,b::r=>AUI a b&&ACG l r
 | _,_=>false
theorem A3q:∀ {l r:List A0},ACG l r=true→l=r
 | [],[],_=>rfl
 | a::l,b::r,h=>by
  have h':(AUI a b&&ACG l r)=true:=h;rw[U8] at h';rw[ABQ h'.1,A3q h'.2]
 | [],_::_,h=>by cases h
 | _::_,[],h=>by cases h
def AXF(a b:A0):Bool:=match a,b with
 | .tuple ⟨x⟩,.tuple ⟨y⟩=>ACG x y
 | a,b=>AUI a b
theorem AS4{a b:A0}(h:AXF a b=true):a=b:=by
 unfold AXF at h;split at h
 ·rw[A3q h]
 ·exact ABQ h
structure Rw where
 b:Nat
 vs:List A0
 e:TypeId
 cl:Bool
 ro:Bool
def Rw.ob(r:Rw):N2:=.row (C7 r.vs 0 .nil fun t=>t) r.vs.length r.e r.cl r.ro
def AVw(c:T A0):Nat→List A0→Bool
 | _,[]=>true
 | k,v::l=>(match c.get (path k) with | some u=>AUc u v | none=>false)&&AVw c (k+1) l
theorem AA4{c:T A0}:∀ {k:Nat} {l:List A0},AVw c k l=true→∀j,j<l.length→c.get (path (k+j))=l[j]?
 | _,[],_,j,hj=>by simp at hj
 | k,v::l,h,j,hj=>by
  have h':((match c.get (path k) with|some u=>AUc u v|none=>false)&&AVw c (k+1) l)=true:=h;rw[U8] at h';cases j with
  | zero =>
   have h1:=h'.1;rw[A9i];cases hg:c.get (path k) with
   | none=>rw[hg] at h1;cases h1
   | some u=>rw[hg] at h1;rw[ADa h1];rfl
  | succ j =>
   have:=AA4 h'.2 j (by simpa using hj);grind
def AOJ(a b:Bool):Bool:=bif a then b else !b
theorem A0Y{a b:Bool}(h:AOJ a b=true):a=b:=by cases a<;>cases b<;>first|rfl|cases h
def AI5(o:Option N2)(r:Rw):Bool:=match o with
 | some (.row c n e cl ro)=>Nat.beq n r.vs.length&&Nat.beq e r.e&&AOJ cl r.cl&&AOJ ro r.ro&&AVw c 0 r.vs
 | _=>false
theorem OQ{o:Option N2}{r:Rw}(h:AI5 o r=true):∃c,o=some (.row c r.vs.length r.e r.cl r.ro)∧∀j,j<r.vs.length→c.get (path j)=r.vs[j]?:=by
 unfold AI5 at h;split at h
 ·rename_i c n e cl ro;rw[U8,U8,U8,U8] at h;obtain⟨⟨⟨⟨h1,h2⟩,h3⟩,h4⟩,h5⟩:=h;refine⟨c,by rw[T9 h1,T9 h2,A0Y h3,A0Y h4],fun j hj=>?_⟩;have:=AA4 h5 j hj;rwa[Ag] at this
 ·cases h
theorem A4H{f:Map}{i:VT}{o:N2}{x:Obj}{r:Rw}(h:AI5 (some o) r=true)(hr:GI f i o x):GI f i r.ob x:=by
 obtain⟨c,hc,hj⟩:=OQ h;cases hc;cases hr with
 | row _ _ _ _ _ arr e2 fz he hs hn hcl hro hc =>
  refine .row _ _ _ _ _ arr e2 fz he hs hn hcl hro fun k v hk hv=>hc k v hk ?_;rw[hj k hk];rw[V3,if_pos ⟨BB _,by omega⟩,EC] at hv;exact hv
def zI(t:T N2):List Rw→T N2
 | []=>t
 | r::l=>T.Gy (path r.b) (zI t l) (some r.ob) fun t=>t
def HX(l:List Rw)(b:Nat):Option Rw:=match l with
 | []=>none
 | r::l=>if r.b=b then some r else HX l b
theorem fw(t:T N2):∀(l:List Rw) (b:Nat),(zI t l).get (path b)=match HX l b with|some r=>some r.ob|none=>t.get (path b)
 | [],b=>rfl
 | r::l,b=>by
  unfold zI HX;rw[T.X9,V9];by_cases h:r.b=b
  ·rw[if_pos h,if_pos h]
  ·rw[if_neg h,if_neg h,fw t l b]
theorem Hu{l:List Rw}{b:Nat}{r:Rw}(h:HX l b=some r):r∈l∧r.b=b:=by
 induction l with
 | nil=>cases h
 | cons q l ih =>
  unfold HX at h;grind
def uc(S:List Rw)(n:Nat):Hp:=⟨zI .nil S,n,n,[]⟩
def ASK(h:Hp)(R:List Rw)(n:Nat):Hp:=⟨zI h.bl R,n,h.base,h.log⟩
theorem om(S:List Rw)(n b:Nat):(uc S n).at b=(HX S b).map Rw.ob:=by
 show(zI .nil S).get (path b)=_;rw[fw];cases HX S b with
 | none=>cases path b<;>rfl
 | some r=>rfl
theorem ACl(h:Hp)(R:List Rw)(n b:Nat):(ASK h R n).at b=match HX R b with|some r=>some r.ob|none=>h.at b:=fw h.bl R b
def gQ(h:Hp)(S:List Rw):Bool:=S.all fun r=>AI5 (h.at r.b) r
theorem AVp{f:Map}{w:World}{S:List Rw}{n:Nat}(hr:Z6 f h w)(hn:h.A6=n)(hS:gQ h S=true):Z6 f (uc S n) w:=by
 have hS':=Cc.1 hS;have live:∀b o,(uc S n).at b=some o→∃r,r.b=b∧o=r.ob∧AI5 (h.at b) r=true:=fun b o ho=>by
  rw[om] at ho;cases hq:HX S b with
  | none=>rw[hq] at ho;cases ho
  | some r =>
   rw[hq] at ho;cases ho;obtain⟨h1,h2⟩:=Hu hq;grind
 have some':∀b,((uc S n).at b).isSome→(h.at b).isSome:=fun b hb=>by obtain⟨o,ho⟩:=A0k.1 hb;obtain⟨r,_,_,hk⟩:=live b o ho;obtain⟨c,hc,_⟩:=OQ hk;rw[hc];rfl
 refine⟨fun b o i hb ho=>?_,fun b c i j hb hc h1 h2=>hr.inj b c i j hb hc (some' b h1) (some' c h2),fun b i hb=>⟨by have:=(hr.fresh b i hb).1;show b<n;omega,(hr.fresh b i hb).2⟩,fun b hb=>?_,M8 _⟩
 ·obtain⟨r,_,rfl,hk⟩:=live b o ho;obtain⟨c,hc,_⟩:=OQ hk;obtain⟨x,hx,hor⟩:=hr.obj b _ i hb hc;exact⟨x,hx,A4H (by rw[←hc];exact hk) hor⟩
 · cases ho:(uc S n).at b with
   | none=>rfl
   | some o =>
    have:=some' b (by rw[ho];rfl);rw[hr.dead b (by rw[hn];exact hb)] at this;cases this
theorem ATW{g:FuncId}{a0:List A0}{S R:List Rw}{n0 n1:Nat}{v0:A0}{h1:Hp}(H:AY P gs g a0 (uc S n0) (.val v0 h1))(hlog:h1.log=[])(hn1:h1.A6=n1)(hR:gQ h1 R=true)(hR0:∀r∈R,n0≤r.b)(hn:h.A6=n0)(hS:gQ h S=true):AY P gs g a0 h (.val v0 (ASK h R n1)):=by
 intro args' f w hG hr hl;have hr0:=AVp hr hn hS;have hh:=H args' f w hG hr0 hl;have hR':=Cc.1 hR;refine⟨hh.1,hh.2.mono fun e w' he=>?_⟩;cases e with
 | panicked c=>exact he.elim
 | outgrown=>exact he.elim
 | returned v' =>
  obtain⟨f',hA,hC,hv⟩:=he;have hnx:n0≤n1:=by have:=hA.A6;rw[hn1] at this;exact this
  have AM:∀b,b<n0→(ASK h R n1).at b=h.at b:=fun b hb=>by
   rw[ACl];cases hq:HX R b with
   | none=>rfl
   | some r =>
    obtain⟨h1,h2⟩:=Hu hq;have:=hR0 r h1;omega
  have new:∀b,n0≤b→∀o,(ASK h R n1).at b=some o→∃r,o=r.ob∧AI5 (h1.at b) r=true:=fun b hb o ho=>by
   rw[ACl] at ho;cases hq:HX R b with
   | none=>rw[hq,hr.dead b (by omega)] at ho;cases ho
   | some r =>
    rw[hq] at ho;cases ho;obtain⟨q1,q2⟩:=Hu hq;grind
  have new1:∀b,n0≤b→((ASK h R n1).at b).isSome→(h1.at b).isSome:=fun b hb hs=>by obtain⟨o,ho⟩:=A0k.1 hs;obtain⟨r,_,hk⟩:=new b hb o ho;obtain⟨c,hc,_⟩:=OQ hk;rw[hc];rfl
  have fold:∀b i,f' b=some i→b<n0→f b=some i:=fun b i hb hlt=>by
   cases hf:f b with
   | some j=>have:=hC.le b j hf;grind
   | none=>have:=(hC.news b i hf hb).1;have e2:(uc S n0).A6=n0:=rfl;omega
  have fnew:∀b i,f' b=some i→n0≤b→w.heap.size≤i.S6:=fun b i hb hge=>by
   have hf:f b=none:=by
    cases hf:f b with
    | none=>rfl
    | some j=>have:=(hr.fresh b j hf).1;omega
   rcases(hC.news b i hf hb).2 with h2|⟨c,j,h2,_,_,h3|h3⟩
   ·exact h2
   ·have:=(hr.fresh c j h2).1;have e2:(uc S n0).base=n0:=rfl;omega
   ·rw[hlog] at h3;cases h3
  have kp:=fun c hc=>hC.K7 c hc fun b' i' h1 _ h3=>⟨by have:=(hr.fresh b' i' h1).1;show b'<n0;omega,by rw[hlog];simp⟩
  refine⟨f',⟨rfl,by show h.A6≤n1;omega,fun b hb=>hb,fun b hb _=>AM b (by have:=hr.base;omega),fun b hb hd=>by rw[AM b (by omega)];exact hd⟩,⟨hr,hC.le,⟨fun b o i hb ho=>?_,fun b c i j hb hc s1 s2 hij=>?_,fun b i hb=>⟨by have:=(hC.rel.fresh b i hb).1;show b<n1;omega,(hC.rel.fresh b i hb).2⟩,fun b hb=>?_,by have:=hr.base;show h.base≤n1;omega⟩,hC.size,hC.tape,hC.os,hC.out,fun c hc _=>kp c hc,fun b i hf hb=>⟨by grind,.inl (fnew b i hb (by grind))⟩⟩,hv⟩
  · rcases DX b n0 with hlt|hge
    ·rw[AM b hlt] at ho;have hf:=fold b i hb hlt;obtain⟨x,hx,hor⟩:=hr.obj b o i hf ho;refine⟨x,by grind,hor.mono hC.le⟩
    ·obtain⟨r,rfl,hk⟩:=new b hge o ho;obtain⟨c,hc,_⟩:=OQ hk;obtain⟨x,hx,hor⟩:=hC.rel.obj b _ i hb hc;exact⟨x,hx,A4H (by rw[←hc];exact hk) hor⟩
  · rcases DX b n0 with hb1|hb1<;>rcases DX c n0 with hc1|hc1
    ·rw[AM b hb1] at s1;rw[AM c hc1] at s2;exact hr.inj b c i j (fold b i hb hb1) (fold c j hc hc1) s1 s2 hij
    ·have h1:=(hr.fresh b i (fold b i hb hb1)).2;grind
    ·have h1:=(hr.fresh c j (fold c j hc hc1)).2;grind
    ·exact hC.rel.inj b c i j hb hc (new1 b hb1 s1) (new1 c hc1 s2) hij
  · rw[ACl];cases hq:HX R b with
    | none=>exact hr.dead b (by show h.A6≤b;have:n1≤b:=hb;omega)
    | some r =>
     obtain⟨q1,q2⟩:=Hu hq;have hk:=hR' r q1;obtain⟨c,hc,_⟩:=OQ hk;rw[hC.rel.dead r.b (by rw[hn1,q2];exact hb)] at hc;cases hc
structure A9B where
 g:FuncId
 a:List A0
 n0:Nat
 S:List Rw
 v:A0
 n1:Nat
 R:List Rw
def A9B.runs(A7:Call)(e:A9B):Bool:=match A7 e.g e.a (uc e.S e.n0) with
 | .val v h=>AXF v e.v&&Nat.beq h.A6 e.n1&&(match h.log with | []=>true | _=>false)&&gQ h e.R&&e.R.all fun r=>Nat.ble e.n0 r.b
 | _=>false
def ASW(es:List A9B)(g:FuncId)(args:List A0)(h:Hp):Option N3:=match es with
 | []=>none
 | e::es=>bif Nat.beq e.g g&&Nat.beq h.A6 e.n0&&ACG args e.a&&gQ h e.S then some (.val e.v (ASK h e.R e.n1)) else ASW es g args h
theorem A2Z{es:List A9B}(H:∀e∈es,∃A7,S9 P gs A7∧e.runs A7=true):∀g args h r,ASW es g args h=some r→AY P gs g args h r:=by
 induction es with
 | nil=>intro g args h r hr;cases hr
 | cons e es ih =>
  intro g args h r hr;have hr':(bif Nat.beq e.g g&&Nat.beq h.A6 e.n0&&ACG args e.a&&gQ h e.S then some (.val e.v (ASK h e.R e.n1)) else ASW es g args h)=some r:=hr;cases hc:(Nat.beq e.g g&&Nat.beq h.A6 e.n0&&ACG args e.a&&gQ h e.S) with
  | false=>grind
  | true =>
   rw[hc] at hr';cases hr';rw[U8,U8,U8] at hc;obtain⟨⟨⟨c1,c2⟩,c3⟩,c4⟩:=hc;have c1:=T9 c1;subst c1;rw[A3q c3];obtain⟨A7,hok,hrun⟩:=H e Ct;unfold A9B.runs at hrun;have hat:=HJ.1 hok e.g e.a (uc e.S e.n0);cases hcall:A7 e.g e.a (uc e.S e.n0) with
   | none=>rw[hcall] at hrun;cases hrun
   | panic c h=>rw[hcall] at hrun;cases hrun
   | val v h1 =>
    rw[hcall] at hrun hat;have hrun':(AXF v e.v&&Nat.beq h1.A6 e.n1&&(match h1.log with|[]=>true|_=>false)&&gQ h1 e.R&&e.R.all fun r=>Nat.ble e.n0 r.b)=true:=hrun;rw[U8,U8,U8,U8] at hrun';obtain⟨⟨⟨⟨d1,d2⟩,d3⟩,d4⟩,d5⟩:=hrun';have d1:=AS4 d1;subst d1;refine ATW hat ?_ (T9 d2) d4 (fun r hr=>ADP (Cc.1 d5 r hr)) (T9 c2) c4;grind
end Abs
end Go
end
