/-
Symbolic runs of the functions that the law reaches, part 03.
Conditions: none.
-/
import Derived.Test.YtekknahndoonjaaGreatDoorRun02
import Derived.Test.YtekknahndoonjaaGreatDoorLit01
import Derived.Test.YtekknahndoonjaaGreatDoorRun01
set_option linter.all false
set_option maxRecDepth 10000
set_option maxHeartbeats 4000000
noncomputable section
namespace Go
namespace Abs
variable {A7:Call} {cd:C9} {J h:Hp} {dv ev lv ov q4 sv tv uv w wv x y:A0} {B N W c i id id2 m s0 t:Nat} {l want:List Nat} {P:T A0→Df→Hp→Prop} {r:N7} {ψ:Ex→T A0→Df→Hp→Prop} {k2:T A0→Df→Hp→N7} {e2:Nat→T A0→Df→Hp→N7} {tm:T A0} {nm:ByteArray}
def AND(l:List Nat)(h:Hp)(r:A0)(H:Hp):Prop:=(Sl 1 H r l.length (M4 l)∧YB 5 H r∧∀c,Ch r c→h.A6≤c)∧Wf H∧Fr N5 h H
theorem YB.cell{H:Hp}{b n:Nat}(h1:b<H.A6)(h2:cE H b=5):YB 5 H (F8 b 0 n n):=fun c hc=>by rw[X3 hc];exact⟨h1,h2⟩
def AAX(cd:List Nat)(i:Nat)(j:Nat):Nat:=if j<8 then(if j<i then cd.getD j 0 else 255) else if j<38 then T5.getD (j-8) 0 else 255
def AP8(i:Nat)(j:Nat):Nat:=if j<8 then 255 else if j<8+i then T5.getD (j-8) 0 else 255
theorem ALX{n j:Nat}(hn:38≤n)(hj:j<n):(Q5 n)[j]?=some (AAX [0,255,0,255,0,255,1,254] 8 j):=by
 unfold Q5 AAX;by_cases h1:j<8
 ·rw[if_pos h1,if_pos h1,iX,OZ (by simpa using h1)];grind
 · rw[if_neg h1];by_cases h2:j<38
   ·rw[if_pos h2,OZ (by simp[T5];omega),Gj (by simp;omega)];exact G6 (by simp[T5];omega)
   ·rw[if_neg h2,Gj (by simp[T5];omega),ZH,if_pos (by simp[T5];omega)]
abbrev RContR(g:List A0→Hp→N3):Prop:=∀h n,Wf h→38≤n→n≤5000→C0 (g [iN n,iN 1,.agg ⟨BT⟩] h) (AND (Q5 n) h)
theorem A8X(hB:eB A7)(hS:ABh A7)(hN:AEr A7)(hC:ADU A7):RContR (G8 mg A7 cd):=by
 intro h n hw h0 hn;obtain⟨J,hJ,wJ,fJ,nJ,a1⟩:=J7 hw (B6 BT 9 52 true);have hwb:=hw.base;obtain⟨r1,H1,e1,b,rfl,row1,ce1,g1,w1,f1⟩:=(hB J n wJ (by omega) (by omega)).get;obtain⟨v8,H2,e2,⟨hs8,hb8⟩,w2,f2⟩:=(hS H1 w1).get;have fh1:=fJ.trans f1 fun _ _ h=>h;have fh2:=fh1.trans f2 fun _ _ h=>h;have m1:=f1.A6;have m2:=f2.A6;have hlb:=row1.lt w1;have d8:∀c,Ch v8 c→c≠b:=fun c hc=>by have:=hb8 c hc;omega
 have row2:=row1.K7 (f2.e _ hlb);have ce2:=(Y9 (f2.e _ hlb)).trans ce1;unfold BT at hJ a1 e2;refine B5 rfl ?_;unfold BT;simp(disch:=first|omega|(simp only[C6]<;>omega)) only[B0,reduceCtorEq,hJ,e1,a1,f1.e,e2];refine D9.lp (P:=fun tm df H=>df=[]∧D0 tm [(Q0,iN 1),(AL,F8 b 0 n n)]∧Ky h H H2.A6∧HW H b n (fun j=>bN (AP8 30 j))∧cE H b=5) ?_ ?_
 · refine K6 (n:=30) (by omega) (fun i tm H=>D0 tm [(Q0,iN 1),(AL,F8 b 0 n n),(Cj,v8),(DZ,iN i)]∧Ky h H H2.A6∧HW H b n (fun j=>bN (AP8 i j))∧cE H b=5∧Sl 1 H v8 30 (M4 T5)) ?_ (fun i tm H hi hI=>?_) (fun tm H hI=>?_)
   ·refine⟨by simp[D0,T.A9,Nj],⟨w2,fh2,rfl⟩,row2.congr fun j hj=>?_,ce2,hs8⟩;unfold AP8;grind
   · obtain⟨⟨t1,t7,t8,t9,-⟩,kH,⟨c,e,cl,hat,hc⟩,he,h8⟩:=hI;have hxi:=G6 (l:=T5) (by simp[T5];omega);have vA:=h8.A (by omega);have vl:=h8.len;unfold NK;simp(disch:=omega) only[B0,t7,t8,t9,hat,vA,Q1 hxi];have hZ:T5.length=30:=rfl;refine .go ⟨by simp[D0,T.A9,t1,t7,t8],kH.put (by omega) (by omega) hw _,(Sv hc (0+(8+i)) (bN (T5.getD i 0))).congr fun j hj=>?_,(M6 K0).trans ((M6 hat).symm.trans he),h8.K7 fun c _ hc=>E9 (Ne.symm (d8 c hc))⟩;unfold AP8;by_cases x:j=0+(8+i)
     ·rw[if_pos x,if_neg (by omega),if_pos (by omega),show j-8=i by omega]
     grind
   ·obtain⟨⟨t1,t7,t8,t9,-⟩,kH,row,he,h8⟩:=hI;have vl:=h8.len;unfold NK;simp(disch:=omega) only[B0,t8,t9,vl];exact .ex ⟨rfl,rfl,by simp[D0,T.A9,t1,t7],kH,row,he⟩
 rintro tm df H ⟨rfl,⟨t1,t7,-⟩,kH,row,he⟩;have nH:=kH.nx;obtain⟨v9,H3,e3,⟨hs9,hb9⟩,w3,f3⟩:=(hN H 1 4 kH.wf (by omega) (by omega) (by omega)).get;have hnb:Ti 1 4 4=[0,0,0,1]:=rfl;rw[hnb] at hs9;obtain⟨vA,H4,e4,⟨hsA,hbA⟩,w4,f4⟩:=(hC H3 v9 [0,0,0,1] w3 hs9 (by decide) (by decide) (by decide)).get;have hcd:CX [0,0,0,1]=[0,255,0,255,0,255,1,254]:=rfl;rw[hcd] at hsA;have m3:=f3.A6;have m4:=f4.A6;have q3:=f3.base;have q4:=f4.base;have f34:=f3.trans f4 fun _ _ h=>h;have k4:Ky h H4 H4.A6:=⟨w4,(kH.fr.trans f3 fun _ _ h=>h).trans f4 fun _ _ h=>h,rfl⟩
 have row4:=row.K7 (f34.e _ (by omega));have ce4:=(Y9 (f34.e _ (by omega))).trans he;have dA:∀c,Ch vA c→c≠b:=fun c hc=>by have:=hbA c hc;omega
 simp only[B0,t1,e3,e4];refine D9.lp (P:=fun tm df H=>df=[]∧D0 tm [(AL,F8 b 0 n n)]∧Ky h H H4.A6∧HW H b n (fun j=>bN (AAX [0,255,0,255,0,255,1,254] 8 j))∧cE H b=5) ?_ ?_
 · refine K6 (n:=8) (by omega) (fun i tm H=>D0 tm [(Q0,iN 1),(AL,F8 b 0 n n),(MC,vA),(Ku,iN i)]∧Ky h H H4.A6∧HW H b n (fun j=>bN (AAX [0,255,0,255,0,255,1,254] i j))∧cE H b=5∧Sl 1 H vA 8 (M4 [0,255,0,255,0,255,1,254])) ?_ (fun i tm H hi hI=>?_) (fun tm H hI=>?_)
   ·refine⟨by simp[D0,T.A9,t1,t7],k4,row4.congr fun j hj=>?_,ce4,hsA⟩;rfl
   · obtain⟨⟨t1,t7,t8,t9,-⟩,kH,⟨c,e,cl,hat,hc⟩,he,h8⟩:=hI;have hxi:=G6 (l:=[0,255,0,255,0,255,1,254]) (by simpa using hi);have vA:=h8.A (by omega);have vl:=h8.len;unfold NB;simp(disch:=omega) only[B0,t1,t7,t8,t9,hat,vA,Q1 hxi];refine .go ⟨by simp[D0,T.A9,t1,t7,t8],kH.put (by omega) (by omega) hw _,(Sv hc (0+i) (bN ([0,255,0,255,0,255,1,254].getD i 0))).congr fun j hj=>?_,(M6 K0).trans ((M6 hat).symm.trans he),h8.K7 fun c _ hc=>E9 (Ne.symm (dA c hc))⟩;unfold AAX;by_cases x:j=0+i
     ·grind
     · rw[if_neg x];by_cases y:j<8
       · rw[if_pos y,if_pos y];by_cases z:j<i
         ·grind
         ·rw[if_neg z,if_neg (by omega)]
       ·rw[if_neg y,if_neg y]
   ·obtain⟨⟨t1,t7,t8,t9,-⟩,kH,row,he,h8⟩:=hI;unfold NB;simp(disch:=omega) only[B0,t9];exact .ex ⟨rfl,rfl,by simp[D0,T.A9,t7],kH,row,he⟩
 rintro tm df H ⟨rfl,⟨t7,-⟩,kH,row,he⟩;have nH:=kH.nx;simp only[B0,t7];refine .ret ?_;simp only[B0];have hl:=FA h0;refine⟨⟨?_,YB.cell (row.lt kH.wf) he,fun c hc=>by rw[X3 hc];omega⟩,kH.wf,kH.fr⟩;rw[hl];exact Jg row (by rw[O4,hl]) (fun j hj=>Q1 (ALX h0 hj)) (by omega)
abbrev AKp(A7:Call):Prop:=RContR (A7 111)
theorem A8e(hIn:ANq A7){f:FM}{n a b:Nat}(hw:Wf h)(hf:DT h f dv wv ev)(hok:f.Ok)(h38:38≤f.size)(hly:TW h n a b c sv uv tv)(hn:n+1<f.data.length):C0 (G8 tU A7 cd [.agg ⟨N9 f dv wv ev⟩,.agg ⟨AX n sv uv tv⟩] h) (QR (.bool true) h):=by obtain⟨q1,q2,q3,q4,q5,q6,q7,q8,q9,q10⟩:=id hok;obtain⟨J,hJ,wJ,fJ,nJ,a1,a2⟩:=U7 hw (B6 (N9 f dv wv ev) 5 39 true) (B6 (AX n sv uv tv) 8 42 true);have hwb:=hw.base;obtain⟨ds,hds,hs,_⟩:=hf.data;have dl:=hs.len;unfold N9 AX at hJ;unfold N9 at a1;unfold AX at a2;refine B5 rfl ?_;unfold N9 AX;simp(disch:=first|omega|(simp only[C6]<;>omega)) only[B0,Nat.reduceAdd,hJ,a1,a2,dl,hIn];refine .ret ?_;simp only[B0];exact⟨rfl,fJ.log⟩
abbrev A9W(A7:Call):Prop:=∀h f dv wv ev sv uv tv n a b c,Wf h→DT h f dv wv ev→f.Ok→38≤f.size→TW h n a b c sv uv tv→n+1<f.data.length→A7 108 [.agg ⟨N9 f dv wv ev⟩,.agg ⟨AX n sv uv tv⟩] h=.val (.bool true) h
theorem AF5.sb{f:FM}{v:A0}{s:Nat}(q:AF5 h f dv wv ev s v want):AF5 (B8 h h.A6 []) f dv wv ev s v want:=⟨q.wf.sb [],q.fl.sb _ _,q.wt,q.dead,q.I0,q.sl⟩
theorem Wt.N6{f:FM}{s:Nat}(q:Wt f s want)(hw:f.I0.getD s 0<f.K4):(f.N6 s want).Ok:=by
 obtain⟨⟨a,b,c,d,e,g,i,j,k,l⟩,s1,l1,b1⟩:=q;refine⟨a,b,c,d,?_,?_,?_,?_,?_,?_⟩
 ·show 1≤(f.data.set s _).length;rw[Bu];exact e
 ·show(f.data.set s _).length≤64;rw[Bu];exact g
 ·show(f.N6 s want).I0.length=(f.data.set s _).length;rw[Bu,←i];unfold FM.N6;split<;>simp
 ·show f.dead.length=(f.data.set s _).length;rw[Bu];exact j
 · intro r hr;rcases mem_set hr with rfl|hr
   ·exact⟨l1,b1⟩
   ·exact k r hr
 ·intro w hw';unfold FM.N6 at hw';show w≤f.K4;grind
theorem O5(hw:Wf h)(Z A:List A0)(n:Nat)(e:TypeId):∃K,(h.new (B6 Z n e true)).put h.A6 (some (.row (C7 A 0 .nil fun t=>t) n e true false))=K∧Wf K∧Fr N5 h K∧K.A6=h.A6+1∧K.at h.A6=some (B6 A n e true):=by
 have hwb:=hw.base;have k:Ky h (h.new (B6 Z n e true)) (h.A6+1):=⟨hw.new _,Fr.new _,rfl⟩
 have k2:=k.put (b:=h.A6) (by omega) (by omega) hw (some (B6 A n e true));exact⟨_,rfl,k2.wf,k2.fr,k2.nx,K0⟩
def FM.Lx(f:FM)(n:Nat):FM:=(f.N6 n (Q5 f.size)).N6 (n+1) (List.replicate f.size 255)
theorem wW(hF:A9W A7)(hR:kq A7)(hC:AKp A7)(hB:eB A7)(hT:APQ 110 A7){f:FM}{n a b:Nat}(hw:Wf h)(hf:DT h f dv wv ev)(hly:TW h n a b c sv uv tv)(hok:f.Ok)(h38:38≤f.size)(hn:n+1<f.data.length)(hd:∀s,s<f.data.length→f.dead[s]?=some false)(hwr:∀s,f.I0.getD s 0+1<f.K4):
 C0 (G8 ZE A7 cd [.agg ⟨N9 f dv wv ev⟩,.agg ⟨AX n sv uv tv⟩,.agg ⟨BT⟩] h) (YS (f.Lx n) h):=by
 obtain⟨q1,q2,q3,q4,q5,q6,q7,q8,q9,q10⟩:=id hok;obtain⟨J,hJ,wJ,fJ,nJ,a1,a2,a3,a4⟩:=A8k hw (B6 (N9 f dv wv ev) 5 39 true) (B6 (AX n sv uv tv) 8 42 true) (B6 BT 9 52 true) (B6 Vy 5 39 true);have hwb:=hw.base;have g1:=hF J f dv wv ev sv uv tv n a b c wJ (hf.fr hw fJ) hok h38 (hly.fr hw fJ) hn;have g2:=hR J wJ;obtain⟨v1,H1',H1,e1,l1,s1,n1,⟨hs1,ty1,lo1⟩,w1,f1⟩:=drawn (P:=fun v H=>Sl 1 H v (Q5 f.size).length (M4 (Q5 f.size))∧YB 5 H v∧∀c,Ch v c→J.A6≤c) wJ (fun _ _ _ _ p=>p) (hC (B8 J J.A6 []) f.size (wJ.sb []) h38 (by omega));rw[FA h38] at hs1;have hj:∀x∈Q5 f.size,x<256:=by
  intro x hx;unfold Q5 at hx;rcases Gt.1 hx with hx|hx
  ·exact(by decide:∀x∈[0,255,0,255,0,255,1,254]++T5,x<256) x hx
  ·rw[(A5B.1 hx).2];decide
 have fJ1:=fJ.trans (P:=N5) f1 fun _ _ h=>h;have wt1:Wt f n (Q5 f.size):=⟨hok,by omega,FA h38,hj⟩
 have tq1:AF5 H1 f dv wv ev n v1 (Q5 f.size):=⟨w1,hf.fr hw fJ1,wt1,hd n (by omega),fun _=>by have:=hwr n;omega,hs1⟩
 obtain⟨r2,H2',H2,e2,l2,s2,n2,⟨dv2,Rf,ev2,rfl,hf2⟩,w2,f2⟩:=drawn (P:=AWj (f.N6 n (Q5 f.size))) w1 (fun _ _ n l ⟨dv,wv,ev,e,hf⟩=>⟨dv,wv,ev,e,hf.sb n l⟩) ((hT (B8 H1 H1.A6 []) f dv wv ev n v1 (Q5 f.size) tq1.sb (by have:=hwr n;omega)).mono fun _ _ x=>x.p);have x1:=f1.A6;have x2:=f2.A6;have b1:=f1.base;have b2:=f2.base;have cdv:=hf2.data.cell;have cwv:=hf2.I0.cell;have cev:=hf2.dead.cell;obtain⟨H3,hH3,w3,f3,n3,c3⟩:=O5 w2 Vy (N9 (f.N6 n (Q5 f.size)) dv2 Rf ev2) 5 39;have f23:=f2.trans (P:=N5) f3 fun _ _ h=>h;have fJ3:=fJ1.trans (P:=N5) f23 fun _ _ h=>h;obtain⟨b4,H4',H4,e4,l4,s4,n4,row4,ce4,g4,w4,f4⟩:=APt.draw w3 (hB (B8 H3 H3.A6 []) f.size (w3.sb []) (by omega) (by omega));have bl4:Sl 1 H4 (F8 b4 0 f.size f.size) f.size (M4 (List.replicate f.size 255)):=Jg row4 (by rw[O4,Ad]) (fun j hj=>by rw[Q1 (x:=255) (by rw[ZH,if_pos hj])]) (by omega);have f34:=f3.trans (P:=N5) f4 fun _ _ h=>h;have ok2:=wt1.N6 (by have:=hwr n;omega);have tq4:AF5 H4 (f.N6 n (Q5 f.size)) dv2 Rf ev2 (n+1) (F8 b4 0 f.size f.size) (List.replicate f.size 255):=⟨w4,hf2.fr w2 f34,⟨ok2,by rw[FM.U3];omega,Ad,fun x hx=>by rw[(A5B.1 hx).2];decide⟩,hd (n+1) (by omega),fun _=>by have h1:=FM.KO f n (n+1) (Q5 f.size);have:=hwr (n+1);rw[if_neg (by omega)] at h1;show _<f.K4;omega,bl4⟩
 obtain⟨r5,H5',H5,e5,l5,s5,n5,⟨dv5,wv5,ev5,rfl,hf5⟩,w5,f5⟩:=drawn (P:=AWj (f.Lx n)) w4 (fun _ _ n l ⟨dv,wv,ev,e,hf⟩=>⟨dv,wv,ev,e,hf.sb n l⟩) ((hT (B8 H4 H4.A6 []) _ dv2 Rf ev2 (n+1) _ _ tq4.sb (by have h1:=FM.KO f n (n+1) (Q5 f.size);have:=hwr (n+1);rw[if_neg (by omega)] at h1;show _<f.K4;omega)).mono fun _ _ x=>x.p);have cdv5:=hf5.data.cell;have cwv5:=hf5.I0.cell;have cev5:=hf5.dead.cell;obtain⟨H6,hH6,w6,f6,n6,c6⟩:=O5 w5 Vy (N9 (f.Lx n) dv5 wv5 ev5) 5 39;have x3:=f3.A6;have x4:=f4.A6;have x5:=f5.A6;have b3:=f3.base;have b4':=f4.base;have b5:=f5.base;have f45:=f4.trans (P:=N5) f5 fun _ _ h=>h;have bJ:=fJ.base;have k2:=f1.trans (P:=N5) f2 fun _ _ h=>h;have k3:=k2.trans (P:=N5) f3 fun _ _ h=>h;have k4:=k3.trans (P:=N5) f4 fun _ _ h=>h;have k5:=k4.trans (P:=N5) f5 fun _ _ h=>h;have k6:=k5.trans (P:=N5) f6 fun _ _ h=>h;rw[f1.base,f1.log] at s2;rw[k3.base,k3.log] at s4;rw[k4.base,k4.log] at s5;unfold N9 AX BT Vy at hJ;unfold N9 at a1 g1 e2 e5 c3 c6 hH3 hH6;unfold Vy at hH3 hH6;unfold AX at a2 g1;unfold BT at a3 g2 e1;unfold Vy at a4;refine B5 rfl ?_;unfold N9 AX BT;simp(disch:=first|omega|(simp only[C6]<;>omega)|exact⟨rfl,rfl,rfl⟩|assumption) only[↓CG,B0,reduceCtorEq,Nat.reduceAdd,Nat.reduceMul,Nat.reduceSub,hJ,a1,a2,a3,a4,g1,g2,e1,l1,s1,n1,f1.e,e2,l2,s2,n2,f2.e,ARa,hH3,c3,f3.e,e4,l4,s4,n4,f4.e,e5,l5,s5,n5,f5.e,hH6,c6,f6.e,A2B fJ,f1.n,k2.n,k3.n,k4.n,k5.n,k6.n];refine .ret ?_;simp(disch:=first|omega|(simp only[C6]<;>omega)|exact⟨rfl,rfl,rfl⟩|assumption) only[↓CG,B0,reduceCtorEq,Nat.reduceAdd,Nat.reduceMul,Nat.reduceSub,];have fh5:=fJ.trans (P:=N5) k5 fun _ _ h=>h;have hE:cE H6 (h.A6+1+1+1)=39:=M6 (by rw[f6.e _ (by omega),k5.e _ (by omega)];exact a4);refine(fun kZ:Ky h _ H6.A6=>YS.mk kZ ((hf5.fr w5 f6).put _ hE rfl)) ?_;exact(Ky.mk w6 (fJ.trans k6 fun _ _ h=>h) rfl).put (by omega) (by omega) hw _
structure AZJ(h:Hp)(f:FM)(dv wv ev sv uv tv:A0)(n a b c:Nat):Prop where
 wf:Wf h
 fl:DT h f dv wv ev
 ly:TW h n a b c sv uv tv
 ok:f.Ok
 A4e:38≤f.size
 n1:n+1<f.data.length
 dead:∀s,s<f.data.length→f.dead[s]?=some false
 I0:∀s,f.I0.getD s 0+1<f.K4
abbrev AZI(F:FuncId)(A7:Call):Prop:=∀h f dv wv ev sv uv tv n a b c,AZJ h f dv wv ev sv uv tv n a b c→C0 (A7 F [.agg ⟨N9 f dv wv ev⟩,.agg ⟨AX n sv uv tv⟩,.agg ⟨BT⟩] h) (YS (f.Lx n) h)
theorem A7D{e s:Nat}{P:Nat→Prop}{n:Nat}{vs:List A0}(ho:Out e s P h x n vs)(hn:n≤100000)(hy:y=.slice none 0 0∨∃b o c,y=F8 b o 0 c):DJ e s x y h=.val x h:=by
 have e1:DJ e s x y h=Np x (HI e s h 0 []) (Nu e s h 0 []) .none:=by rcases hy with rfl|⟨b,o,c,rfl⟩<;>rfl
 rw[e1];obtain⟨_,_,⟨_,⟨b,rfl⟩|rfl⟩|⟨b,rfl,h1,_⟩⟩:=ho
 ·rfl
 ·rfl
 ·obtain⟨s1,s2,s3⟩:=Hf s n (by unfold R8;omega);generalize C4 s n=k at *;rw[LM];unfold HI;rw[C1,show Nat.add n 0=n from rfl,s1,W8 (M8 _),cond_true];rfl
section
variable {e:TypeId} {s:Nat} {K H H':Hp} {Q:Nat→Prop} {v:A0} {n:Nat} {vs:List A0}
theorem Bd.any{new:List A0}(hb:Bd e s K Q H v n vs)(hK:Wf K)(hy:Sl s H y m new)(hone:K9 new=true)(hnm:n+m≤100000):
 ∃v' H',DJ e s v y H=.val v' H'∧Bd e s K Q H' v' (n+m) (vs++new)∧H.A6≤H'.A6∧(∀c,c<K.A6→H'.at c=H.at c):=by
 by_cases hm:m=0
 · subst hm;have hnew:=IU (by rw[hy.1,UM]);subst hnew;have hy0:y=.slice none 0 0∨∃b o c,y=F8 b o 0 c:=by
    obtain⟨_,⟨_,h1⟩|⟨b,o,c,rfl,h1,_⟩⟩:=hy
    ·exact h1
    ·omega
   exact⟨v,H,A7D hb.out (by omega) hy0,by rw[rr];exact hb,M8 _,fun _ _=>rfl⟩
 ·obtain⟨v',H',h1,h2,h3,h4,h5⟩:=hb.app hK hy hone (by omega) hnm;refine⟨v',H',h1,h2,by omega,fun c hc=>h5.M5 c (by have:=hb.fr.A6;omega) fun hq=>?_⟩;have:=hb.out.S6 hq.1 hq.2;omega
end
def AaC(l:List Nat)(h:Hp)(r:A0)(H:Hp):Prop:=Sl 1 H r l.length (J8 l)∧Wf H∧Fr N5 h H
abbrev RSecR(g:List A0→Hp→N3):Prop:=∀h sv uv tv n a b c,Wf h→TW h n a b c sv uv tv→n+4+a+b+c≤64→C0 (g [.agg ⟨AX n sv uv tv⟩] h) (AaC (l8 0 (n+4+a+b+c)) h)
theorem ub:RSecR (G8 WY A7 cd):=by
 intro h sv uv tv n a b c hw hly hn;obtain⟨J,hJ,wJ,fJ,nJ,a1,a2⟩:=U7 hw (B6 (AX n sv uv tv) 8 42 true) (B6 [] 0 3 true);have hwb:=hw.base;have bJ:=fJ.base;unfold AX at hJ a1;refine B5 rfl ?_;unfold AX;simp only[B0,hJ];refine D9.lp (P:=fun tm df H=>df=[]∧∃v,D0 tm [(Q0,C2 h.A6 0),(Q3,v)]∧Bd 3 1 J N5 H v n (J8 (l8 0 n))) ?_ ?_
 · refine K6 (n:=n) (by omega) (fun i tm H=>∃v,D0 tm [(Q0,C2 h.A6 0),(Q3,v),(V1,iN i)]∧Bd 3 1 J N5 H v i (J8 (l8 0 i))) ?_ (fun i tm H hi hI=>?_) (fun tm H hI=>?_)
   ·exact⟨_,by simp[D0,T.A9];rfl,Bd.OX wJ (Fr.refl _ _)⟩
   ·obtain⟨v,⟨t1,t3,t4,-⟩,bd⟩:=hI;have b1:=bd.fr.e h.A6 (by omega);rw[a1] at b1;obtain⟨v',H',e1,bd2⟩:=bd.one wJ (iN i) U6 (by omega);rw[show J8 (l8 0 i)++[iN i]=J8 (l8 0 (i+1)) by rw[Ju,BC,Ag];rfl] at bd2;unfold HC;simp(disch:=first|omega|(simp only[C6]<;>omega)|exact⟨rfl,rfl,rfl⟩|assumption) only[B0,Nat.reduceAdd,t1,t3,t4,b1,e1];exact .go ⟨v',by simp[D0,T.A9,t1],bd2⟩
   ·obtain⟨v,⟨t1,t3,t4,-⟩,bd⟩:=hI;have b1:=bd.fr.e h.A6 (by omega);rw[a1] at b1;unfold HC;simp(disch:=first|omega|(simp only[C6]<;>omega)) only[B0,Nat.reduceAdd,t1,t4,b1];exact .ex ⟨rfl,rfl,v,by simp[D0,T.A9,t1,t3],bd⟩
 rintro tm df H ⟨rfl,v,⟨t1,t3,-⟩,bd⟩;have b1:=bd.fr.e h.A6 (by omega);rw[a1] at b1;obtain⟨H1,hH1,w1,f1,n1,x1⟩:=J7 bd.wf (B6 [iN n,iN (n+1),iN (n+2),iN (n+3)] 4 3 true);obtain⟨v2,H2,e2,d2,m2,k2⟩:=(bd.step w1 f1).any wJ (y:=F8 H.A6 0 4 4) ⟨rfl,.inr ⟨_,_,_,rfl,by omega,O3 x1 (by simp)⟩⟩ rfl (by omega);have fh:=fun{H:Hp} {v:A0} {k:Nat} {l:List A0} (d:Bd 3 1 J N5 H v k l)=>fJ.trans d.fr fun _ _ h=>h;obtain⟨v3,H3,e3,d3,m3,k3⟩:=d2.any wJ (hly.st.fr hw (fh d2)) (Fu _) (by omega);obtain⟨v4,H4,e4,d4,m4,k4⟩:=d3.any wJ (hly.un.fr hw (fh d3)) (Fu _) (by omega);obtain⟨v5,H5,e5,d5,m5,k5⟩:=d4.any wJ (hly.ta.fr hw (fh d4)) (Fu _) (by omega);have c2:=d2.fr.e;have c3:=d3.fr.e;have c4:=d4.fr.e;have nH:=bd.fr.A6;simp(disch:=first|omega|(simp only[C6]<;>omega)|exact⟨rfl,rfl,rfl⟩|assumption) only[B0,reduceCtorEq,t1,t3,b1,hH1,e2,c2,c3,c4,a1,e3,e4,e5];refine .ret ?_;simp only[B0];have hl:J8 (l8 0 n)++[iN n,iN (n+1),iN (n+2),iN (n+3)]++J8 (l8 (n+4) a)++J8 (l8 (n+4+a) b)++J8 (l8 (n+4+a+b) c)=J8 (l8 0 (n+4+a+b+c)):=by rw[LC 0 (n+4+a+b) c,LC 0 (n+4+a) b,LC 0 (n+4) a,LC 0 n 4,BC,BC,BC,BC];simp only[Ag];rfl
 rw[hl] at d5;refine⟨?_,d5.wf,fh d5⟩;rw[AT];exact d5.sl
abbrev ARt(A7:Call):Prop:=RSecR (A7 103)
theorem D9.AXG(h:D9 r (fun ex tm df H=>ex=.exit id∧P tm df H))(hk:∀tm df H,P tm df H→D9 (k2 tm df H) ψ):D9 (Abs.Lt (Abs.Lt (Abs.Lt r (fun tm df h=>N7.ok Ex.normal tm df h) fun i tm df h=>bif Nat.beq i id then N7.ok Ex.normal tm df h else N7.ok (Ex.exit i) tm df h) (fun tm df h=>N7.ok Ex.normal tm df h) fun i tm df h=>bif Nat.beq i id2 then N7.ok Ex.normal tm df h else N7.ok (Ex.exit i) tm df h) k2 e2) ψ:=by refine D9.Lt (φ:=fun ex tm df H=>ex=.normal∧P tm df H) (D9.lp h fun tm df H hp=>⟨rfl,hp⟩) ?_;rintro ex tm df H ⟨rfl,hp⟩;exact hk _ _ _ hp
def AaA(h:Hp)(r:A0)(H:Hp):Prop:=r=.bool true∧Wf H∧Fr N5 h H
abbrev RLayR(g:List A0→Hp→N3):Prop:=∀h f dv wv ev sv uv tv n a b c,Wf h→DT h f dv wv ev→f.Ok→38≤f.size→TW h n a b c sv uv tv→AOS n a b c f.data.length→C0 (g [.agg ⟨N9 f dv wv ev⟩,.agg ⟨AX n sv uv tv⟩] h) (AaA h)
theorem A3v(hV:sE A7)(hS:ARt A7):RLayR (G8 jo A7 cd):=by
 intro h f dv wv ev sv uv tv n a b c hw hf hok h38 hly lo;obtain⟨q1,q2,q3,q4,q5,q6,q7,q8,q9,q10⟩:=id hok;obtain⟨o1,o2,o3,o4,o5,o6,o7⟩:=lo;obtain⟨J,hJ,wJ,fJ,nJ,a1,a2⟩:=U7 hw (B6 (N9 f dv wv ev) 5 39 true) (B6 (AX n sv uv tv) 8 42 true);have hwb:=hw.base;have bJ:=fJ.base;have e1:=hV J f dv wv ev wJ (hf.fr hw fJ) hok;obtain⟨v5,H1,e2,hs,w1,f1⟩:=(hS J sv uv tv n a b c wJ (hly.fr hw fJ) (by omega)).get;rw[AT] at hs;have m1:=f1.A6;have b1:H1.at h.A6=some (B6 (N9 f dv wv ev) 5 39 true):=by rw[f1.e _ (by omega)];exact a1
 obtain⟨ds,hds,hs2,_⟩:=hf.data;have dl:=hs2.len;have sl:=hly.st.len;have al:=hs.len;have aA:=hs.A (by omega);unfold N9 AX at hJ;unfold AX at a2 e2;unfold N9 at a1 b1 e1;refine B5 rfl ?_;unfold N9 AX;simp(disch:=first|omega|(simp only[C6]<;>omega)) only[B0,Nat.reduceAdd,hJ,a1,a2,e1,dl,sl,e2];refine D9.lp (P:=fun tm df H=>df=[]∧H=H1) ?_ ?_
 · refine K6 (n:=n+4+a+b+c) (by omega) (fun i tm H=>D0 tm [(T1,C2 h.A6 0),(U2,v5),(Q8,iN i)]∧H=H1) ⟨by simp[D0,T.A9],rfl⟩ (fun i tm H hi hI=>?_) (fun tm H hI=>?_)
   · obtain⟨⟨t2,t5,t6,-⟩,rfl⟩:=hI;have hxi:=O7 (OP (s:=0) hi);rw[Ag] at hxi;unfold Lp;simp(disch:=first|omega|(simp only[C6]<;>omega)) only[B0,reduceCtorEq,t2,t5,t6,aA,hxi,b1,dl];refine D9.AXG (P:=fun tm df H'=>df=[]∧D0 tm [(T1,C2 h.A6 0),(U2,v5),(Q8,iN i)]∧H'=H) ?_ ?_
     · refine K6 (n:=i) (by omega) (fun k tm H'=>D0 tm [(T1,C2 h.A6 0),(U2,v5),(Q8,iN i),(AL,iN k)]∧H'=H) ⟨by simp[D0,T.A9,t2,t5,t6],rfl⟩ (fun k tm H' hk hI=>?_) (fun tm H' hI=>?_)
       ·obtain⟨⟨t2,t5,t6,t7,-⟩,rfl⟩:=hI;have hxk:=O7 (OP (s:=0) (k:=n+4+a+b+c) (i:=k) (by omega));rw[Ag] at hxk;unfold Kc;simp(disch:=omega) only[B0,reduceCtorEq,t5,t6,t7,aA,hxi,hxk];exact .go ⟨by simp[D0,T.A9,t2,t5,t6],rfl⟩
       ·obtain⟨⟨t2,t5,t6,t7,-⟩,rfl⟩:=hI;unfold Kc;simp(disch:=omega) only[B0,t6,t7];exact .ex ⟨rfl,rfl,by simp[D0,T.A9,t2,t5,t6],rfl⟩
     rintro tm df H' ⟨rfl,⟨t2,t5,t6,-⟩,rfl⟩;simp(disch:=omega) only[B0,t6];exact .go ⟨by simp[D0,T.A9,t2,t5],rfl⟩
   ·obtain⟨⟨t2,t5,t6,-⟩,rfl⟩:=hI;unfold Lp;simp(disch:=omega) only[B0,t5,t6,al];exact .ex ⟨rfl,rfl,rfl⟩
 rintro tm df H ⟨rfl,rfl⟩;simp only[B0];refine .ret ?_;simp only[B0];exact⟨rfl,w1,fJ.trans f1 fun _ _ h=>h⟩
abbrev AQN(A7:Call):Prop:=RLayR (A7 37)
def ZQ(l:List Nat)(t size i:Nat):List Nat:=(List.range i).map fun j=>l.getD (t*size+j) 255
theorem AI0(l:List Nat)(t size i:Nat):(ZQ l t size i).length=i:=by simp[ZQ]
theorem ACk(l:List Nat)(t size i:Nat):ZQ l t size (i+1)=ZQ l t size i++[l.getD (t*size+i) 255]:=by simp[ZQ,qp]
theorem Bd.AS7{K H:Hp}{v:A0}{n:Nat}(hb:Bd 5 1 K N5 H v n (M4 l))(hn:l.length=n)(h0:0<n):AND l K v H:=by
 obtain⟨⟨h1,h2⟩,w,f⟩:=hb.wt hn h0;obtain⟨⟨hl,h2',⟨h3,_⟩|⟨b,rfl,h4,h5,h6⟩⟩,_,_⟩:=hb
 ·omega
 ·exact⟨⟨h1,YB.own h5 w,h2⟩,w,f⟩
abbrev RCont19R(g:List A0→Hp→N3):Prop:=∀h bv l t size,Wf h→Sl 1 h bv l.length (M4 l)→l.length≤5000→0<size→size≤5000→(t+1)*size≤5000→C0 (g [bv,iN t,iN size] h) (AND (AJ l t size) h)
theorem A6b:RCont19R (G8 qf A7 cd):=by
 intro h bv l t size hw hb hl h0 hs ht;obtain⟨J,hJ,wJ,fJ,nJ,a1⟩:=J7 hw (B6 [] 0 5 true);have hwb:=hw.base;have bl:=hb.len;have hq:(t+1)*size=t*size+size:=uI t size;refine B5 rfl ?_;have tb:t≤5000:=by have:=A2I (t+1) h0;omega
 simp(disch:=omega) only[B0,reduceCtorEq,hJ];refine D9.lp (P:=fun tm df H=>df=[]∧∃o,D0 tm [(AL,o)]∧Bd 5 1 h N5 H o size (M4 (ZQ l t size size))) ?_ ?_
 · refine K6 (n:=size) (by omega) (fun i tm H=>∃o,D0 tm [([],bv),(Q0,iN t),(T1,iN size),(AL,o),(Cj,iN (t*size+i))]∧Bd 5 1 h N5 H o i (M4 (ZQ l t size i))) ?_ (fun i tm H hi hI=>?_) (fun tm H hI=>?_)
   ·exact⟨_,by simp[D0,T.A9,qE,Nj,Pa];rfl,Bd.OX wJ fJ⟩
   · obtain⟨o,⟨t0,t1,t2,t7,t8,-⟩,bd⟩:=hI;have hbH:=hb.fr hw bd.fr;obtain⟨o',H',e1,bd2⟩:=bd.one hw (bN (l.getD (t*size+i) 255)) U6 (by omega);rw[show M4 (ZQ l t size i)++[bN (l.getD (t*size+i) 255)]=M4 (ZQ l t size (i+1)) by rw[ACk,Ih];rfl] at bd2;unfold Nd;by_cases hc:t*size+i<l.length
     · have hx:l[t*size+i]?=some (l.getD (t*size+i) 255):=by grind
       have vA:=hbH.A (by omega);simp(disch:=first|omega|exact⟨rfl,rfl,rfl⟩|assumption) only[B0,reduceCtorEq,t0,t1,t2,t7,t8,vA,Q1 hx,e1];exact .go ⟨o',by simp[D0,T.A9,t0,t1,t2,Es],bd2⟩
     · have hx:l.getD (t*size+i) 255=255:=by grind
       rw[hx] at e1;simp(disch:=first|omega|exact⟨rfl,rfl,rfl⟩|assumption) only[B0,reduceCtorEq,t0,t1,t2,t7,t8,bl,e1];exact .go ⟨o',by simp[D0,T.A9,t0,t1,t2,Es],bd2⟩
   ·obtain⟨o,⟨t0,t1,t2,t7,t8,-⟩,bd⟩:=hI;unfold Nd;simp(disch:=omega) only[B0,t1,t2,t8];exact .ex ⟨rfl,rfl,o,by simp[D0,T.A9,t7],bd⟩
 rintro tm df H ⟨rfl,o,⟨t7,-⟩,bd⟩;simp only[B0,t7];refine .ret ?_;simp only[B0];exact bd.AS7 (AI0 _ _ _ _) h0
abbrev bQ(A7:Call):Prop:=RCont19R (A7 40)
theorem ATV{n a b A:Nat}(hw:Wf J)(hA:J.at A=some (B6 [iN a,iN b,iN c] 3 92 true))(hB:J.at B=some (B6 (AX n B7 B7 B7) 8 42 true))(hAB:A≠B)(hAl:A<J.A6)(hBl:B<J.A6)(hBb:J.base≤B)(ht:D0 tm [(Q3,C2 A 0),(V1,q4),(U2,iN s0),(Q8,C2 B 0),(AL,iN 0)])(hs:s0+a≤64):
 D9 (Dx (.loop Ea) A7 tm [] J) (fun e tm df H=>e=.exit 0∧df=[]∧∃v,D0 tm [(Q3,C2 A 0),(V1,q4),(U2,iN (s0+a)),(Q8,C2 B 0)]∧Bd 3 1 J (fun k=>k=B) H v a (J8 (l8 s0 a))∧H.at B=some (B6 (AX n v B7 B7) 8 42 true)):=by
 obtain⟨t3,t4,t5,t6,t7,-⟩:=ht;have hwb:=hw.base;refine K6 (n:=a) (by omega) (fun i tm H=>∃v,D0 tm [(Q3,C2 A 0),(V1,q4),(U2,iN (s0+i)),(Q8,C2 B 0),(AL,iN i)]∧Bd 3 1 J (fun k=>k=B) H v i (J8 (l8 s0 i))∧H.at B=some (B6 (AX n v B7 B7) 8 42 true)) ?_ (fun i tm H hi hI=>?_) (fun tm H hI=>?_)
 ·exact⟨B7,by simp[D0,t3,t4,t5,t6,t7],Bd.nil hw (Fr.refl _ _),hB⟩
 · obtain⟨v,⟨t3,t4,t5,t6,t7,-⟩,bd,hB⟩:=hI;have b3:H.at A=some (B6 [iN a,iN b,iN c] 3 92 true):=by rw[bd.fr.M5 A hAl hAB];exact hA
   obtain⟨v',H',e1,bd2⟩:=bd.one hw (iN (s0+i)) U6 (by omega);rw[show J8 (l8 s0 i)++[iN (s0+i)]=J8 (l8 s0 (i+1)) by rw[Ju,BC];rfl] at bd2;have nH:=bd.fr.A6;have bH:=bd.fr.base;have b4:H'.at B=some (B6 (AX n v B7 B7) 8 42 true):=by have h1:=e1;obtain⟨v2,H2,e2,_,_,_,f2⟩:=(bd.step (bd.wf.new (B6 [iN (s0+i)] 1 3 true)) (Fr.new _)).app hw (y:=F8 H.A6 0 1 1) ⟨rfl,.inr ⟨_,_,_,rfl,by omega,O3 Dm (by simp)⟩⟩ (by rw[pH U6];rfl) (by omega) (by omega);rw[e1] at e2;injection e2 with _ e3;subst e3;rw[f2.M5 B (by rw[Q6];omega) fun hq=>by have:=bd.out.S6 hq.1 hq.2;omega,CN (by omega)];exact hB
   unfold AX at hB b4;unfold Ea;have cv':=bd2.cell;simp(disch:=first|omega|(simp only[C6]<;>omega)|exact⟨rfl,rfl,rfl⟩|assumption) only[B0,reduceCtorEq,Nat.reduceAdd,t3,t5,t6,t7,b3,hB,e1,b4];refine .go ⟨v',by simp[D0,T.A9,t3,t4,t6,Es],bd2.put hw rfl hBl hBb _,?_⟩;rw[K0];rfl
 · obtain⟨v,⟨t3,t4,t5,t6,t7,-⟩,bd,hB⟩:=hI;have b3:H.at A=some (B6 [iN a,iN b,iN c] 3 92 true):=by rw[bd.fr.M5 A hAl hAB];exact hA
   unfold Ea;simp(disch:=first|omega|(simp only[C6]<;>omega)) only[B0,Nat.reduceAdd,t3,t7,b3];exact .ex ⟨rfl,rfl,v,by simp[D0,T.A9,t3,t4,t5,t6],bd,hB⟩
theorem ASJ{n a b A:Nat}(hw:Wf J)(hA:J.at A=some (B6 [iN a,iN b,iN c] 3 92 true))(hB:J.at B=some (B6 (AX n x B7 B7) 8 42 true))(hAB:A≠B)(hAl:A<J.A6)(hBl:B<J.A6)(hBb:J.base≤B)(ht:D0 tm [(Q3,C2 A 0),(V1,q4),(U2,iN s0),(Q8,C2 B 0),(Cj,iN 0)])(hs:s0+b≤64):
 D9 (Dx (.loop EZ) A7 tm [] J) (fun e tm df H=>e=.exit 2∧df=[]∧∃v,D0 tm [(Q3,C2 A 0),(V1,q4),(U2,iN (s0+b)),(Q8,C2 B 0)]∧Bd 3 1 J (fun k=>k=B) H v b (J8 (l8 s0 b))∧H.at B=some (B6 (AX n x v B7) 8 42 true)):=by
 obtain⟨t3,t4,t5,t6,t7,-⟩:=ht;have hwb:=hw.base;refine K6 (n:=b) (by omega) (fun i tm H=>∃v,D0 tm [(Q3,C2 A 0),(V1,q4),(U2,iN (s0+i)),(Q8,C2 B 0),(Cj,iN i)]∧Bd 3 1 J (fun k=>k=B) H v i (J8 (l8 s0 i))∧H.at B=some (B6 (AX n x v B7) 8 42 true)) ?_ (fun i tm H hi hI=>?_) (fun tm H hI=>?_)
 ·exact⟨B7,by simp[D0,t3,t4,t5,t6,t7],Bd.nil hw (Fr.refl _ _),hB⟩
 · obtain⟨v,⟨t3,t4,t5,t6,t7,-⟩,bd,hB⟩:=hI;have b3:H.at A=some (B6 [iN a,iN b,iN c] 3 92 true):=by rw[bd.fr.M5 A hAl hAB];exact hA
   obtain⟨v',H',e1,bd2⟩:=bd.one hw (iN (s0+i)) U6 (by omega);rw[show J8 (l8 s0 i)++[iN (s0+i)]=J8 (l8 s0 (i+1)) by rw[Ju,BC];rfl] at bd2;have nH:=bd.fr.A6;have bH:=bd.fr.base;have b4:H'.at B=some (B6 (AX n x v B7) 8 42 true):=by have h1:=e1;obtain⟨v2,H2,e2,_,_,_,f2⟩:=(bd.step (bd.wf.new (B6 [iN (s0+i)] 1 3 true)) (Fr.new _)).app hw (y:=F8 H.A6 0 1 1) ⟨rfl,.inr ⟨_,_,_,rfl,by omega,O3 Dm (by simp)⟩⟩ (by rw[pH U6];rfl) (by omega) (by omega);rw[e1] at e2;injection e2 with _ e3;subst e3;rw[f2.M5 B (by rw[Q6];omega) fun hq=>by have:=bd.out.S6 hq.1 hq.2;omega,CN (by omega)];exact hB
   unfold AX at hB b4;unfold EZ;have cv':=bd2.cell;simp(disch:=first|omega|(simp only[C6]<;>omega)|exact⟨rfl,rfl,rfl⟩|assumption) only[B0,reduceCtorEq,t3,t5,t6,t7,b3,hB,e1,b4];refine .go ⟨v',by simp[D0,T.A9,t3,t4,t6,Es],bd2.put hw rfl hBl hBb _,?_⟩;rw[K0];rfl
 · obtain⟨v,⟨t3,t4,t5,t6,t7,-⟩,bd,hB⟩:=hI;have b3:H.at A=some (B6 [iN a,iN b,iN c] 3 92 true):=by rw[bd.fr.M5 A hAl hAB];exact hA
   unfold EZ;simp(disch:=first|omega|(simp only[C6]<;>omega)) only[B0,t3,t7,b3];exact .ex ⟨rfl,rfl,v,by simp[D0,T.A9,t3,t4,t5,t6],bd,hB⟩
theorem ATj{n a b A:Nat}(hw:Wf J)(hA:J.at A=some (B6 [iN a,iN b,iN c] 3 92 true))(hB:J.at B=some (B6 (AX n x y B7) 8 42 true))(hAB:A≠B)(hAl:A<J.A6)(hBl:B<J.A6)(hBb:J.base≤B)(ht:D0 tm [(Q3,C2 A 0),(V1,q4),(U2,iN s0),(Q8,C2 B 0),(DZ,iN 0)])(hs:s0+c≤64):
 D9 (Dx (.loop EY) A7 tm [] J) (fun e tm df H=>e=.exit 4∧df=[]∧∃v,D0 tm [(Q3,C2 A 0),(V1,q4),(U2,iN (s0+c)),(Q8,C2 B 0)]∧Bd 3 1 J (fun k=>k=B) H v c (J8 (l8 s0 c))∧H.at B=some (B6 (AX n x y v) 8 42 true)):=by
 obtain⟨t3,t4,t5,t6,t7,-⟩:=ht;have hwb:=hw.base;refine K6 (n:=c) (by omega) (fun i tm H=>∃v,D0 tm [(Q3,C2 A 0),(V1,q4),(U2,iN (s0+i)),(Q8,C2 B 0),(DZ,iN i)]∧Bd 3 1 J (fun k=>k=B) H v i (J8 (l8 s0 i))∧H.at B=some (B6 (AX n x y v) 8 42 true)) ?_ (fun i tm H hi hI=>?_) (fun tm H hI=>?_)
 ·exact⟨B7,by simp[D0,t3,t4,t5,t6,t7],Bd.nil hw (Fr.refl _ _),hB⟩
 · obtain⟨v,⟨t3,t4,t5,t6,t7,-⟩,bd,hB⟩:=hI;have b3:H.at A=some (B6 [iN a,iN b,iN c] 3 92 true):=by rw[bd.fr.M5 A hAl hAB];exact hA
   obtain⟨v',H',e1,bd2⟩:=bd.one hw (iN (s0+i)) U6 (by omega);rw[show J8 (l8 s0 i)++[iN (s0+i)]=J8 (l8 s0 (i+1)) by rw[Ju,BC];rfl] at bd2;have nH:=bd.fr.A6;have bH:=bd.fr.base;have b4:H'.at B=some (B6 (AX n x y v) 8 42 true):=by have h1:=e1;obtain⟨v2,H2,e2,_,_,_,f2⟩:=(bd.step (bd.wf.new (B6 [iN (s0+i)] 1 3 true)) (Fr.new _)).app hw (y:=F8 H.A6 0 1 1) ⟨rfl,.inr ⟨_,_,_,rfl,by omega,O3 Dm (by simp)⟩⟩ (by rw[pH U6];rfl) (by omega) (by omega);rw[e1] at e2;injection e2 with _ e3;subst e3;rw[f2.M5 B (by rw[Q6];omega) fun hq=>by have:=bd.out.S6 hq.1 hq.2;omega,CN (by omega)];exact hB
   unfold AX at hB b4;unfold EY;have cv':=bd2.cell;simp(disch:=first|omega|(simp only[C6]<;>omega)|exact⟨rfl,rfl,rfl⟩|assumption) only[B0,reduceCtorEq,t3,t5,t6,t7,b3,hB,e1,b4];refine .go ⟨v',by simp[D0,T.A9,t3,t4,t6,Es],bd2.put hw rfl hBl hBb _,?_⟩;rw[K0];rfl
 · obtain⟨v,⟨t3,t4,t5,t6,t7,-⟩,bd,hB⟩:=hI;have b3:H.at A=some (B6 [iN a,iN b,iN c] 3 92 true):=by rw[bd.fr.M5 A hAl hAB];exact hA
   unfold EY;simp(disch:=first|omega|(simp only[C6]<;>omega)) only[B0,t3,t7,b3];exact .ex ⟨rfl,rfl,v,by simp[D0,T.A9,t3,t4,t5,t6],bd,hB⟩
def Aax(n a b c lo:Nat)(r:A0)(H:Hp):Prop:=∃sv uv tv,r=.agg ⟨AX n sv uv tv⟩∧TW H n a b c sv uv tv∧∀k,(0<a∧Ch sv k)∨(0<b∧Ch uv k)∨(0<c∧Ch tv k)→lo≤k
abbrev RLayoutR(g:List A0→Hp→N3):Prop:=∀h n a b c,Wf h→n+4+a+b+c≤64→C0 (g [iN n,.agg ⟨[iN a,iN b,iN c]⟩] h) (fun r H=>Aax n a b c h.A6 r H∧Wf H∧Fr N5 h H)
theorem vG:RLayoutR (G8 bu A7 cd):=by
 intro h n a b c hw hn;obtain⟨J0,hJ0,wJ0,fJ0,nJ0,a1,a2⟩:=U7 hw (B6 [iN a,iN b,iN c] 3 92 true) (B6 [i0,i0,i0,i0,i0,B7,B7,B7] 8 42 true);obtain⟨J,hJ,wJ,f1,nJ,a3⟩:=O5 wJ0 [i0,i0,i0,i0,i0,B7,B7,B7] (AX n B7 B7 B7) 8 42;have hwb:=hw.base;have fJ:=fJ0.trans f1 fun _ _ h=>h;have bJ:=fJ.base;have bJ0:=fJ0.base;unfold AX at hJ;refine B5 rfl ?_;simp(disch:=first|omega|(simp only[C6]<;>omega)|exact⟨rfl,rfl,rfl⟩|assumption) only[B0,reduceCtorEq,hJ0,hJ];have A1:J.at h.A6=some (B6 [iN a,iN b,iN c] 3 92 true):=by rw[f1.e _ (by omega)];exact a1
 have A2:J.at (h.A6+1)=some (B6 [i0,i0,i0,i0,i0,B7,B7,B7] 8 42 true):=by rw[f1.e _ (by omega)];exact a2
 refine D9.lp (ATV (q4:=C2 (h.A6+1) 0) (s0:=n+4) wJ A1 a3 (by omega) (by omega) (by omega) (by omega) (by simp[D0,T.A9]) (by omega)) ?_;rintro tm df H2 ⟨rfl,sv,⟨t3,t4,t5,t6,-⟩,d2,B2⟩;have m2:=d2.fr.A6;have c2:=d2.fr.base;have e2:=d2.fr.M5;have A1':H2.at h.A6=some (B6 [iN a,iN b,iN c] 3 92 true):=by grind
 simp only[B0];refine D9.lp (ASJ (q4:=C2 (h.A6+1) 0) (s0:=n+4+a) d2.wf A1' B2 (by omega) (by omega) (by omega) (by omega) (by simp[D0,T.A9,t3,t4,t5,t6]) (by omega)) ?_;rintro tm df H3 ⟨rfl,uv,⟨t3,t4,t5,t6,-⟩,d3,B3⟩;have m3:=d3.fr.A6;have c3:=d3.fr.base;have e3:=d3.fr.M5;have A1'':H3.at h.A6=some (B6 [iN a,iN b,iN c] 3 92 true):=by grind
 simp only[B0];refine D9.lp (ATj (q4:=C2 (h.A6+1) 0) (s0:=n+4+a+b) d3.wf A1'' B3 (by omega) (by omega) (by omega) (by omega) (by simp[D0,T.A9,t3,t4,t5,t6]) (by omega)) ?_;rintro tm df H4 ⟨rfl,tv,⟨t3,t4,t5,t6,-⟩,d4,B4⟩;have m4:=d4.fr.A6;have c4:=d4.fr.base;have e4:=d4.fr.M5;have A2':H4.at (h.A6+1)=some (B6 [i0,i0,i0,i0,i0,B7,B7,B7] 8 42 true):=by grind
 have s2:=d2.sl.K7 fun c h0 hc=>by have:=d2.out.S6 h0 hc;have:=d2.sl.lt d2.wf h0 hc;rw[e4 _ (by omega) (by omega),e3 _ (by omega) (by omega)]
 have s3:=d3.sl.K7 fun c h0 hc=>by have:=d3.out.S6 h0 hc;have:=d3.sl.lt d3.wf h0 hc;rw[e4 _ (by omega) (by omega)]
 have s4:=d4.sl;have x2:=s2.cell;have x3:=s3.cell;have x4:=s4.cell;have bl:∀ {v:A0} {k:Nat} {l:List A0} {K H:Hp} {Q:Nat→Prop},Bd 3 1 K Q H v k l→h.A6+3≤K.A6→0<k→∀c,Ch v c→c≠h.A6+1:=fun d hk h0 c hc=>by have:=d.out.S6 h0 hc;omega
 unfold AX at B4;simp(disch:=first|omega|(simp only[C6]<;>omega)) only[B0,t4,t6,B4,A2'];refine .ret ?_;simp(disch:=first|omega|(simp only[C6]<;>omega)) only[B0,t4];refine⟨⟨sv,uv,tv,rfl,⟨s2.K7 fun c h0 hc=>?_,s3.K7 fun c h0 hc=>?_,s4.K7 fun c h0 hc=>?_⟩,fun k hk=>by
  rcases hk with⟨h0,hc⟩|⟨h0,hc⟩|⟨h0,hc⟩
  ·have:=d2.out.S6 h0 hc;omega
  ·have:=d3.out.S6 h0 hc;omega
  ·have:=d4.out.S6 h0 hc;omega⟩,d4.wf.put (by omega) _,?_⟩
 ·exact E9 (Ne.symm (bl d2 (by omega) h0 c hc))
 ·exact E9 (Ne.symm (bl d3 (by omega) h0 c hc))
 ·exact E9 (Ne.symm (bl d4 (by omega) h0 c hc))
 ·have fz:=(d2.fr.trans d3.fr fun _ _ h=>h).trans d4.fr fun _ _ h=>h;exact(fJ.trans fz fun k hk e=>by omega).O6 _ (fun hk=>by omega) (by omega)
abbrev A8I(A7:Call):Prop:=RLayoutR (A7 23)
abbrev SH:=List UInt8
def Nl(c:UInt8)(l:SH):Prop:=∀x∈l,x≠c
theorem A4D{c:UInt8}{r:SH}:∀ {l:SH} (i:Nat),Nl c l→LA c.toNat (l++c::r) i=.ofNat (i+l.length)
 | [],i,_=>by
  show(bif Nat.beq c.toNat c.toNat then Int.ofNat i else _)=_;rw[Dg];rfl
 | x::l,i,h=>by show(bif Nat.beq x.toNat c.toNat then Int.ofNat i else C8 (Nat.succ i) (LA c.toNat (l++c::r)))=_;have h1:=h x Ct;rw[U4 (fun e=>h1 (lX.1 e)),cond_false,C1,A4D _ fun y hy=>h y (EM _ hy)];congr 1;simp;omega
theorem A0q{c:UInt8}:∀ {l:SH} (k:Nat),Nl c l→GQ c.toNat l k=k
 | [],k,_=>rfl
 | x::l,k,h=>by show(bif Nat.beq x.toNat c.toNat then C8 (Nat.succ k) (GQ c.toNat l) else GQ c.toNat l k)=_;have h1:=h x Ct;rw[U4 (fun e=>h1 (lX.1 e)),cond_false];exact A0q _ fun y hy=>h y (EM _ hy)
theorem AE5{c:UInt8}{r:SH}:∀ {l:SH} (k:Nat),Nl c l→GQ c.toNat (l++c::r) k=GQ c.toNat r (k+1)
 | [],k,_=>by
  show(bif Nat.beq c.toNat c.toNat then C8 (Nat.succ k) (GQ c.toNat r) else _)=_;rw[Dg,cond_true,C1]
 | x::l,k,h=>by show(bif Nat.beq x.toNat c.toNat then C8 (Nat.succ k) (GQ c.toNat (l++c::r)) else GQ c.toNat (l++c::r) k)=_;have h1:=h x Ct;rw[U4 (fun e=>h1 (lX.1 e)),cond_false];exact AE5 _ fun y hy=>h y (EM _ hy)
def BQ:List SH→SH
 | []=>[]
 | [a]=>a
 | a::b::r=>a++10::BQ (b::r)
theorem A9O(a:SH){r:List SH}(h:r≠[]):BQ (a::r)=a++10::BQ r:=by
 cases r with
 | nil=>exact absurd rfl h
 | cons b r=>rfl
theorem xo:∀ {ls:List SH} (k:Nat),ls≠[]→(∀l∈ls,Nl 10 l)→GQ (10:UInt8).toNat (BQ ls) k+1=k+ls.length
 | [],k,h,_=>absurd rfl h
 | [a],k,_,h=>by
  show GQ (10:UInt8).toNat a k+1=_;rw[A0q k (h a Ct)];rfl
 | a::b::r,k,_,h=>by show GQ (10:UInt8).toNat (a++10::BQ (b::r)) k+1=_;rw[AE5 k (h a Ct),xo (k+1) (by simp) fun l hl=>h l (EM _ hl)];simp;omega
theorem zP:∀ {ls:List SH} {m:Nat},(∀l∈ls,l.length≤m)→(BQ ls).length≤ls.length*(m+1)
 | [],m,h=>by simp[BQ]
 | [a],m,h=>by
  have:=h a Ct;show a.length≤_;simp;omega
 | a::b::r,m,h=>by have h1:=h a Ct;have h2:=zP fun l hl=>h l (EM _ hl);show(a++10::BQ (b::r)).length≤_;rw[Bz,Gn,Gn,Mm];omega
theorem yQ:∀(ls:List SH),ls≠[]→BQ (ls++[[]])=ls.flatMap (·++[10])
 | [],h=>absurd rfl h
 | [a],_=>by show a++10::[]=[a].flatMap (·++[10]);simp
 | a::b::r,_=>by show a++10::BQ (b::r++[[]])=_;rw[yQ (b::r) (by simp)];simp
def iO:SH:=[118,97,108]
def HN:SH:=[115,101,116,116,105,110,103,115,32,52]
def JI(x:ByteArray×ByteArray):SH:=iO++32::(bl x.1++32::bl x.2)
def CK(s:List (ByteArray×ByteArray)):List SH:=HN::s.map JI
def O9(s:List (ByteArray×ByteArray)):SH:=(CK s).flatMap (·++[10])
theorem ADk(s:List (ByteArray×ByteArray)):O9 s=BQ (CK s++[[]]):=(yQ _ (by simp[CK])).symm
structure ADW(x:ByteArray×ByteArray):Prop where
 n0:0<(bl x.1).length
 n1:(bl x.1).length≤2
 v1:(bl x.2).length≤3
 f1:Nl 10 (bl x.1)
 f2:Nl 10 (bl x.2)
 f3:Nl 32 (bl x.1)
theorem A4s{c:UInt8}{a b:SH}(h:Nl c a)(k:Nl c b):Nl c (a++b):=fun x hx=>by
 rcases Gt.1 hx with e|e
 ·exact h x e
 ·exact k x e
theorem zz{c b:UInt8}{a:SH}(h:b≠c)(k:Nl c a):Nl c (b::a):=fun x hx=>by
 rcases m8.1 hx with rfl|e
 ·exact h
 ·exact k x e
theorem AM7(c:UInt8)(h:c=10∨c=32):Nl c iO:=by rcases h with rfl|rfl<;>(intro x hx;simp[iO] at hx;rcases hx with rfl|rfl|rfl<;>decide)
theorem ABC{x:ByteArray×ByteArray}(h:ADW x):Nl 10 (JI x):=A4s (AM7 10 (.inl rfl)) (zz (by decide) (A4s h.f1 (zz (by decide) h.f2)))
theorem AHf:Nl 10 HN:=by intro x hx;simp[HN] at hx;rcases hx with rfl|rfl|rfl|rfl|rfl|rfl|rfl|rfl|rfl<;>decide
theorem A9y{s:List (ByteArray×ByteArray)}(h:∀x∈s,ADW x):∀l∈CK s,Nl 10 l:=by
 intro l hl;rcases m8.1 hl with rfl|hl
 ·exact AHf
 ·obtain⟨x,hx,rfl⟩:=FY.1 hl;exact ABC (h x hx)
theorem fF{x:ByteArray×ByteArray}(h:ADW x):(JI x).length≤10:=by have:=h.n1;have:=h.v1;simp[JI,iO];omega
theorem HS{s:List (ByteArray×ByteArray)}(h:∀x∈s,ADW x)(h3:s.length≤3):(O9 s).length≤44:=by
 have e:∀(s:List (ByteArray×ByteArray)),(∀x∈s,ADW x)→((s.map JI).flatMap (·++[10])).length≤s.length*11:=by
  intro s;induction s with
  | nil=>intro _;simp
  | cons x s ih =>
   intro h;have h1:=fF (h x Ct);have h2:=ih fun y hy=>h y (EM _ hy);rw[AEB,tI,Bz,Bz,Gn];simp at h2 ⊢;omega
 have:=e s h;unfold O9 CK;rw[tI,Bz];simp[HN] at this ⊢;omega
abbrev Pr:=ByteArray×ByteArray
def GL(x:Pr):List A0:=[.string x.1,.string x.2]
def YQ:List Pr→List A0
 | []=>[]
 | x::l=>.string x.1::.string x.2::YQ l
theorem AFT:∀l:List Pr,(YQ l).length=l.length*2
 | []=>rfl
 | x::l=>by show(YQ l).length+1+1=(l.length+1)*2;rw[AFT l];omega
theorem lE:∀(a b:List Pr),YQ (a++b)=YQ a++YQ b
 | [],b=>rfl
 | x::a,b=>by show _::_::YQ (a++b)=_;rw[lE a b];rfl
theorem AFb:∀l:List Pr,K9 (YQ l)=true
 | []=>rfl
 | x::l=>AFb l
theorem Kd:∀ {l:List Pr} {i:Nat} {x:Pr},l[i]?=some x→(YQ l)[i*2+0]?=some (.string x.1)
 | y::l,0,x,h=>by cases h;rfl
 | y::l,i+1,x,h=>by rw[show(i+1)*2+0=(i*2+0)+1+1 by omega];exact Kd h
theorem A5x:∀ {l:List Pr} {i:Nat} {x:Pr},l[i]?=some x→(YQ l)[i*2+1]?=some (.string x.2)
 | y::l,0,x,h=>by cases h;rfl
 | y::l,i+1,x,h=>by rw[show(i+1)*2+1=(i*2+1)+1+1 by omega];exact A5x h
theorem TC:∀ {l:List Pr} {i:Nat} {x:Pr},l[i]?=some x→((YQ l).drop (i*2)).take 2=GL x
 | y::l,0,x,h=>by cases h;rfl
 | y::l,i+1,x,h=>by rw[show(i+1)*2=i*2+1+1 by omega];exact TC h
abbrev Ng(H:Hp)(v:A0)(l:List Pr):Prop:=Sl 2 H v l.length (YQ l)
def W2(n:Nat):ByteArray:=O2 (match n%8 with|0=>[97]|1=>[98]|2=>[99]|3=>[100]|4=>[101,49]|5=>[70]|6=>[103,103]|_=>[104])
def cj(n:Nat):ByteArray:=O2 (match n%4 with|0=>[]|1=>[49]|2=>[120,32,121]|_=>[126])
def valueOf(x:Nat×Nat):Pr:=(W2 x.1,cj x.2)
theorem vC(n:Nat):n%8=0∨n%8=1∨n%8=2∨n%8=3∨n%8=4∨n%8=5∨n%8=6∨n%8=7:=by omega
theorem APx(n:Nat):n%4=0∨n%4=1∨n%4=2∨n%4=3:=by omega
theorem A8g{n:Nat}(hw:Wf h)(hn:n<256):C0 (G8 tD A7 cd [bN n] h) (QR (.string (W2 n)) h):=by
 obtain⟨J,hJ,wJ,fJ,nJ,a1⟩:=J7 hw (B6 [.string (O2 [97]),.string (O2 [98]),.string (O2 [99]),.string (O2 [100]),.string (O2 [101,49]),.string (O2 [70]),.string (O2 [103,103]),.string (O2 [104])] 8 9 true);have hwb:=hw.base;have e1:PG (.ofNat (n%8)) (.ofNat 8)=true:=BW (by omega);refine B5 rfl ?_;rcases vC n with e|e|e|e|e|e|e|e
 all_goals
  simp(disch:=first|omega|(simp only[C6]<;>omega)|exact⟨rfl,rfl,rfl⟩|assumption) only[↓CG,B0,reduceCtorEq,Nat.reduceAdd,Nat.reduceMul,Nat.reduceSub,hJ,a1,e];refine .ret ?_;simp(disch:=first|omega|(simp only[C6]<;>omega)|exact⟨rfl,rfl,rfl⟩|assumption) only[↓CG,B0,reduceCtorEq,Nat.reduceAdd,Nat.reduceMul,Nat.reduceSub,];exact⟨by unfold W2;rw[e];rfl,fJ.log⟩
abbrev ZO(A7:Call):Prop:=∀H n,Wf H→n<256→A7 164 [bN n] H=.val (.string (W2 n)) H
theorem A0B(hC:ZO A7){x:Nat×Nat}(hw:Wf h)(h1:x.1<256)(h2:x.2<256):C0 (G8 iS A7 cd [.agg ⟨[bN x.1,bN x.2]⟩] h) (QR (.agg ⟨GL (valueOf x)⟩) h):=by
 obtain⟨J,hJ,wJ,fJ,nJ,a1,a2⟩:=U7 hw (B6 [bN x.1,bN x.2] 2 255 true) (B6 [.string (O2 []),.string (O2 [])] 2 187 true);have hwb:=hw.base;have e1:=hC (B8 J J.A6 []) x.1 (wJ.sb []) h1;obtain⟨K,hK,wK,fK,nK,a3⟩:=J7 wJ (B6 [.string (O2 []),.string (O2 [49]),.string (O2 [120,32,121]),.string (O2 [126])] 4 9 true);have hsb:∀o,(B8 J J.A6 []).new o=B8 (J.new o) J.A6 []:=fun _=>rfl;have bJ:=fJ.base;have bK:=fK.base;refine B5 rfl ?_;rcases APx x.2 with e|e|e|e
 all_goals
  simp(disch:=first|omega|(simp only[C6]<;>omega)|exact⟨rfl,rfl,rfl⟩|assumption) only[↓CG,B0,reduceCtorEq,Nat.reduceAdd,Nat.reduceMul,Nat.reduceSub,hJ,a1,a2,e1,hsb,hK,a3,fK.e,fK.n,e];refine .ret ?_;simp(disch:=first|omega|(simp only[C6]<;>omega)|exact⟨rfl,rfl,rfl⟩|assumption) only[↓CG,B0,reduceCtorEq,Nat.reduceAdd,Nat.reduceMul,Nat.reduceSub,];refine(fun kZ:Ky h _ (h.A6+3)=>⟨by unfold valueOf GL cj;rw[e];rfl,kZ.fr.log⟩) ?_;exact(Ky.mk wK (fJ.trans fK fun _ _ h=>h) (by omega)).put (by omega) (by omega) hw _
abbrev VH(A7:Call):Prop:=∀H x,Wf H→x.1<256→x.2<256→A7 159 [.agg ⟨[bN x.1,bN x.2]⟩] H=.val (.agg ⟨GL (valueOf x)⟩) H
def findAt(nm:ByteArray):List Pr→Nat→Int
 | [],_=>.negSucc 0
 | x::l,i=>if PH (bl x.1) (bl nm)=true then .ofNat i else findAt nm l (i+1)
theorem A6A{l:List Pr}{x:Pr}(hx:l[i]?=some x):findAt nm (l.drop i) i=if PH (bl x.1) (bl nm)=true then .ofNat i else findAt nm (l.drop (i+1)) (i+1):=by have hi:=(Fe.1 hx).1;rw[mw hi];have:l[i]=x:=(Fe.1 hx).2;rw[this];rfl
theorem A4Y{v:A0}{l:List Pr}(hw:Wf h)(hv:Ng h v l)(hl:l.length≤1000):C0 (G8 oO A7 cd [v,.string nm] h) (QR (.int .i64 (findAt nm l 0)) h):=by
 have vl:=hv.len;refine B5 rfl ?_;simp only[B0];refine D9.A9C (P:=fun tm df H=>df=[]∧H=h∧findAt nm l 0=.negSucc 0) (R:=fun tm df H=>df=[]∧H=h∧D0 tm [(V1,.int .i64 (findAt nm l 0))]) ?_ ?_ ?_
 · refine K6 (n:=l.length) (by omega) (fun i tm H=>D0 tm [([],v),(Q0,.string nm),(U2,iN i)]∧H=h∧findAt nm l 0=findAt nm (l.drop i) i) ?_ (fun i tm H hi hI=>?_) (fun tm H hI=>?_)
   ·exact⟨by simp[D0,T.A9,Fy,PY],rfl,rfl⟩
   · obtain⟨⟨t0,t1,t5,-⟩,rfl,hfd⟩:=hI;have hx:=X0 hi;have vA:=hv.A (by omega);have g0:=Kd hx;rw[A6A hx] at hfd;unfold Mp;by_cases he:PH (bl l[i].1) (bl nm)=true
     ·rw[if_pos he] at hfd;simp(disch:=omega) only[B0,reduceCtorEq,t0,t1,t5,vA,g0,he];exact .ret (.inr ⟨rfl,rfl,rfl,by simp[D0,T.A9,hfd]⟩)
     · rw[if_neg he] at hfd;have he':PH (bl l[i].1) (bl nm)=false:=by cases h:PH (bl l[i].1) (bl nm) with
        | true=>exact absurd h he
        | false=>rfl
       simp(disch:=omega) only[B0,reduceCtorEq,t0,t1,t5,vA,g0,he'];exact .go ⟨by simp[D0,T.A9,t0,t1],rfl,hfd⟩
   ·obtain⟨⟨t0,t1,t5,-⟩,rfl,hfd⟩:=hI;unfold Mp;simp(disch:=omega) only[B0,t0,t5,vl];exact .ex (.inl ⟨rfl,rfl,rfl,by rw[hfd,List.drop_length];rfl⟩)
 ·rintro tm df H ⟨rfl,rfl,hfd⟩;simp only[B0];refine .ret ?_;simp only[B0];exact⟨by rw[hfd],rfl⟩
 ·rintro tm df H ⟨rfl,rfl,t4,-⟩;refine .ret ?_;simp only[B0,t4];exact⟨rfl,rfl⟩
abbrev Zr(A7:Call):Prop:=∀H v l nm,Wf H→Ng H v l→l.length≤1000→A7 160 [v,.string nm] H=.val (.int .i64 (findAt nm l 0)) H
def EP(v:Pr)(s:Bool×List Pr)(x:Pr):Bool×List Pr:=if(!s.1&&gU (bl v.1) (bl x.1))=true then(true,s.2++[v]++[x]) else(s.1,s.2++[x])
def Aw(v:Pr)(l:List Pr):Bool×List Pr:=l.foldl (EP v) (PH (bl v.1) [],[])
def ry(v:Pr)(l:List Pr):List Pr:=if(Aw v l).1=true then(Aw v l).2 else(Aw v l).2++[v]
theorem take_one{α:Type}{l:List α}{x:α}(hx:l[i]?=some x):l.take (i+1)=l.take i++[x]:=by rw[AEQ,hx];rfl
theorem qZ(v:Pr)(l:List Pr)(x:Pr):Aw v (l++[x])=EP v (Aw v l) x:=by simp[Aw]
theorem A0d(v:Pr)(l:List Pr):∀k,k≤l.length→(Aw v (l.take k)).2.length≤k+1∧((Aw v (l.take k)).1=false→(Aw v (l.take k)).2.length=k):=by
 intro k;induction k with
 | zero =>
  intro _;exact⟨by simp[Aw],by simp[Aw]⟩
 | succ k ih =>
  intro hk;obtain⟨h1,h2⟩:=ih (by omega);rw[take_one (X0 (show k<l.length by omega)),qZ];generalize Aw v (l.take k)=s at *;unfold EP;cases hs:s.1 with
  | true =>
   simp only[hs,Bool.not_true,Bool.false_and,A5y,if_false];exact⟨by rw[Bz];simp;omega,fun h=>by simp at h⟩
  | false =>
   have h4:=h2 hs;cases hl:gU (bl v.1) (bl l[k].1) with
   | true =>
    simp only[Bool.not_false,Bool.true_and,if_true];exact⟨by simp;omega,fun h=>by simp at h⟩
   | false =>
    simp only[Bool.not_false,Bool.true_and,A5y,if_false];exact⟨by simp;omega,fun _=>by simp;omega⟩
theorem zm(v:Pr)(l:List Pr):(ry v l).length≤l.length+1:=by
 obtain⟨h1,h2⟩:=A0d v l l.length (M8 _);rw[Rm] at h1 h2;unfold ry;by_cases h:(Aw v l).1=true
 ·rw[if_pos h];exact h1
 · rw[if_neg h];have:=h2 (by cases e:(Aw v l).1 with
    | true=>exact absurd e h
    | false=>rfl)
   simp;omega
def A7A(v:Pr):List Pr→List Pr
 | []=>[v]
 | x::r=>if gU (bl v.1) (bl x.1)=true then v::x::r else x::A7A v r
theorem AFw(v:Pr):∀(l o:List Pr),l.foldl (EP v) (true,o)=(true,o++l)
 | [],o=>by simp
 | x::l,o=>by
  show l.foldl (EP v) (EP v (true,o) x)=_;have:EP v (true,o) x=(true,o++[x]):=by simp[EP]
  rw[this,AFw v l];simp
theorem AFu(v:Pr):∀(l o:List Pr),(if(l.foldl (EP v) (false,o)).1=true then(l.foldl (EP v) (false,o)).2 else(l.foldl (EP v) (false,o)).2++[v])=o++A7A v l
 | [],o=>by simp[A7A]
 | x::l,o=>by
  have e:(x::l).foldl (EP v) (false,o)=l.foldl (EP v) (EP v (false,o) x):=rfl;rw[e];cases h:gU (bl v.1) (bl x.1) with
  | true =>
   have:EP v (false,o) x=(true,o++[v]++[x]):=by simp[EP,h]
   rw[this,AFw];simp[A7A,h]
  | false =>
   have:EP v (false,o) x=(false,o++[x]):=by simp[EP,h]
   rw[this,AFu v l];simp[A7A,h]
theorem ANv{v:Pr}(h:PH (bl v.1) []=false)(l:List Pr):ry v l=A7A v l:=by unfold ry Aw;rw[h];have:=AFu v l [];simpa using this
def rk(n:Nat):Nat:=match n%8 with|0=>1|1=>2|2=>3|3=>4|4=>5|5=>0|6=>6|_=>7
theorem qB(a b:Nat):gU (bl (W2 a)) (bl (W2 b))=decide (rk a<rk b):=by unfold W2 rk;rcases vC a with e|e|e|e|e|e|e|e<;>rcases vC b with e2|e2|e2|e2|e2|e2|e2|e2<;>rw[e,e2]<;>rfl
theorem AMB(a b:Nat):PH (bl (W2 a)) (bl (W2 b))=decide (rk a=rk b):=by unfold W2 rk;rcases vC a with e|e|e|e|e|e|e|e<;>rcases vC b with e2|e2|e2|e2|e2|e2|e2|e2<;>rw[e,e2]<;>rfl
theorem APy(a:Nat):PH (bl (W2 a)) []=false:=by unfold W2;rcases vC a with e|e|e|e|e|e|e|e<;>rw[e]<;>rfl
abbrev Ix:=List (Nat×Nat)
def GM(k:Ix):Prop:=k.Pairwise fun x y=>rk x.1<rk y.1
def N4(k:Ix):List Pr:=k.map valueOf
def Zw(x:Nat×Nat):Ix→Ix
 | []=>[x]
 | y::r=>if rk x.1<rk y.1 then x::y::r else y::Zw x r
def Xz(k:Ix)(x:Nat×Nat):Ix:=if k.all (fun y=>rk y.1 != rk x.1) then Zw x k else k
def AG(l:Ix):Ix:=l.foldl Xz []
theorem ya(x:Nat×Nat):∀k,A7A (valueOf x) (N4 k)=N4 (Zw x k)
 | []=>rfl
 | y::r=>by
  show(if gU (bl (W2 x.1)) (bl (W2 y.1))=true then _ else _)=N4 (if rk x.1<rk y.1 then _ else _);rw[qB];by_cases h:rk x.1<rk y.1
  ·simp[h,N4]
  ·simp[h];show valueOf y::A7A (valueOf x) (N4 r)=_;rw[ya x r];rfl
theorem A8T{x z:Nat×Nat}:∀ {k:Ix},z∈Zw x k→z=x∨z∈k
 | [],h=>by simp[Zw] at h;exact .inl h
 | y::r,h=>by
  unfold Zw at h;split at h
  · rcases m8.1 h with h|h
    ·exact .inl h
    ·exact .inr h
  · rcases m8.1 h with h|h
    ·exact .inr (h▸Ct)
    · rcases A8T h with h|h
      ·exact .inl h
      ·exact .inr (EM _ h)
theorem A4z{x:Nat×Nat}:∀ {k:Ix},GM k→(∀y∈k,rk y.1≠rk x.1)→GM (Zw x k)
 | [],h,hn=>by simp[Zw,GM]
 | y::r,h,hn=>by
  have h':(∀z∈r,rk y.1<rk z.1)∧GM r:=AAl.1 h;unfold Zw;split
  · rename_i hlt;refine AAl.2 ⟨fun z hz=>?_,h⟩;rcases m8.1 hz with rfl|hz
    ·exact hlt
    ·exact Nat.lt_trans hlt (h'.1 z hz)
  · rename_i hlt;refine AAl.2 ⟨fun z hz=>?_,A4z h'.2 fun z hz=>hn z (EM _ hz)⟩;rcases A8T hz with rfl|hz
    ·have:=hn y Ct;omega
    ·exact h'.1 z hz
theorem A5C(x:Nat×Nat):∀k,(Zw x k).length=k.length+1
 | []=>rfl
 | y::r=>by
  unfold Zw;split
  ·rfl
  ·show(Zw x r).length+1=_;rw[A5C x r];rfl
theorem AMy{k:Ix}(h:GM k)(x:Nat×Nat):GM (Xz k x):=by
 unfold Xz;split
 ·rename_i ha;exact A4z h fun y hy=>by simpa using Cc.1 ha y hy
 ·exact h
theorem ALW(k:Ix)(x:Nat×Nat):(Xz k x).length≤k.length+1:=by
 unfold Xz;split
 ·rw[A5C];exact M8 _
 ·omega
theorem fa(l:Ix):GM (AG l)∧(AG l).length≤l.length:=by
 have:∀(l k:Ix),GM k→GM (l.foldl Xz k)∧(l.foldl Xz k).length≤k.length+l.length:=by
  intro l;induction l with
  | nil=>intro k h;exact⟨h,by simp⟩
  | cons x l ih =>
   intro k h;obtain⟨h1,h2⟩:=ih (Xz k x) (AMy h x);have:=ALW k x;exact⟨h1,by show(l.foldl Xz (Xz k x)).length≤_;rw[Gn];omega⟩
 have:=this l [] (by simp[GM]);simpa[AG] using this
theorem gD(x:Nat):∀(k:Ix) (i:Nat),PG (findAt (W2 x) (N4 k) i) (.ofNat 0)=k.all (fun y=>rk y.1 != rk x)
 | [],i=>rfl
 | y::r,i=>by
  show PG (if PH (bl (W2 y.1)) (bl (W2 x))=true then .ofNat i else findAt (W2 x) (N4 r) (i+1)) (.ofNat 0)=_;rw[AMB];by_cases h:rk y.1=rk x
  ·simp[h];rfl
  ·rw[if_neg (by simpa using h),gD x r (i+1)];simp[h]
theorem eY(n:Nat):0<(bl (W2 n)).length∧(bl (W2 n)).length≤2:=by unfold W2;rcases vC n with e|e|e|e|e|e|e|e<;>rw[e]<;>exact⟨by decide,by decide⟩
theorem A76(n:Nat):(bl (cj n)).length≤3:=by unfold cj;rcases APx n with e|e|e|e<;>rw[e]<;>decide
def ARk(l:List Pr)(lo:Nat)(r:A0)(H:Hp):Prop:=Ng H r l∧∀c,0<l.length→Ch r c→lo≤c∧cE H c=187
def AZ2(l:List Pr)(h:Hp)(r:A0)(H:Hp):Prop:=ARk l h.A6 r H∧Wf H∧Fr N5 h H
theorem Bd.pr{K H:Hp}{v:A0}{l:List Pr}(hb:Bd 187 2 K N5 H v l.length (YQ l)):AZ2 l K v H:=by
 have hs:=hb.sl;obtain⟨⟨hl,h2,⟨h3,_⟩|⟨b,rfl,h4,h5,h6⟩⟩,w,f⟩:=hb
 ·exact⟨⟨hs,fun c h0=>by omega⟩,w,f⟩
 ·exact⟨⟨hs,fun c _ hc=>by rw[X3 hc];exact⟨h6,h5.cE⟩⟩,w,f⟩
theorem Bd.yT{K H:Hp}{Q:Nat→Prop}{v:A0}{l:List Pr}(hb:Bd 187 2 K Q H v l.length (YQ l))(hK:Wf K)(x:Pr)(hn:l.length≤90000):
 ∃v' H',DJ 187 2 v (F8 H.A6 0 1 1) (H.new (B6 (GL x) 2 187 true))=.val v' H'∧Bd 187 2 K Q H' v' (l++[x]).length (YQ (l++[x])):=by
 obtain⟨v',H',h1,h2,_⟩:=(hb.step (hb.wf.new _) (Fr.new (B6 (GL x) 2 187 true))).app hK (y:=F8 H.A6 0 1 1) ⟨rfl,.inr ⟨_,_,_,rfl,by omega,O3 Dm (by simp[GL])⟩⟩ rfl (by omega) (by omega);refine⟨v',H',h1,?_⟩;rw[lE,Bz];exact h2
abbrev R23IntoR(g:List A0→Hp→N3):Prop:=∀h v l x,Wf h→Ng h v l→l.length≤1000→C0 (g [v,.agg ⟨GL x⟩] h) (AZ2 (ry x l) h)
theorem A7F:R23IntoR (G8 mT A7 cd):=by
 intro h v l x hw hv hl;obtain⟨J,hJ,wJ,fJ,nJ,a1,a2⟩:=U7 hw (B6 (GL x) 2 187 true) (B6 [] 0 187 true);have hwb:=hw.base;have vl:=hv.len;have bJ:=fJ.base;unfold GL at hJ a1 ⊢;refine B5 rfl ?_;simp(disch:=first|omega|(simp only[C6]<;>omega)|assumption) only[B0,Nat.reduceAdd,hJ,a1,A2B fJ];have hlt:∀k,k≤l.length→(Aw x (l.take k)).2.length≤2000:=fun k hk=>by have:=(A0d x l k hk).1;omega
 refine D9.lp (P:=fun tm df H=>df=[]∧∃o,D0 tm [(Q3,C2 h.A6 0),(U2,o),(Q8,.bool (Aw x l).1)]∧Bd 187 2 J N5 H o (Aw x l).2.length (YQ (Aw x l).2)) ?_ ?_
 · refine K6 (n:=l.length) (by omega) (fun i tm H=>∃o,D0 tm [([],v),(Q3,C2 h.A6 0),(U2,o),(Q8,.bool (Aw x (l.take i)).1),(AL,iN i)]∧Bd 187 2 J N5 H o (Aw x (l.take i)).2.length (YQ (Aw x (l.take i)).2)) ?_ (fun i tm H hi hI=>?_) (fun tm H hI=>?_)
   ·exact⟨_,by simp[D0,T.A9,Fy,PY,Aw];rfl,Bd.OX wJ (Fr.refl _ _)⟩
   · obtain⟨o,⟨t0,t3,t5,t6,t7,-⟩,bd⟩:=hI;have hx:=X0 hi;have hvH:=hv.fr hw (fJ.trans bd.fr fun _ _ h=>h);have vA:=hvH.A (by omega);have g0:=Kd hx;have gl:=TC hx;have b1:=bd.fr.e h.A6 (by omega);rw[a1] at b1;have hs:=qZ x (l.take i) l[i];rw[←take_one hx] at hs;have hlen:=hlt i (by omega);generalize Aw x (l.take i)=s at *;unfold GL at gl;unfold Mq;cases hd:s.1 with
     | true =>
      have hs2:Aw x (l.take (i+1))=(true,s.2++[l[i]]):=by rw[hs];simp[EP,hd]
      obtain⟨o',H',e1,bd2⟩:=bd.yT wJ l[i] (by omega);unfold GL at e1;rw[hd] at t6;simp(disch:=omega) only[B0,reduceCtorEq,t0,t5,t6,t7,vA,gl,e1];exact .go ⟨o',by rw[hs2];simp[D0,T.A9,t0,t3,t6],by rw[hs2];exact bd2⟩
     | false =>
      rw[hd] at t6;cases hc:gU (bl x.1) (bl l[i].1) with
      | true =>
       have hs2:Aw x (l.take (i+1))=(true,s.2++[x]++[l[i]]):=by rw[hs];simp[EP,hd,hc]
       obtain⟨o1,H1,e1,bd1⟩:=bd.yT wJ x (by omega);have m1:=bd1.fr.A6;have hv1:=hv.fr hw (fJ.trans bd1.fr fun _ _ h=>h);have vA1:=hv1.A (by omega);obtain⟨o2,H2,e2,bd2⟩:=bd1.yT wJ l[i] (by simp;omega);unfold GL at e1 e2;simp(disch:=first|omega|(simp only[C6]<;>omega)) only[B0,reduceCtorEq,Nat.reduceAdd,t0,t3,t5,t6,t7,vA,b1,g0,gl,hc,e1,vA1,e2];exact .go ⟨o2,by rw[hs2];simp[D0,T.A9,t0,t3],by rw[hs2];exact bd2⟩
      | false =>
       have hs2:Aw x (l.take (i+1))=(false,s.2++[l[i]]):=by rw[hs];simp[EP,hd,hc]
       obtain⟨o',H',e1,bd2⟩:=bd.yT wJ l[i] (by omega);unfold GL at e1;simp(disch:=first|omega|(simp only[C6]<;>omega)) only[B0,reduceCtorEq,Nat.reduceAdd,t0,t3,t5,t6,t7,vA,b1,g0,gl,hc,e1];exact .go ⟨o',by rw[hs2];simp[D0,T.A9,t0,t3,t6],by rw[hs2];exact bd2⟩
   ·obtain⟨o,⟨t0,t3,t5,t6,t7,-⟩,bd⟩:=hI;rw[Rm] at t6 bd;unfold Mq;simp(disch:=omega) only[B0,t0,t7,vl];exact .ex ⟨rfl,rfl,o,by simp[D0,T.A9,t3,t5,t6],bd⟩
 rintro tm df H ⟨rfl,o,⟨t3,t5,t6,-⟩,bd⟩;have b1:=bd.fr.e h.A6 (by omega);rw[a1] at b1;have hl2:=hlt l.length (M8 _);rw[Rm] at hl2;have fin:∀ {H:Hp} {o:A0} {m:List Pr},Bd 187 2 J N5 H o m.length (YQ m)→AZ2 m h o H:=fun b=>by obtain⟨⟨p1,p2⟩,w,f⟩:=b.pr;exact⟨⟨p1,fun c h0 hc=>by have:=p2 c h0 hc;exact⟨by omega,this.2⟩⟩,w,fJ.trans f fun _ _ h=>h⟩
 unfold ry;cases hd:(Aw x l).1 with
 | true =>
  rw[hd] at t6;simp only[B0,t5,t6];refine .ret ?_;simp only[B0];exact fin bd
 | false =>
  rw[hd] at t6;obtain⟨o',H',e1,bd2⟩:=bd.yT wJ x (by omega);unfold GL at e1;simp(disch:=first|omega|(simp only[C6]<;>omega)) only[B0,t3,t5,t6,b1,e1];refine .ret ?_;simp only[B0];exact fin bd2
abbrev Ss(A7:Call):Prop:=R23IntoR (A7 161)
def A4h:Ix→List A0
 | []=>[]
 | x::l=>bN x.1::bN x.2::A4h l
theorem bh:∀l:Ix,(A4h l).length=l.length*2
 | []=>rfl
 | x::l=>by show(A4h l).length+1+1=(l.length+1)*2;rw[bh l];omega
theorem AL0:∀ {l:Ix} {i:Nat} {x:Nat×Nat},l[i]?=some x→((A4h l).drop (i*2)).take 2=[bN x.1,bN x.2]
 | y::l,0,x,h=>by cases h;rfl
 | y::l,i+1,x,h=>by rw[show(i+1)*2=i*2+1+1 by omega];exact AL0 h
def AW6(k:Ix)(lo:Nat)(r:A0)(H:Hp):Prop:=∃sv,r=.agg ⟨[iN 4,sv,B7]⟩∧ARk (N4 k) lo sv H
def AXE(l:Ix):Prop:=∀x∈l,x.1<256∧x.2<256
abbrev R23MadeR(g:List A0→Hp→N3):Prop:=∀h rv l,Wf h→Sl 2 h rv l.length (A4h l)→l.length≤8→AXE l→C0 (g [.agg ⟨[.int .u16 (.ofNat 4),rv,B7]⟩] h) (fun r H=>AW6 (AG l) h.A6 r H∧Wf H∧Fr N5 h H)
theorem A4Z(hV:VH A7)(hF:Zr A7)(hI:Ss A7):R23MadeR (G8 uY A7 cd):=by
 intro h rv l hw hv hl hb;have cv:=hv.cell;have vl:=hv.len;obtain⟨J0,hJ0,wJ0,fJ0,nJ0,a1,a2⟩:=U7 hw (B6 [.int .u16 (.ofNat 4),rv,B7] 3 30 true) (B6 [i0,B7,B7] 3 57 true);obtain⟨J,hJ,wJ,f1,nJ,a3⟩:=O5 wJ0 [i0,B7,B7] [iN 4,B7,B7] 3 57;have hwb:=hw.base;have fJ:=fJ0.trans f1 fun _ _ h=>h;have bJ:=fJ.base;have bJ0:=fJ0.base;refine B5 rfl ?_;simp(disch:=first|omega|(simp only[C6]<;>omega)|exact⟨rfl,rfl,rfl⟩|assumption) only[B0,Nat.reduceAdd,hJ0,hJ,a1];have fin:∀i,i≤l.length→(AG (l.take i)).length≤8:=fun i hi=>by have:=(fa (l.take i)).2;grind
 have vlen:∀k:Ix,(N4 k).length=k.length:=fun k=>by simp[N4]
 have A1:J.at h.A6=some (B6 [.int .u16 (.ofNat 4),rv,B7] 3 30 true):=by rw[f1.e _ (by omega)];exact a1
 have A2:J.at (h.A6+1)=some (B6 [i0,B7,B7] 3 57 true):=by rw[f1.e _ (by omega)];exact a2
 refine D9.lp (P:=fun tm df H=>df=[]∧∃sv,D0 tm [(Q0,C2 h.A6 0),(T1,C2 (h.A6+1) 0),(Q3,C2 J0.A6 0)]∧ARk (N4 (AG l)) J.A6 sv H∧Wf H∧Fr (fun k=>k=J0.A6) J H∧H.at J0.A6=some (B6 [iN 4,sv,B7] 3 57 true)) ?_ ?_
 · refine K6 (n:=l.length) (by omega) (fun i tm H=>∃sv,D0 tm [(Q0,C2 h.A6 0),(T1,C2 (h.A6+1) 0),(Q3,C2 J0.A6 0),(V1,iN i)]∧ARk (N4 (AG (l.take i))) J.A6 sv H∧Wf H∧Fr (fun k=>k=J0.A6) J H∧H.at J0.A6=some (B6 [iN 4,sv,B7] 3 57 true)) ?_ (fun i tm H hi hI=>?_) (fun tm H hI=>?_)
   ·exact⟨B7,by simp[D0,T.A9],⟨⟨rfl,.inl ⟨rfl,.inl rfl⟩⟩,fun c h0=>by simp[AG,N4] at h0⟩,wJ,Fr.refl _ _,a3⟩
   · obtain⟨sv,⟨t1,t2,t3,t4,-⟩,⟨hs,hsb⟩,wH,fH,b3⟩:=hI;have nH:=fH.A6;have bH:=fH.base;have b1:H.at h.A6=some (B6 [.int .u16 (.ofNat 4),rv,B7] 3 30 true):=by rw[fH.M5 _ (by omega) (by omega)];exact A1
     have hvH:=hv.K7 fun c h0 hc=>by have:=hv.lt hw h0 hc;rw[fH.M5 _ (by omega) (by omega),fJ.e _ (by omega)]
     have vA:=hvH.A (by omega);have hx:=X0 hi;have gl:=AL0 hx;have hby:=hb _ (Dh hi);have e1:=hV H l[i] wH hby.1 hby.2;obtain⟨H1,hH1,w1,g1,n1,c1⟩:=O5 wH [.string (O2 []),.string (O2 [])] (GL (valueOf l[i])) 2 187;have hs1:Ng H1 sv (N4 (AG (l.take i))):=hs.fr wH g1;have hk8:=fin i (by omega);have e2:=hF H1 sv _ (W2 l[i].1) w1 hs1 (by rw[vlen];omega);have b3':H1.at J0.A6=some (B6 [iN 4,sv,B7] 3 57 true):=by rw[g1.e _ (by omega)];exact b3
     have hstep:AG (l.take (i+1))=Xz (AG (l.take i)) l[i]:=by unfold AG;rw[take_one hx,List.foldl_append];rfl
     have hfa:=gD l[i].1 (AG (l.take i)) 0;have csv:=hs1.cell;have y1:=g1.base;unfold valueOf GL at e1 hH1 c1;dsimp only at e1 hH1 c1;unfold Mr;cases hc:(AG (l.take i)).all (fun y=>rk y.1 != rk l[i].1) with
     | true =>
      rw[hc] at hfa;obtain⟨r,H2,e3,⟨hs2,hsb2⟩,w2,g2⟩:=(hI H1 sv _ (valueOf l[i]) w1 hs1 (by rw[vlen];omega)).get;rw[ANv (APy _),ya] at hs2 hsb2;have hadd:Xz (AG (l.take i)) l[i]=Zw l[i] (AG (l.take i)):=by unfold Xz;rw[if_pos hc]
      have b3'':H2.at J0.A6=some (B6 [iN 4,sv,B7] 3 57 true):=by rw[g2.e _ (by omega)];exact b3'
      have n2:=g2.A6;have y2:=g2.base;have cr:=hs2.cell;have g12:=g1.trans g2 fun _ _ h=>h;unfold valueOf GL at e3;dsimp only at e3;simp(disch:=first|omega|(simp only[C6]<;>omega)) only[B0,reduceCtorEq,Nat.reduceAdd,t1,t3,t4,b1,vA,gl,e1,hH1,c1,b3',e2,hfa,e3,b3''];have ne:∀c,0<(N4 (Zw l[i] (AG (l.take i)))).length→Ch r c→c≠J0.A6:=fun c h0 hc=>by have:=(hsb2 c h0 hc).1;omega
      refine .go ⟨r,by simp[D0,T.A9,t1,t2,t3],?_,w2.put (by omega) _,(fH.trans g12 fun _ _ h=>h.elim).O6 _ (fun _=>rfl) (by omega),by rw[K0];rfl⟩;rw[hstep,hadd];exact⟨hs2.K7 fun c h0 hc=>E9 (Ne.symm (ne c h0 hc)),fun c h0 hc=>⟨by have:=(hsb2 c h0 hc).1;omega,by rw[Y9 (E9 (Ne.symm (ne c h0 hc)))];exact(hsb2 c h0 hc).2⟩⟩
     | false =>
      rw[hc] at hfa;have hadd:Xz (AG (l.take i)) l[i]=AG (l.take i):=by unfold Xz;grind
      simp(disch:=first|omega|(simp only[C6]<;>omega)) only[B0,reduceCtorEq,Nat.reduceAdd,t1,t3,t4,b1,vA,gl,e1,hH1,c1,b3',e2,hfa];refine .go ⟨sv,by simp[D0,T.A9,t1,t2,t3],?_,w1,fH.trans g1 fun _ _ h=>h.elim,b3'⟩;rw[hstep,hadd];exact⟨hs1,fun c h0 hc=>⟨(hsb c h0 hc).1,by rw[Y9 (g1.e _ (hs.lt wH (by exact h0) hc))];exact(hsb c h0 hc).2⟩⟩
   · obtain⟨sv,⟨t1,t2,t3,t4,-⟩,hp,wH,fH,b3⟩:=hI;have b1:H.at h.A6=some (B6 [.int .u16 (.ofNat 4),rv,B7] 3 30 true):=by rw[fH.M5 _ (by omega) (by omega)];exact A1
     rw[Rm] at hp;unfold Mr;simp(disch:=first|omega|(simp only[C6]<;>omega)) only[B0,t1,t4,b1,vl];exact .ex ⟨rfl,rfl,sv,by simp[D0,T.A9,t1,t2,t3],hp,wH,fH,b3⟩
 rintro tm df H ⟨rfl,sv,⟨t1,t2,t3,-⟩,⟨hs,hsb⟩,wH,fH,b3⟩;have nH:=fH.A6;have bH:=fH.base;have csv:=hs.cell;have b1:H.at h.A6=some (B6 [.int .u16 (.ofNat 4),rv,B7] 3 30 true):=by rw[fH.M5 _ (by omega) (by omega)];exact A1
 have b2:H.at (h.A6+1)=some (B6 [i0,B7,B7] 3 57 true):=by rw[fH.M5 _ (by omega) (by omega)];exact A2
 simp only[B0];refine D9.lp (P:=fun tm df H'=>df=[]∧D0 tm [(T1,C2 (h.A6+1) 0),(Q3,C2 J0.A6 0)]∧H'=H) ?_ ?_
 ·refine K6 (n:=0) (by omega) (fun i tm H'=>D0 tm [(Q0,C2 h.A6 0),(T1,C2 (h.A6+1) 0),(Q3,C2 J0.A6 0),(Q8,iN i)]∧H'=H) ⟨by simp[D0,T.A9,t1,t2,t3],rfl⟩ (fun i tm H hi hI=>by omega) (fun tm H' hI=>?_);obtain⟨⟨t1,t2,t3,t6,-⟩,rfl⟩:=hI;unfold Vq;simp(disch:=first|omega|(simp only[C6]<;>omega)) only[B0,t1,t6,b1];exact .ex ⟨rfl,rfl,by simp[D0,T.A9,t2,t3],rfl⟩
 rintro tm df H' ⟨rfl,⟨t2,t3,-⟩,rfl⟩;simp(disch:=first|omega|(simp only[C6]<;>omega)) only[B0,t2,t3,b2,b3];refine .ret ?_;simp(disch:=first|omega|(simp only[C6]<;>omega)) only[B0,t2];refine⟨⟨sv,rfl,hs.K7 fun c h0 hc=>?_,fun c h0 hc=>?_⟩,wH.put (by omega) _,?_⟩
 ·have:=(hsb c h0 hc).1;exact E9 (by omega)
 ·have:=(hsb c h0 hc).1;exact⟨by omega,by rw[Y9 (E9 (by omega))];exact(hsb c h0 hc).2⟩
 ·exact(fJ.trans fH fun k hk e=>by omega).O6 _ (fun hk=>by omega) (by omega)
abbrev A4y(A7:Call):Prop:=R23MadeR (A7 76)
def AQe(v w:A0):Option A0:=Ii 2 (.val v) none (some (.val w)) none [] .nil
theorem AUB(x y:OD)(lo:List A0)(tm:T A0):Ii 2 x none (some y) none lo tm=AQe (G4 x lo tm) (G4 y lo tm):=rfl
theorem A5E{b o l hi:Nat}(h1:hi≤c)(hc:c<R8):AQe (F8 b o l c) (.int .i64 (.ofNat hi))=some (F8 b o hi c):=by
 have e1:T6 c=false:=GD hc;have e2:sure c=c:=by unfold sure;rw[e1];rfl
 have e:AQe (F8 b o l c) (.int .i64 (.ofNat hi))=m9 (some (.val (.int .i64 (.ofNat hi)))) [] .nil l (sure c) (fun hi=>m9 none [] .nil 0 hi (fun lw=>bif T6 c then dM b o 2 lw hi c else Jn b o 2 lw hi c) none) none:=rfl;rw[e,IY,AIK,Iq,e2,W8 h1,cond_true,Tu,e1,cond_false];unfold Jn;rcases Br c with rfl|h0
 ·simp_all
 ·rw[U4 (by omega),cond_false];unfold Rd;rw[C1,C1,C1];rfl
def ATe(h:Hp)(v:A0)(n:Nat):Prop:=(n=0∧v=B7)∨∃b o c,v=F8 b o n c∧n≤c∧c<R8
abbrev R25Set0R(g:List A0→Hp→N3):Prop:=∀h rv rk l A2G,Wf h→Sl 2 h rv l.length (A4h l)→ATe h rv l.length→l.length<9223372036854775808→AXE l→Cell rk→C0 (g [.agg ⟨[.int .u16 (.ofNat A2G),rv,rk]⟩] h) (fun r H=>AW6 (AG (l.take 3)) h.A6 r H∧Wf H∧Fr N5 h H)
theorem A66(hM:A4y A7):R25Set0R (G8 rW A7 cd):=by
 intro h rv rk l A2G hw hv ha hl hb ck;have cv:=hv.cell;have vl:=hv.len;obtain⟨J,hJ,wJ,fJ,nJ,a1,a2⟩:=U7 hw (B6 [.int .u16 (.ofNat A2G),rv,rk] 3 30 true) (B6 [i0,B7,B7] 3 57 true);have hwb:=hw.base;obtain⟨rw',hsl,hsv,cw⟩:∃w,AQe rv (iN (min l.length 3))=some w∧Sl 2 J w (l.take 3).length (A4h (l.take 3))∧(w=B7∨∃b o c,w=F8 b o (min l.length 3) c):=by
  rcases ha with⟨h0,rfl⟩|⟨b,o',c',rfl,hnc,hco⟩
  ·have:l=[]:=IU h0;subst this;exact⟨B7,rfl,⟨rfl,.inl ⟨rfl,.inl rfl⟩⟩,.inl rfl⟩
  · refine⟨_,A5E (by omega) hco,?_,.inr ⟨_,_,_,rfl⟩⟩;rcases Br l.length with h0|h0
    ·have:l=[]:=IU h0;subst this;exact⟨rfl,.inl ⟨rfl,.inr ⟨_,_,_,rfl⟩⟩⟩
    · obtain⟨hv',c,m,e,cl,ro,hat,hm,hc⟩:=(hv.fr hw fJ).eqv h0;have e1:(A4h (l.take 3)).length=min l.length 3*2:=by rw[bh,FB,Nat.min_comm]
      have pt:∀k,k<min l.length 3*2→(A4h (l.take 3))[k]?=(A4h l)[k]?:=by
       have:∀(l:Ix) (n k:Nat),k<min l.length n*2→(A4h (l.take n))[k]?=(A4h l)[k]?:=by
        intro l;induction l with
        | nil=>intro n k hk;simp at hk
        | cons x l ih =>
         intro n k hk;cases n with
         | zero=>simp at hk
         | succ n =>
          rw[List.take_succ_cons]
          match k with
          | 0=>rfl
          | 1=>rfl
          | k+2 =>
           show(A4h (l.take n))[k]?=(A4h l)[k]?;grind
       exact fun k hk=>this l 3 k hk
      refine⟨by rw[bh],.inr ⟨b,o',c',by grind,by rw[FB];omega,c,m,e,cl,ro,hat,?_,fun k hk=>?_⟩⟩
      ·have:sO (F8 b o' l.length c')=o':=rfl;rw[this,bh] at hm;rw[e1];omega
      ·rw[e1] at hk;rw[pt k hk];exact hc k (by rw[bh];omega)
 obtain⟨r,H,e1,⟨sv,rfl,hs,hsb⟩,w1,f1⟩:=(hM J rw' (l.take 3) wJ hsv (by rw[FB];omega) fun x hx=>hb x (ABr hx)).get;have csv:=hs.cell;obtain⟨K,hK,wK,fK,nK,c1⟩:=O5 w1 [i0,B7,B7] [iN 4,sv,B7] 3 57;have m1:=f1.A6;have y1:=f1.base;have yJ:=fJ.base;have yK:=fK.base;have f1K:=f1.trans fK fun _ _ h=>h;have hrv:WG 1 1 rw' [Value.int IntKind.u16 (Int.ofNat 4),Value.slice none 0 0,Value.slice none 0 0] (fun l=>some (Value.agg ⟨l⟩)) none=some (.agg ⟨[.int .u16 (.ofNat 4),rw',B7]⟩):=by rcases cw with rfl|⟨b,o,c,rfl⟩<;>rfl
 have crw:=hsv.cell;refine B5 rfl ?_;simp(disch:=first|omega|(simp only[C6]<;>omega)|exact⟨rfl,rfl,rfl⟩|assumption) only[B0,hJ,a1,vl,AUB,hsl,e1,hK,c1,f1.e,fK.e,a2];refine .ret ?_;simp(disch:=first|omega|(simp only[C6]<;>omega)) only[B0];refine⟨⟨sv,rfl,(hs.fr w1 fK).K7 fun c h0 hc=>?_,fun c h0 hc=>?_⟩,wK.put (by omega) _,?_⟩
 ·have:=(hsb c h0 hc).1;exact E9 (by omega)
 ·have:=(hsb c h0 hc).1;exact⟨by omega,by rw[Y9 (E9 (by omega)),Y9 (fK.e _ (hs.lt w1 h0 hc))];exact(hsb c h0 hc).2⟩
 ·exact((fJ.trans f1 fun _ _ h=>h).trans fK fun _ _ h=>h).O6 _ (fun hk=>by omega) (by omega)
abbrev A8f(A7:Call):Prop:=R25Set0R (A7 25)
def AXS(c:UInt8):Prop:=(97≤c.toNat∧c.toNat≤122)∨(65≤c.toNat∧c.toNat≤90)∨(48≤c.toNat∧c.toNat≤57)
structure YV(s:ByteArray):Prop where
 l0:1≤(bl s).length
 l1:(bl s).length≤12
 al:∀c∈bl s,AXS c
structure KA(s:ByteArray):Prop where
 l1:(bl s).length≤20
 al:∀c∈bl s,32≤c.toNat∧c.toNat≤126
theorem XS(n:Nat):YV (W2 n):=by unfold W2;rcases vC n with e|e|e|e|e|e|e|e<;>rw[e]<;>exact⟨by decide,by decide,by unfold AXS;decide⟩
theorem fb(n:Nat):KA (cj n):=by unfold cj;rcases APx n with e|e|e|e<;>rw[e]<;>exact⟨by decide,by decide⟩
theorem Om:∀(l:List UInt8) (i:Nat),YH l i=l[i]?
 | [],0=>rfl
 | [],i+1=>rfl
 | x::l,0=>rfl
 | x::l,i+1=>by show YH l i=l[i]?;exact Om l i
theorem A59(hIn:ANq A7){s:ByteArray}(hn:YV s):C0 (G8 pT A7 cd [.string s] h) (VI (.bool true) h):=by
 obtain⟨l0,l1,al⟩:=hn;refine B5 rfl ?_;simp only[B0];refine D9.lp (P:=fun tm df H=>df=[]∧D0 tm [([],.string s)]∧H=h) ?_ ?_
 · refine K6 (n:=(bl s).length) (by omega) (fun i tm H=>D0 tm [([],.string s),(Q3,iN i)]∧H=h) ⟨by simp[D0,T.A9,It],rfl⟩ (fun i tm H hi hI=>?_) (fun tm H hI=>?_)
   · obtain⟨⟨t0,t3,-⟩,rfl⟩:=hI;have hx:=X0 hi;have hc:=al _ (Dh hi);unfold AXS at hc;generalize (bl s)[i]=c at *;unfold NM;rcases hc with⟨c1,c2⟩|⟨c1,c2⟩|⟨c1,c2⟩
     ·simp(disch:=omega) only[B0,reduceCtorEq,t0,t3,Zm,Om,hx];exact .go ⟨by simp[D0,T.A9,t0],rfl⟩
     ·simp(disch:=omega) only[B0,reduceCtorEq,t0,t3,Zm,Om,hx];exact .go ⟨by simp[D0,T.A9,t0],rfl⟩
     ·simp(disch:=omega) only[B0,reduceCtorEq,t0,t3,Zm,Om,hx];exact .go ⟨by simp[D0,T.A9,t0],rfl⟩
   ·obtain⟨⟨t0,t3,-⟩,rfl⟩:=hI;unfold NM;simp(disch:=omega) only[B0,t0,t3];exact .ex ⟨rfl,rfl,by simp[D0,T.A9,t0],rfl⟩
 rintro tm df H ⟨rfl,⟨t0,-⟩,rfl⟩;simp(disch:=omega) only[B0,t0,hIn];refine .ret ?_;simp only[B0];exact⟨rfl,rfl⟩
abbrev Yq(A7:Call):Prop:=∀H s,YV s→A7 197 [.string s] H=.val (.bool true) H
theorem A9d{s:ByteArray}(hn:KA s):C0 (G8 oH A7 cd [.string s] h) (VI (.bool true) h):=by
 obtain⟨l1,al⟩:=hn;refine B5 rfl ?_;simp only[B0];refine D9.lp (P:=fun tm df H=>df=[]∧D0 tm [([],.string s)]∧H=h) ?_ ?_
 · refine K6 (n:=(bl s).length) (by omega) (fun i tm H=>D0 tm [([],.string s),(Q3,iN i)]∧H=h) ⟨by simp[D0,T.A9,It],rfl⟩ (fun i tm H hi hI=>?_) (fun tm H hI=>?_)
   ·obtain⟨⟨t0,t3,-⟩,rfl⟩:=hI;have hx:=X0 hi;obtain⟨c1,c2⟩:=al _ (Dh hi);generalize (bl s)[i]=c at *;unfold Nf;simp(disch:=omega) only[B0,reduceCtorEq,t0,t3,Zm,Om,hx];exact .go ⟨by simp[D0,T.A9,t0],rfl⟩
   ·obtain⟨⟨t0,t3,-⟩,rfl⟩:=hI;unfold Nf;simp(disch:=omega) only[B0,t0,t3];exact .ex ⟨rfl,rfl,by simp[D0,T.A9,t0],rfl⟩
 rintro tm df H ⟨rfl,⟨t0,-⟩,rfl⟩;simp(disch:=omega) only[B0,t0];refine .ret ?_;simp only[B0];exact⟨rfl,rfl⟩
abbrev Zu(A7:Call):Prop:=∀H s,KA s→A7 198 [.string s] H=.val (.bool true) H
theorem A2o(hN:Yq A7)(hT:Zu A7){x:Pr}(hw:Wf h)(h1:YV x.1)(h2:KA x.2):C0 (G8 gz A7 cd [.agg ⟨GL x⟩] h) (QR (.bool true) h):=by obtain⟨J,hJ,wJ,fJ,nJ,a1⟩:=J7 hw (B6 (GL x) 2 187 true);have hwb:=hw.base;unfold GL at hJ a1 ⊢;refine B5 rfl ?_;simp(disch:=first|omega|(simp only[C6]<;>omega)) only[B0,Nat.reduceAdd,hJ,a1,hN _ _ h1,hT _ _ h2];refine .ret ?_;simp only[B0];exact⟨rfl,fJ.log⟩
abbrev fT(A7:Call):Prop:=∀H x,Wf H→YV x.1→KA x.2→A7 104 [.agg ⟨GL x⟩] H=.val (.bool true) H
theorem Fv{k:Ix}{x:Nat×Nat}(h:k[i]?=some x):(N4 k)[i]?=some (valueOf x):=by simp[N4,h]
theorem O1(k:Ix):(N4 k).length=k.length:=by simp[N4]
theorem A14(hIn:ANq A7)(hR:fT A7){k:Ix}(hw:Wf h)(hs:Ng h sv (N4 k))(ho:GM k)(hk:k.length≤8):C0 (G8 jC A7 cd [.agg ⟨[iN 4,sv,B7]⟩] h) (QR (.bool true) h):=by
 obtain⟨J,hJ,wJ,fJ,nJ,a1⟩:=J7 hw (B6 [iN 4,sv,B7] 3 57 true);have hwb:=hw.base;have csv:=hs.cell;have sl:=hs.len;rw[O1] at sl;have hsJ:=hs.fr hw fJ;refine B5 rfl ?_;simp(disch:=first|omega|(simp only[C6]<;>omega)) only[B0,Nat.reduceAdd,hJ,a1,sl,hIn];refine D9.lp (P:=fun tm df H=>df=[]∧D0 tm [(Q0,C2 h.A6 0)]∧H=J) ?_ ?_
 · refine K6 (n:=k.length) (by omega) (fun i tm H=>D0 tm [(Q0,C2 h.A6 0),(Q3,iN i)]∧H=J) ⟨by simp[D0,T.A9],rfl⟩ (fun i tm H hi hI=>?_) (fun tm H hI=>?_)
   · obtain⟨⟨t1,t3,-⟩,rfl⟩:=hI;have hx:=X0 hi;have vA:=hsJ.A (by rw[O1];omega);rw[O1] at vA;have g0:=Kd (Fv hx);have gl:=TC (Fv hx);have e1:=hR (B8 H H.A6 []) (valueOf k[i]) (wJ.sb []) (XS _) (fb _);unfold GL at gl e1;unfold Lk;rcases Br i with h0|h0
     ·simp(disch:=first|omega|(simp only[C6]<;>omega)|assumption) only[B0,reduceCtorEq,t1,t3,a1,vA,gl,e1];exact .go ⟨by simp[D0,T.A9,t1],rfl⟩
     · obtain⟨j,hj⟩:∃j,i=j+1:=⟨i-1,by omega⟩
       have hy:=X0 (show j<k.length by omega);have g2:=Kd (Fv hy);have hlt:=List.pairwise_iff_getElem.1 ho j i (by omega) hi (by omega);have e2:gU (bl (valueOf k[j]).1) (bl (valueOf k[i]).1)=true:=by show gU (bl (W2 _)) (bl (W2 _))=true;rw[qB];exact decide_eq_true hlt
       have e3:Nv .i64 (.ofNat i) (.ofNat 1)=some (iN j):=by rw[hj,Fh .i64 (by omega),GC (by omega)];rfl
       generalize k[j]=y at *;generalize k[i]=x at *;generalize (valueOf y).1=y1 at *;generalize (valueOf x).1=x1 at *;simp(disch:=first|omega|(simp only[C6]<;>omega)|assumption) only[B0,reduceCtorEq,t1,t3,a1,vA,g0,gl,e1,e3,g2,e2];exact .go ⟨by simp[D0,T.A9,t1],rfl⟩
   ·obtain⟨⟨t1,t3,-⟩,rfl⟩:=hI;unfold Lk;simp(disch:=first|omega|(simp only[C6]<;>omega)) only[B0,t1,t3,a1,sl];exact .ex ⟨rfl,rfl,by simp[D0,T.A9,t1],rfl⟩
 rintro tm df H ⟨rfl,⟨t1,-⟩,rfl⟩;simp only[B0];refine D9.lp (P:=fun tm df H'=>df=[]∧H'=H) ?_ ?_
 ·refine K6 (n:=0) (by omega) (fun i tm H'=>D0 tm [(Q0,C2 h.A6 0),(V1,iN i)]∧H'=H) ⟨by simp[D0,T.A9,t1],rfl⟩ (fun i tm H hi hI=>by omega) (fun tm H' hI=>?_);obtain⟨⟨t1,t4,-⟩,rfl⟩:=hI;unfold Tz;simp(disch:=first|omega|(simp only[C6]<;>omega)) only[B0,t1,t4,a1];exact .ex ⟨rfl,rfl,rfl⟩
 rintro tm df H' ⟨rfl,rfl⟩;simp only[B0];refine .ret ?_;simp only[B0];exact⟨rfl,fJ.log⟩
abbrev OV(A7:Call):Prop:=∀H sv k,Wf H→Ng H sv (N4 k)→GM k→k.length≤8→A7 38 [.agg ⟨[iN 4,sv,B7]⟩] H=.val (.bool true) H
abbrev oh(A7:Call):Prop:=∀H,A7 199 [iN 4] H=.val (.string (O2 [52])) H
instance Aal (x:Nat×Nat):BL (bl (valueOf x).1) 2:=⟨(eY x.1).2⟩
instance Aag (x:Nat×Nat):BL (bl (valueOf x).2) 3:=⟨A76 x.2⟩
theorem A1J{c:UInt8}{l:List UInt8}(h:l.all (· != c)=true):Nl c l:=fun x hx=>by grind
theorem AES(x:Nat×Nat):ADW (valueOf x):=by
 refine⟨(eY x.1).1,(eY x.1).2,A76 x.2,?_,?_,?_⟩
 ·show Nl 10 (bl (W2 x.1));unfold W2;rcases vC x.1 with e|e|e|e|e|e|e|e<;>rw[e]<;>exact A1J rfl
 ·show Nl 10 (bl (cj x.2));unfold cj;rcases APx x.2 with e|e|e|e<;>rw[e]<;>exact A1J rfl
 ·show Nl 32 (bl (W2 x.1));unfold W2;rcases vC x.1 with e|e|e|e|e|e|e|e<;>rw[e]<;>exact A1J rfl
theorem GF(k:Ix):∀x∈N4 k,ADW x:=fun x hx=>by obtain⟨y,_,rfl⟩:=FY.1 hx;exact AES y
theorem pz(s:List Pr)(x:Pr):O9 (s++[x])=O9 s++(JI x++[10]):=by simp[O9,CK]
theorem A3B(hV:OV A7)(hD:oh A7){k:Ix}(hw:Wf h)(hs:Ng h sv (N4 k))(ho:GM k)(hk:k.length≤3):C0 (G8 gT A7 cd [.agg ⟨[iN 4,sv,B7]⟩] h) (QR (.string (O2 (O9 (N4 k)))) h):=by
 obtain⟨J,hJ,wJ,fJ,nJ,a1⟩:=J7 hw (B6 [iN 4,sv,B7] 3 57 true);have hwb:=hw.base;have csv:=hs.cell;have sl:=hs.len;rw[O1] at sl;have hsJ:=hs.fr hw fJ;have e1:=hV J sv k wJ hsJ ho (by omega);refine B5 rfl ?_;simp(disch:=first|omega|(simp only[C6]<;>omega)) only[B0,Nat.reduceAdd,hJ,a1,e1,hD,A1S];refine D9.lp (P:=fun tm df H=>df=[]∧D0 tm [(Q0,C2 h.A6 0),(Q3,.string (O2 (O9 (N4 k))))]∧H=J) ?_ ?_
 · refine K6 (n:=k.length) (by omega) (fun i tm H=>D0 tm [(Q0,C2 h.A6 0),(Q3,.string (O2 (O9 (N4 (k.take i))))),(V1,iN i)]∧H=J) ?_ (fun i tm H hi hI=>?_) (fun tm H hI=>?_)
   ·trivial
   · obtain⟨⟨t1,t3,t4,-⟩,rfl⟩:=hI;have hx:=X0 hi;have vA:=hsJ.A (by rw[O1];omega);rw[O1] at vA;have g0:=Kd (Fv hx);have g1:=A5x (Fv hx)
     haveI:BL (O9 (N4 (k.take i))) 44:=⟨HS (GF _) (by rw[O1,FB];omega)⟩
     have hst:O9 (N4 (k.take (i+1)))=O9 (N4 (k.take i))++([118,97,108,32]++bl (valueOf k[i]).1++[32]++bl (valueOf k[i]).2++[10]):=by rw[take_one hx];unfold N4;rw[A7y,ADo,pz];simp[JI,iO]
     unfold LV;simp(disch:=first|omega|(simp only[C6]<;>omega)) only[B0,t1,t3,t4,a1,vA,g0,g1,A1S];exact .go ⟨by simp[D0,T.A9,t1,hst],rfl⟩
   ·obtain⟨⟨t1,t3,t4,-⟩,rfl⟩:=hI;rw[Rm] at t3;unfold LV;simp(disch:=first|omega|(simp only[C6]<;>omega)) only[B0,t1,t4,a1,sl];exact .ex ⟨rfl,rfl,by simp[D0,T.A9,t1,t3],rfl⟩
 rintro tm df H ⟨rfl,⟨t1,t3,-⟩,rfl⟩;simp only[B0];refine D9.lp (P:=fun tm df H'=>df=[]∧D0 tm [(Q3,.string (O2 (O9 (N4 k))))]∧H'=H) ?_ ?_
 ·refine K6 (n:=0) (by omega) (fun i tm H'=>D0 tm [(Q0,C2 h.A6 0),(Q3,.string (O2 (O9 (N4 k)))),(U2,iN i)]∧H'=H) ⟨by simp[D0,T.A9,t1,t3],rfl⟩ (fun i tm H hi hI=>by omega) (fun tm H' hI=>?_);obtain⟨⟨t1,t3,t4,-⟩,rfl⟩:=hI;unfold UK;simp(disch:=first|omega|(simp only[C6]<;>omega)) only[B0,t1,t4,a1];exact .ex ⟨rfl,rfl,by simp[D0,T.A9,t3],rfl⟩
 rintro tm df H' ⟨rfl,⟨t3,-⟩,rfl⟩;simp only[B0,t3];refine .ret ?_;simp only[B0];exact⟨rfl,fJ.log⟩
abbrev eu(A7:Call):Prop:=∀H sv k,Wf H→Ng H sv (N4 k)→GM k→k.length≤3→A7 105 [.agg ⟨[iN 4,sv,B7]⟩] H=.val (.string (O2 (O9 (N4 k)))) H
def Nn(s:SH):List Nat:=s.map UInt8.toNat
theorem BI(s:SH):(Nn s).length=s.length:=by simp[Nn]
theorem HA(s:SH):∀x∈Nn s,x<256:=fun x hx=>by obtain⟨c,_,rfl⟩:=FY.1 hx;exact c.toNat_lt
theorem lH:∀s:SH,Bg s=M4 (Nn s)
 | []=>rfl
 | c::s=>by have:Bg (c::s)=bN c.toNat::Bg s:=rfl;rw[this,lH s];rfl
theorem Xh(e:TypeId)(x:OD)(A7:Call)(lo:List A0)(tm:T A0)(h:Hp):HL e x A7 lo tm h=Hq (G4 x lo tm) (fun s=>bif Nat.blt (bl s).length R8 then .val (F8 h.A6 0 (bl s).length (C4 1 (bl s).length)) (h.new (B6 (Bg (bl s)) (bl s).length e false)) else .none) .none:=by unfold HL;simp only[C1,W6,R4];rfl
def Y6(k:Ix)(size:Nat):List Nat:=AJ (Nn (O9 (N4 k))) 0 size
theorem II(k:Ix)(size:Nat):(Y6 k size).length=size:=Ah _ _ _
abbrev R25ContR(g:List A0→Hp→N3):Prop:=∀h sv k size,Wf h→Ng h sv (N4 k)→GM k→k.length≤3→44≤size→size≤5000→C0 (g [.agg ⟨[iN 4,sv,B7]⟩,iN size] h) (fun r H=>∃v,r=.tuple ⟨[v,.bool true]⟩∧AND (Y6 k size) h v H)
theorem A6v(hP:eu A7)(hC:bQ A7):R25ContR (G8 mf A7 cd):=by
 intro h sv k size hw hs ho hk h44 hsz;obtain⟨J,hJ,wJ,fJ,nJ,a1⟩:=J7 hw (B6 [iN 4,sv,B7] 3 57 true);have hwb:=hw.base;have csv:=hs.cell;have e1:=hP J sv k wJ (hs.fr hw fJ) ho hk;have tl:=HS (GF k) (by rw[O1];exact hk);have tl0:0<(O9 (N4 k)).length:=by unfold O9 CK;rw[tI,Bz];simp;omega
 have hop:Nat.blt (O9 (N4 k)).length R8=true:=BW (by unfold R8;omega);obtain⟨K,hK,wK,fK,nK,b1⟩:=J7 wJ (B6 (Bg (O9 (N4 k))) (O9 (N4 k)).length 5 false);rw[lH] at b1;have hsl:Sl 1 K (F8 J.A6 0 (O9 (N4 k)).length (C4 1 (O9 (N4 k)).length)) (Nn (O9 (N4 k))).length (M4 (Nn (O9 (N4 k)))):=by rw[BI];exact⟨by rw[O4,BI,jH],.inr ⟨_,_,_,rfl,tl0,O3 b1 (by rw[O4,BI];exact M8 _)⟩⟩
 obtain⟨v,H,e2,⟨hv,ht,hlo⟩,w2,f2⟩:=(hC K _ (Nn (O9 (N4 k))) 0 size wK hsl (by rw[BI];omega) (by omega) hsz (by omega)).get;have fJK:=fJ.trans fK fun _ _ h=>h;have fJ2:=fJK.trans f2 fun _ _ h=>h;have g2:=f2.A6;refine B5 rfl ?_;simp(disch:=first|omega|(simp only[C6]<;>omega)) only[B0,reduceCtorEq,hJ,a1,e1,Xh,hop,hK,e2];refine .ret ?_;simp only[B0];exact⟨v,rfl,⟨hv,ht,fun c hc=>by have:=hlo c hc;omega⟩,w2,(fJ.trans fK fun _ _ h=>h).trans f2 fun _ _ h=>h⟩
abbrev A84(A7:Call):Prop:=R25ContR (A7 39)
structure FG(f:FM)(W:Nat):Prop where
 ok:f.Ok
 A4e:44≤f.size
 dead:∀s,s<f.data.length→f.dead[s]?=some false
 I0:∀s,f.I0.getD s 0+W<f.K4
theorem FG.wt{f:FM}{s:Nat}(g:FG f W)(hs:s<f.data.length)(hl:want.length=f.size)(hb:∀x∈want,x<256):Wt f s want:=⟨g.ok,hs,hl,hb⟩
theorem FG.N6{f:FM}{s:Nat}(g:FG f (W+1))(q:Wt f s want):FG (f.N6 s want) W:=by refine⟨q.N6 (by have:=g.I0 s;omega),g.A4e,fun t ht=>g.dead t (by rw[FM.U3] at ht;exact ht),fun t=>?_⟩;have h1:=FM.KO f s t want;have h2:=g.I0 t;rw[FM.U1];split at h1<;>omega
theorem FG.less{f:FM}{V:Nat}(g:FG f V)(h:W≤V):FG f W:=⟨g.ok,g.A4e,g.dead,fun s=>by have:=g.I0 s;omega⟩
theorem FG.S5{f:FM}{W:Nat}{S5:List Nat}(hb:∀x∈S5,x<256):∀t,FG f (W+t)→t≤f.data.length→FG (YY f S5 t) W
 | 0,g,_=>g
 | t+1,g,ht=>by have g2:FG (YY f S5 t) (W+1):=FG.S5 hb t (by rw[show W+1+t=W+(t+1) by omega];exact g) (by omega);exact g2.N6 (g2.wt (by rw[CA];omega) (by rw[Ah,DU]) (Bj hb _ _))
def gF(f:FM)(S5:List Nat)(n:Nat)(set:List Nat)(t:Nat):FM:=if t≤n then YY f S5 t else(YY f S5 n).N6 (n+2) set
theorem PU(f:FM)(S5:List Nat)(n:Nat)(set:List Nat)(t:Nat):(gF f S5 n set t).size=f.size:=by
 unfold gF;split
 ·exact DU _ _ _
 ·rw[FM.T8,DU]
theorem eC(f:FM)(S5:List Nat)(n:Nat)(set:List Nat)(t:Nat):(gF f S5 n set t).data.length=f.data.length:=by
 unfold gF;split
 ·exact CA _ _ _
 ·rw[FM.U3,CA]
theorem FG.gF{f:FM}{W n t:Nat}{S5 set:List Nat}(g:FG f (W+4))(hb:∀x∈S5,x<256)(hs:∀x∈set,x<256)(hl:set.length=f.size)(hn:n+2<f.data.length)(hn3:n≤3):FG (gF f S5 n set t) W:=by
 unfold Abs.gF;split
 ·exact FG.S5 hb t (g.less (by omega)) (by omega)
 ·have g2:FG (YY f S5 n) (W+1):=FG.S5 hb n (g.less (by omega)) (by omega);exact g2.N6 (g2.wt (by rw[CA];omega) (by rw[DU];exact hl) hs)
theorem ATZ(a b c d:A0):(C7 [a,b,c,d] 0 .nil fun t=>t).get []=some a:=rfl
theorem AT6(a b c d:A0):(C7 [a,b,c,d] 0 .nil fun t=>t).get Q0=some b:=rfl
theorem AL4(a b c d:A0):(C7 [a,b,c,d] 0 .nil fun t=>t).get T1=some c:=rfl
theorem ASa(a b c d:A0):(C7 [a,b,c,d] 0 .nil fun t=>t).get Q3=some d:=rfl
theorem HY(f:FM)(S5:List Nat):∀t,(YY f S5 t).K4=f.K4
 | 0=>rfl
 | t+1=>HY f S5 t
theorem uJ(f:FM)(S5:List Nat)(n:Nat)(set:List Nat)(t:Nat):(gF f S5 n set t).K4=f.K4:=by
 unfold gF;split
 ·exact HY _ _ _
 ·rw[FM.U1,HY]
theorem AEV{f:FM}{S5:List Nat}{n:Nat}{set:List Nat}(h:t<n):gF f S5 n set (t+1)=(gF f S5 n set t).N6 t (AJ S5 t f.size):=by unfold gF;rw[if_pos (by omega),if_pos (by omega)];rfl
theorem AFh{f:FM}{S5:List Nat}{n:Nat}{set:List Nat}:gF f S5 n set (n+1)=(gF f S5 n set n).N6 (n+2) set:=by unfold gF;grind
theorem ADv{f:FM}{S5:List Nat}{n:Nat}{set:List Nat}:(gF f S5 n set (n+1)).Lx n=CM f S5 n set (Q5 f.size):=by unfold FM.Lx CM;rw[PU];unfold gF;rw[if_neg (by omega)]
theorem AVZ{z:Nat}(ht:t≤3):(t+1)*z≤4*z:=BY _ (by omega)
structure AaL(h J:Hp)(b:Nat)(H:Hp)(f:FM):Prop where
 wf:Wf H
 fr:Fr (fun k=>k=b) J H
 M5:∃dv wv ev,DT H f dv wv ev∧H.at b=some (B6 (N9 f dv wv ev) 5 39 true)
def Pv:List A0:=[i0,B7,B7,i0,B7,i0,i0,i0,i0,i0,B7,B7,B7,i0,i0,i0,i0,.bool false,i0,i0,B7,B7,B7,B7,.bool false,.bool false,.bool false,i0,i0,i0,i0,i0,i0,i0,i0,i0]
def AZP(f:FM)(n a b c:Nat)(sv uv tv:A0)(r:A0)(H:Hp):Prop:=∃dv wv ev,r=.tuple ⟨[.agg ⟨Ci f n dv wv ev sv uv tv false⟩,i0]⟩∧DT H f dv wv ev∧TW H n a b c sv uv tv
structure ATd(h:Hp)(f:FM)(dv wv ev sv uv tv bv pv:A0)(n a b c:Nat)(S5:List Nat)(k:Ix):Prop where
 wf:Wf h
 fl:DT h f dv wv ev
 ly:TW h n a b c sv uv tv
 lo:AOS n a b c f.data.length
 fg:FG f 8
 im:Sl 1 h bv S5.length (M4 S5)
 il:S5.length≤n*f.size
 ib:∀x∈S5,x<256
 set:Ng h pv (N4 k)
 ord:GM k
 k3:k.length≤3
 sz:f.size≤1000
abbrev RNewR(g:List A0→Hp→N3):Prop:=∀h f dv wv ev sv uv tv bv pv n a b c S5 k,ATd h f dv wv ev sv uv tv bv pv n a b c S5 k→C0 (g [.agg ⟨N9 f dv wv ev⟩,.agg ⟨AX n sv uv tv⟩,bv,.agg ⟨[iN 4,pv,B7]⟩] h) (fun r H=>AZP (CM f S5 n (Y6 k f.size) (Q5 f.size)) n a b c sv uv tv r H∧Wf H∧Fr N5 h H)
theorem A9H(hL:AQN A7)(hV:OV A7)(hC:A84 A7)(hN:bQ A7)(hB:APQ 41 A7)(hF:AZI 42 A7):RNewR (G8 A0o A7 cd):=by
 intro h f dv wv ev sv uv tv bv pv n a b c S5 k q;obtain⟨hw,hf,hly,lo,fg,hbv,hil,hib,hs,ho,hk,hsz⟩:=q;obtain⟨o1,o2,o3,o4,o5,o6,o7⟩:=id lo;have A4e:=fg.A4e;have csv:=hly.st.cell;have cuv:=hly.un.cell;have ctv:=hly.ta.cell;have cpv:=hs.cell;have cbv:=hbv.cell;have cdv:=hf.data.cell;have cwv:=hf.I0.cell;have cev:=hf.dead.cell;have bl:=hbv.len;obtain⟨J,hJ,wJ,fJ,nJ,a1,a2,a3,a4⟩:=A8k hw (B6 (N9 f dv wv ev) 5 39 true) (B6 (AX n sv uv tv) 8 42 true) (B6 [iN 4,pv,B7] 3 57 true) (B6 Pv 36 54 true);have hwb:=hw.base;have bJ:=fJ.base;obtain⟨r1,H1,e1,rfl,w1,f1⟩:=(hL J f dv wv ev sv uv tv n a b c wJ (hf.fr hw fJ) fg.ok (by omega) (hly.fr hw fJ) lo).get;have fh1:=fJ.trans f1 fun _ _ h=>h;have e2:=hV H1 pv k w1 (hs.fr hw fh1) ho (by omega);obtain⟨r3,H3,e3,cv,rfl,⟨hcv,tcv,lcv⟩,w3,f3⟩:=(hC H1 pv k f.size w1 (hs.fr hw fh1) ho hk (by omega) (by omega)).get;rw[II] at hcv;have fJ3:=f1.trans f3 fun _ _ h=>h;have fh3:=fJ.trans fJ3 fun _ _ h=>h;have x1:=f1.A6;have x3:=f3.A6;have cl:∀c,Ch cv c→J.A6≤c:=fun c hc=>by have:=lcv c hc;omega
 have hmul:n*f.size≤3*f.size:=BY _ o2;unfold N9 AX Pv at hJ;unfold N9 at a1 e1;unfold AX at a2 e1;unfold Pv at a4;refine B5 rfl ?_;unfold N9 AX;simp(disch:=first|omega|(simp only[C6]<;>omega)|exact⟨rfl,rfl,rfl⟩|assumption) only[↓CG,B0,reduceCtorEq,Nat.reduceAdd,Nat.reduceMul,Nat.reduceSub,ATZ,AT6,AL4,ASa,hJ,a1,a2,a3,a4,e1,e2,e3,bl,f1.e,fJ.n,fh1.n,fh3.n];have fg2:=fun t=>FG.gF (t:=t) (set:=Y6 k f.size) fg hib (Bj (HA _) _ _) (II _ _) (by omega) o2;have A1:H3.at h.A6=some (B6 (N9 f dv wv ev) 5 39 true):=by rw[fJ3.e _ (by omega)];exact a1
 have A2:∀ {H:Hp},Fr (fun k=>k=h.A6) H3 H→H.at (h.A6+1)=some (B6 [iN n,iN n,iN (n+1),iN (n+2),iN (n+3),sv,uv,tv] 8 42 true):=fun fr=>by rw[fr.M5 _ (by omega) (by omega),fJ3.e _ (by omega)];exact a2
 have A3:∀ {H:Hp},Fr (fun k=>k=h.A6) H3 H→H.at (h.A6+1+1)=some (B6 [iN 4,pv,B7] 3 57 true):=fun fr=>by rw[fr.M5 _ (by omega) (by omega),fJ3.e _ (by omega)];exact a3
 have A4:∀ {H:Hp},Fr (fun k=>k=h.A6) H3 H→H.at (h.A6+1+1+1)=some (B6 Pv 36 54 true):=fun fr=>by rw[fr.M5 _ (by omega) (by omega),fJ3.e _ (by omega)];exact a4
 have fh:∀ {H:Hp},Fr (fun k=>k=h.A6) H3 H→Fr N5 h H:=fun fr=>fh3.trans fr fun k hk e=>by omega
 refine D9.lp (P:=fun tm df H=>df=[]∧D0 tm [(V1,C2 h.A6 0),(U2,C2 (h.A6+1) 0),(AL,C2 (h.A6+1+1) 0),(Cj,C2 (h.A6+1+1+1) 0)]∧Wf H∧Fr (fun k=>k=h.A6) H3 H∧∃dv wv ev,DT H (gF f S5 n (Y6 k f.size) (n+1)) dv wv ev∧H.at h.A6=some (B6 (N9 (gF f S5 n (Y6 k f.size) (n+1)) dv wv ev) 5 39 true)) ?_ ?_
 · refine K6 (n:=n+1) (by omega) (fun t tm H=>D0 tm [(T1,bv),(V1,C2 h.A6 0),(U2,C2 (h.A6+1) 0),(AL,C2 (h.A6+1+1) 0),(Cj,C2 (h.A6+1+1+1) 0),(A4F,cv),([false,false,false],iN t)]∧Wf H∧Fr (fun k=>k=h.A6) H3 H∧∃dv wv ev,DT H (gF f S5 n (Y6 k f.size) t) dv wv ev∧H.at h.A6=some (B6 (N9 (gF f S5 n (Y6 k f.size) t) dv wv ev) 5 39 true)) ?_ (fun t tm H ht hI=>?_) (fun tm H hI=>?_)
   · have e0:gF f S5 n (Y6 k f.size) 0=f:=by rfl
     refine⟨by simp[D0,T.A9,AL4],w3,Fr.refl _ _,dv,wv,ev,?_,?_⟩
     ·rw[e0];exact hf.fr hw fh3
     ·rw[e0];exact A1
   · obtain⟨⟨t2,t4,t5,t7,t8,t12,t14,-⟩,wH,fH,dv',wv',ev',hg,b1⟩:=hI;have b2:=A2 fH;have nH:=fH.A6;have bH:=fH.base;have bJ3:=fJ3.base;have m4:=AVZ (z:=f.size) (show t≤3 by omega);obtain⟨cw,G1,g1,⟨hcw,tcw,lcw⟩,w1',fG1⟩:=(hN H bv S5 t f.size wH (hbv.fr hw (fh fH)) (by omega) (by omega) (by omega) (by omega)).get;rw[Ah] at hcw;have y1:=fG1.A6;have y2:=fG1.base;have fg3:=fg2 t;generalize hgt:gF f S5 n (Y6 k f.size) t=gt at *;have zs:gt.size=f.size:=by rw[←hgt,PU]
     have zl:gt.K4=f.K4:=by rw[←hgt,uJ]
     have zd:gt.data.length=f.data.length:=by rw[←hgt,eC]
     have ca:=hg.data.cell;have cb:=hg.I0.cell;have cc:=hg.dead.cell;have key:∀(sct:Nat) (want:List Nat) (v:A0),Sl 1 G1 v f.size (M4 want)→want.length=f.size→(∀x∈want,x<256)→sct<f.data.length→∃dv2 Rf ev2 G2 G3,A7 41 [.agg ⟨N9 gt dv' wv' ev'⟩,iN sct,v] G1=.val (.tuple ⟨[.agg ⟨N9 (gt.N6 sct want) dv2 Rf ev2⟩,i0]⟩) G2∧(G2.new (B6 Vy 5 39 true)).put G2.A6 (some (.row (C7 (N9 (gt.N6 sct want) dv2 Rf ev2) 0 .nil fun t=>t) 5 39 true false))=G3∧DT G3 (gt.N6 sct want) dv2 Rf ev2∧Fr N5 G1 G2∧Wf G3∧Fr N5 G2 G3∧G3.A6=G2.A6+1∧G3.at G2.A6=some (B6 (N9 (gt.N6 sct want) dv2 Rf ev2) 5 39 true):=by intro sct want v hv hl hb hs2;obtain⟨r2,G2,e4,dv2,Rf,ev2,rfl,hf2,w2,f2⟩:=(hB G1 gt dv' wv' ev' sct v want ⟨w1',hg.fr wH fG1,fg3.wt (by omega) (by omega) hb,fg3.dead _ (by omega),fun _=>by have:=fg3.I0 sct;omega,by rw[zs];exact hv⟩ (by have:=fg3.I0 sct;omega)).get;obtain⟨G3,e5,w5,f5,n5,c5⟩:=O5 w2 Vy (N9 (gt.N6 sct want) dv2 Rf ev2) 5 39;exact⟨dv2,Rf,ev2,G2,G3,e4,e5,hf2.fr w2 f5,f2,w5,f5,n5,c5⟩
     unfold QY;have hE:∀ {G:Hp},Fr N5 H G→cE G h.A6=39:=fun fr=>M6 (by rw[fr.e _ (by omega)];exact b1);by_cases htn:t=n
     · obtain⟨dv2,Rf,ev2,G2,G3,e4,e5,hf2,f2,w5,f5,n5,c5⟩:=key (n+2) (Y6 k f.size) cv (hcv.K7 fun c h0 hc=>by
        have c1:=cl c hc;have c2:=hcv.lt w3 h0 hc;rw[fG1.e _ (by omega),fH.M5 _ (by omega) (by omega)]) (II _ _) (Bj (HA _) _ _) (by omega)
       have hnew:gF f S5 n (Y6 k f.size) (t+1)=gt.N6 (n+2) (Y6 k f.size):=by rw[←hgt,htn];exact AFh
       have z1:=f2.A6;have z2:=f2.base;have z3:=f5.base;have fG2:=fG1.trans f2 fun _ _ h=>h;have fG3:=fG2.trans f5 fun _ _ h=>h;have d1:=hf2.data.cell;have d2:=hf2.I0.cell;have d3:=hf2.dead.cell;simp only[N9,zs,zl,FM.T8,FM.U1] at b1 e4 e5 c5;unfold Vy at e5;simp(disch:=first|omega|(simp only[C6]<;>omega)) only[↓CG,B0,reduceCtorEq,Nat.reduceAdd,t2,t4,t5,t12,t14,b1,b2,g1,fG1.e,e4,e5,c5,f5.e,f2.e];refine .go ⟨by simp[D0,T.A9,t2,t4,t5,t7,t8,t12],w5.put (by omega) _,(fH.trans fG3 fun _ _ h=>h.elim).O6 _ (fun _=>rfl) (by omega),?_⟩;rw[hnew];refine⟨dv2,Rf,ev2,hf2.put _ (hE fG3) rfl,?_⟩;rw[K0];simp only[N9,zs,zl,FM.T8,FM.U1];rfl
     · obtain⟨dv2,Rf,ev2,G2,G3,e4,e5,hf2,f2,w5,f5,n5,c5⟩:=key t (AJ S5 t f.size) cw hcw (Ah _ _ _) (Bj hib _ _) (by omega);have hnew:gF f S5 n (Y6 k f.size) (t+1)=gt.N6 t (AJ S5 t f.size):=by rw[AEV (by omega),hgt]
       have z1:=f2.A6;have z2:=f2.base;have z3:=f5.base;have fG2:=fG1.trans f2 fun _ _ h=>h;have fG3:=fG2.trans f5 fun _ _ h=>h;have d1:=hf2.data.cell;have d2:=hf2.I0.cell;have d3:=hf2.dead.cell;simp only[N9,zs,zl,FM.T8,FM.U1] at b1 e4 e5 c5;unfold Vy at e5;simp(disch:=first|omega|(simp only[C6]<;>omega)) only[↓CG,B0,reduceCtorEq,Nat.reduceAdd,t2,t4,t5,t14,b1,b2,g1,fG1.e,e4,e5,c5,f5.e,f2.e];refine .go ⟨by simp[D0,T.A9,t2,t4,t5,t7,t8,t12],w5.put (by omega) _,(fH.trans fG3 fun _ _ h=>h.elim).O6 _ (fun _=>rfl) (by omega),?_⟩;rw[hnew];refine⟨dv2,Rf,ev2,hf2.put _ (hE fG3) rfl,?_⟩;rw[K0];simp only[N9,zs,zl,FM.T8,FM.U1];rfl
   ·obtain⟨⟨t2,t4,t5,t7,t8,t12,t14,-⟩,wH,fH,rest⟩:=hI;have b2:=A2 fH;unfold QY;simp(disch:=first|omega|(simp only[C6]<;>omega)) only[B0,Nat.reduceAdd,t5,t14,b2];exact .ex ⟨rfl,rfl,by simp[D0,T.A9,t4,t5,t7,t8],wH,fH,rest⟩
 rintro tm df H ⟨rfl,⟨t4,t5,t7,t8,-⟩,wH,fH,dv',wv',ev',hg,b1⟩;have b2:=A2 fH;have b3:=A3 fH;have b4:=A4 fH;have nH:=fH.A6;have bH:=fH.base;have bJ3:=fJ3.base;have fg3:=fg2 (n+1);have hnew:(gF f S5 n (Y6 k f.size) (n+1)).Lx n=CM f S5 n (Y6 k f.size) (Q5 f.size):=ADv;have zs:=PU f S5 n (Y6 k f.size) (n+1);have zl:=uJ f S5 n (Y6 k f.size) (n+1);have zd:=eC f S5 n (Y6 k f.size) (n+1);generalize gF f S5 n (Y6 k f.size) (n+1)=gt at *;have hlyH:=hly.fr hw (fh fH);obtain⟨r2,G2,e4,dv2,Rf,ev2,rfl,hf2,w2,f2⟩:=(hF H gt dv' wv' ev' sv uv tv n a b c ⟨wH,hg,hlyH,fg3.ok,by omega,by omega,fun s hs=>fg3.dead s hs,fun s=>by have:=fg3.I0 s;omega⟩).get;obtain⟨G3,e5,w5,f5,n5,c5⟩:=O5 w2 Vy (N9 (gt.Lx n) dv2 Rf ev2) 5 39;have js:(gt.Lx n).size=f.size:=by show gt.size=_;exact zs
 have jl:(gt.Lx n).K4=f.K4:=by show gt.K4=_;exact zl
 have ca:=hg.data.cell;have cb:=hg.I0.cell;have cc:=hg.dead.cell;have d1:=hf2.data.cell;have d2:=hf2.I0.cell;have d3:=hf2.dead.cell;have z1:=f2.A6;have z2:=f2.base;have z3:=f5.base;have fG3:=f2.trans f5 fun _ _ h=>h;simp only[N9,AX,BT,zs,zl,js,jl] at b1 e4 e5 c5;unfold Vy at e5;unfold Pv at b4;simp(disch:=first|omega|(simp only[C6]<;>omega)|exact⟨rfl,rfl,rfl⟩|assumption) only[↓CG,B0,reduceCtorEq,Nat.reduceAdd,Nat.reduceMul,Nat.reduceSub,t4,t5,t7,t8,b1,b2,b3,e4,e5,c5,fG3.e,b4,f2.n,f5.n,fG3.n];refine .ret ?_;simp(disch:=first|omega|(simp only[C6]<;>omega)) only[B0,t8];have hE:cE G3 (h.A6+1+1+1)=54:=M6 (by rw[fG3.e _ (by omega)];exact b4);have kZ:=(Ky.mk w5 ((fh fH).trans fG3 fun _ _ h=>h) rfl).put (b:=h.A6+1+1+1) (by omega) (by omega) hw (some (B6 (Ci (gt.Lx n) n dv2 Rf ev2 sv uv tv false) 36 54 true));have hfin:Go.Abs.B6 (Ci (gt.Lx n) n dv2 Rf ev2 sv uv tv false) 36 54 true=N2.row (C7 [Value.int IntKind.i64 (Int.ofNat f.size),dv2,Rf,Value.int IntKind.i64 (Int.ofNat f.K4),ev2,iN n,
  iN n,iN (n+1),iN (n+2),iN (n+3),sv,uv,tv,Value.int IntKind.i64 (Int.ofNat 0),
  Value.int IntKind.i64 (Int.ofNat 0),Value.int IntKind.i64 (Int.ofNat 0),
  Value.int IntKind.i64 (Int.ofNat 0),Value.bool false,Value.int IntKind.i64 (Int.ofNat 0),
  Value.int IntKind.i64 (Int.ofNat 0),Value.slice none 0 0,Value.slice none 0 0,Value.slice none 0 0,
  Value.slice none 0 0,Value.bool false,Value.bool false,Value.bool false,
  Value.int IntKind.i64 (Int.ofNat 0),Value.int IntKind.i64 (Int.ofNat 0),
  Value.int IntKind.i64 (Int.ofNat 0),Value.int IntKind.i64 (Int.ofNat 0),
  Value.int IntKind.i64 (Int.ofNat 0),Value.int IntKind.i64 (Int.ofNat 0),
  Value.int IntKind.i64 (Int.ofNat 0),Value.int IntKind.i64 (Int.ofNat 0),
  Value.int IntKind.i64 (Int.ofNat 0)] 0 T.nil fun t=>t) 36 54 true false:=by
  simp only[B6,Ci,N9,js,jl];rfl
 rw[←hfin];rw[←hnew];refine⟨⟨dv2,Rf,ev2,?_,(hf2.fr w2 f5).put _ hE rfl,hly.fr hw kZ.fr⟩,kZ.wf,kZ.fr⟩;simp only[Ci,N9,js,jl];rfl
abbrev AJY(A7:Call):Prop:=RNewR (A7 9)
section
variable {α:Type} {f:α→List A0} {s:Nat}
theorem ANn(hf:∀x,(f x).length=s):∀l:List α,(l.flatMap f).length=l.length*s
 | []=>by simp
 | x::l=>by rw[tI,Bz,hf,ANn hf l,Gn,Mm];omega
theorem NZ(hf:∀x,(f x).length=s):∀ {l:List α} {i j:Nat} {x:α},l[i]?=some x→j<s→(l.flatMap f)[i*s+j]?=(f x)[j]?
 | y::l,0,j,x,h,hj=>by
  grind
 | y::l,i+1,j,x,h,hj=>by rw[tI,Gj (by rw[hf,Mm];omega),hf,show(i+1)*s+j-s=i*s+j by rw[Mm];omega];exact NZ hf h hj
theorem A4P(hf:∀x,(f x).length=s):∀ {l:List α} {i:Nat} {x:α},l[i]?=some x→((l.flatMap f).drop (i*s)).take s=f x
 | y::l,0,x,h=>by
  grind
 | y::l,i+1,x,h=>by rw[tI,show(i+1)*s=(f y).length+i*s by rw[hf,Mm];omega,←A5l,List.drop_left];exact A4P hf h
theorem ALT(a b:List α):(a++b).flatMap f=a.flatMap f++b.flatMap f:=by simp
theorem Bd.ADp{e:TypeId}{K H:Hp}{Q:Nat→Prop}{v:A0}{l:List α}(hb:Bd e s K Q H v l.length (l.flatMap f))(hK:Wf K)(hf:∀x,(f x).length=s)(ho:∀x,K9 (f x)=true)(x:α)(hn:l.length≤90000):
 ∃v' H',DJ e s v (F8 H.A6 0 1 1) (H.new (B6 (f x) s e true))=.val v' H'∧Bd e s K Q H' v' (l++[x]).length ((l++[x]).flatMap f)∧(∀c,c<K.A6→H'.at c=H.at c)∧Fr (fun c=>0<l.length∧Ch v c) H H':=by
 have hn2:=hb.fr.A6;obtain⟨v',H',h1,h2,_,_,h5⟩:=(hb.step (hb.wf.new _) (Fr.new (B6 (f x) s e true))).app hK (y:=F8 H.A6 0 1 1) ⟨by rw[hf,Nat.one_mul],.inr ⟨_,_,_,rfl,by omega,O3 Dm (by rw[hf];exact M8 _)⟩⟩ (ho x) (by omega) (by omega);refine⟨v',H',h1,?_,fun c hc=>?_,(Fr.new _).trans h5 fun _ _ h=>h⟩
 ·grind
 ·rw[h5.M5 c (by rw[Q6];omega) fun hq=>by have:=hb.out.S6 hq.1 hq.2;omega,CN (by omega)]
end
structure WM where
 k:Nat
 f:Nat
 len:Nat
 b:Nat
variable {ops:List WM}
def Ns(x:WM):List A0:=[iN x.k,iN x.f,iN x.len,bN x.b,B7]
def A0n(l:List WM):List A0:=l.flatMap Ns
theorem Zh(x:WM):(Ns x).length=5:=rfl
theorem Zv(x:WM):K9 (Ns x)=true:=rfl
structure ABL(n:Nat)(x:WM):Prop where
 kd:(x.k=1∧x.f+x.len≤n∧x.b=0)∨(x.k=3∧x.f=0)
 l1:1≤x.len
 l2:x.len≤n
 b1:x.b<256
def BK:List WM→Nat
 | []=>0
 | x::l=>x.len+BK l
theorem ES:∀(a b:List WM),BK (a++b)=BK a+BK b
 | [],b=>by simp[BK]
 | x::a,b=>by show x.len+BK (a++b)=x.len+BK a+BK b;rw[ES a b];omega
structure Rt(n:Nat)(ops:List WM):Prop where
 ok:∀x∈ops,ABL n x
 sum:BK ops=n
 len:ops.length≤9
def Jq(n:Nat)(ov:A0):List A0:=[.bool false,iN n,iN n,ov]
def AZM(n:Nat)(ops:List WM)(lo:Nat)(r:A0)(H:Hp):Prop:=∃ov,r=.agg ⟨Jq n ov⟩∧Sl 5 H ov ops.length (A0n ops)∧∀c,0<ops.length→Ch ov c→lo≤c
def AXJ(x:Nat×Nat×Nat):List A0:=[bN x.1,bN x.2.1,bN x.2.2]
def A7c(l:List (Nat×Nat×Nat)):List A0:=l.flatMap AXJ
def AMm(l:List (Nat×Nat×Nat)):Prop:=∀x∈l,x.1<256∧x.2.1<256∧x.2.2<256
def AWz:List A0:=[i0,i0,i0,bN 0,B7]
abbrev R22PatchR(g:List A0→Hp→N3):Prop:=∀h lv l n,Wf h→Sl 3 h lv l.length (A7c l)→l.length<9223372036854775808→AMm l→0<n→n≤3000→C0 (g [lv,iN n] h) (fun r H=>(∃ops,Rt n ops∧AZM n ops h.A6 r H)∧Wf H∧Fr N5 h H)
theorem A3n:R22PatchR (G8 gP A7 cd):=by
 intro h lv l n hw hv hl hb h0 hn;have vl:=hv.len;obtain⟨J0,hJ0,wJ0,fJ0,nJ0,a1⟩:=J7 hw (B6 [.bool false,i0,i0,B7] 4 45 true);obtain⟨J,hJ,wJ,f1,nJ,a2⟩:=O5 wJ0 [.bool false,i0,i0,B7] [.bool false,iN n,i0,B7] 4 45;have hwb:=hw.base;have fJ:=fJ0.trans f1 fun _ _ h=>h;have bJ:=fJ.base;have A1:J.at h.A6=some (B6 [.bool false,i0,i0,B7] 4 45 true):=by rw[f1.e _ (by omega)];exact a1
 refine B5 rfl ?_;simp(disch:=first|omega|(simp only[C6]<;>omega)|exact⟨rfl,rfl,rfl⟩|assumption) only[B0,hJ0,hJ]
 let I:=fun(ops:List WM) (tm:T A0) (H:Hp)=>∃ov,D0 tm [([],lv),(Q0,iN n),(V1,C2 h.A6 0),(U2,C2 J0.A6 0)]∧H.at J0.A6=some (B6 [.bool false,iN n,iN (BK ops),ov] 4 45 true)∧Bd 159 5 J (fun k=>k=J0.A6) H ov ops.length (A0n ops)∧(∀x∈ops,ABL n x)∧BK ops≤n∧ops.length≤8
 obtain⟨m,hm8,hml,hme⟩:∃m,m≤8∧m≤l.length∧(m=8∨m=l.length):=by
  rcases DX l.length 8 with h|h
  ·exact⟨l.length,by omega,by omega,.inr rfl⟩
  ·exact⟨8,by omega,by omega,.inl rfl⟩
 refine D9.lp (P:=fun tm df H=>df=[]∧∃ops,I ops tm H) ?_ ?_
 · refine K6 (n:=m) (by omega) (fun i tm H=>tm.get Q8=some (iN i)∧∃ops,ops.length=i∧I ops tm H) ?_ (fun i tm H hi hI=>?_) (fun tm H hI=>?_)
   ·exact⟨by simp[T.A9],[],rfl,B7,by trivial,a2,Bd.nil wJ (Fr.refl _ _),by simp,by simp[BK],by simp⟩
   · obtain⟨t6,ops,hoi,ov,⟨t0,t1,t4,t5,-⟩,b5,bd,hok,hsum,h8⟩:=hI;have nH:=bd.fr.A6;have bH:=bd.fr.base;unfold KF;rcases DX (BK ops) n with hlt|hge
     · have hi':i<l.length:=by omega
       have hx:=X0 hi';obtain⟨x1,x2,x3⟩:=hb _ (Dh hi');have hvH:=hv.K7 fun c h0 hc=>by have:=hv.lt hw h0 hc;rw[bd.fr.M5 _ (by omega) (by omega),fJ.e _ (by omega)]
       have vA:=hvH.A (by omega);have g0:(A7c l)[i*3+0]?=some (bN l[i].1):=NZ (f:=AXJ) (fun _=>rfl) hx (by omega);have g1:(A7c l)[i*3+1]?=some (bN l[i].2.1):=NZ (f:=AXJ) (fun _=>rfl) hx (by omega);have g2:(A7c l)[i*3+2]?=some (bN l[i].2.2):=NZ (f:=AXJ) (fun _=>rfl) hx (by omega);have AKm:=(hvH.S (by omega)).A2z bd.wf;generalize l[i]=x at *;obtain⟨L,hmin,hL1,hL2⟩:∃L,min (1+x.2.1%40) (n-BK ops)=L∧1≤L∧L≤n-BK ops:=⟨_,rfl,by omega,by omega⟩
       obtain⟨K1,hK1,w1,f1',n1,c1⟩:=O5 bd.wf AWz [iN 3,i0,iN L,bN x.2.2,B7] 5 159;have b1k:=(f1'.e _ (by omega)).trans b5;have z1:=f1'.base;unfold AWz bN at hK1;rcases Br (x.1%4) with hxm|hxm
       · have bd1:=bd.step w1 f1';obtain⟨ov',H',e1,bd2,k2,fO⟩:=bd1.ADp wJ Zh Zv ⟨3,0,L,x.2.2⟩ (by omega);have b5':=k2 J0.A6 (by omega);rw[b1k] at b5';have y3:=bd2.fr.base;have y4:=bd2.fr.A6;have yc:=bd2.cell;have c3:H'.at H.A6=K1.at H.A6:=fO.M5 _ (by omega) fun hq=>by have:=bd.sl.lt bd.wf hq.1 hq.2;omega
         rw[c1] at c3;unfold Ns bN at e1;unfold bN at c1 c3;simp(disch:=first|omega|(simp only[C6]<;>omega)|exact⟨rfl,rfl,rfl⟩|assumption) only[↓CG,B0,reduceCtorEq,Nat.reduceAdd,Nat.reduceMul,Nat.reduceSub,t0,t1,t5,t6,vl,b5,vA,g0,g1,g2,hxm,hmin,hK1,f1'.e,f1'.n,b1k,c1,c3,b5',e1,bd.fr.n,bd1.fr.n,bd2.fr.n];refine .go ⟨by simp[T.A9],ops++[⟨3,0,L,x.2.2⟩],by simp[hoi],ov',by simp[D0,T.A9,t0,t1,t4,t5],?_,bd2.put wJ rfl (by omega) (by omega) _,?_,?_,?_⟩
         ·rw[K0,ES];rfl
         · intro y hy;rcases Gt.1 hy with hy|hy
           ·exact hok y hy
           ·rw[LZ.1 hy];exact⟨.inr ⟨rfl,rfl⟩,by show 1≤L;omega,by show L≤n;omega,by show x.2.2<256;omega⟩
         ·rw[ES];show BK ops+(L+0)≤n;omega
         simp;omega
       · by_cases hx3:x.1%4=3
         · skip
           obtain⟨L2,hmin2,hM1,hM2,hM3⟩:∃L2,min L (n-(BK ops))=L2∧1≤L2∧L2≤n-(BK ops)∧L2≤L:=⟨_,rfl,by omega,by omega,by omega⟩
           obtain⟨K2,hK2⟩:∃K,K1.put H.A6 (some (.row (C7 [iN 1,iN (BK ops),iN L2,bN 0,B7] 0 .nil fun t=>t) 5 159 true false))=K:=⟨_,rfl⟩
           have kK2:Ky H K2 (H.A6+1):=by rw[←hK2];exact(Ky.mk w1 f1' n1).put (by omega) (by omega) bd.wf _
           have c2:K2.at H.A6=some (.row (C7 [iN 1,iN (BK ops),iN L2,bN 0,B7] 0 .nil fun t=>t) 5 159 true false):=by rw[←hK2,K0]
           have bd1:=bd.step kK2.wf kK2.fr;obtain⟨ov',H',e1,bd2,k2,fO⟩:=bd1.ADp wJ Zh Zv ⟨1,(BK ops),L2,0⟩ (by omega);have b5':=k2 J0.A6 (by omega);have b5k:=(kK2.fr.e _ (by omega)).trans b5;rw[b5k] at b5';have y1:=kK2.nx;have y2:=kK2.fr.base;have y3:=bd2.fr.base;have y4:=bd2.fr.A6;have yc:=bd2.cell;have c3:H'.at H.A6=K2.at H.A6:=fO.M5 _ (by omega) fun hq=>by have:=bd.sl.lt bd.wf hq.1 hq.2;omega
           rw[c2] at c3;unfold Ns bN at e1;unfold bN at c1 c2 c3 hK2;simp(disch:=first|omega|(simp only[C6]<;>omega)|exact⟨rfl,rfl,rfl⟩|assumption) only[↓CG,B0,reduceCtorEq,Nat.reduceAdd,Nat.reduceMul,Nat.reduceSub,t0,t1,t5,t6,vl,b5,vA,g0,g1,g2,hx3,hmin,hmin2,hK1,f1'.e,f1'.n,b1k,hK2,c1,c2,c3,b5k,b5',e1,bd.fr.n,kK2.fr.e,kK2.fr.n,bd1.fr.n,bd2.fr.n];refine .go ⟨by simp[T.A9],ops++[⟨1,(BK ops),L2,0⟩],by simp[hoi],ov',by simp[D0,T.A9,t0,t1,t4,t5],?_,bd2.put wJ rfl (by omega) (by omega) _,?_,?_,?_⟩
           ·rw[K0,ES];rfl
           · intro y hy;rcases Gt.1 hy with hy|hy
             ·exact hok y hy
             ·rw[LZ.1 hy];exact⟨.inl ⟨rfl,by grind,rfl⟩,by show 1≤L2;omega,by show L2≤n;omega,by show 0<256;omega⟩
           ·rw[ES];show BK ops+(L2+0)≤n;omega
           simp;omega
         · obtain⟨F,hF,hF2⟩:∃F,x.2.2*3%n=F∧F<n:=⟨_,rfl,ZI _ h0⟩
           have hne:x.1%4≠3:=hx3;obtain⟨L2,hmin2,hM1,hM2,hM3⟩:∃L2,min L (n-F)=L2∧1≤L2∧L2≤n-F∧L2≤L:=⟨_,rfl,by omega,by omega,by omega⟩
           obtain⟨K2,hK2⟩:∃K,K1.put H.A6 (some (.row (C7 [iN 1,iN F,iN L2,bN 0,B7] 0 .nil fun t=>t) 5 159 true false))=K:=⟨_,rfl⟩
           have kK2:Ky H K2 (H.A6+1):=by rw[←hK2];exact(Ky.mk w1 f1' n1).put (by omega) (by omega) bd.wf _
           have c2:K2.at H.A6=some (.row (C7 [iN 1,iN F,iN L2,bN 0,B7] 0 .nil fun t=>t) 5 159 true false):=by rw[←hK2,K0]
           have bd1:=bd.step kK2.wf kK2.fr;obtain⟨ov',H',e1,bd2,k2,fO⟩:=bd1.ADp wJ Zh Zv ⟨1,F,L2,0⟩ (by omega);have b5':=k2 J0.A6 (by omega);have b5k:=(kK2.fr.e _ (by omega)).trans b5;rw[b5k] at b5';have y1:=kK2.nx;have y2:=kK2.fr.base;have y3:=bd2.fr.base;have y4:=bd2.fr.A6;have yc:=bd2.cell;have c3:H'.at H.A6=K2.at H.A6:=fO.M5 _ (by omega) fun hq=>by have:=bd.sl.lt bd.wf hq.1 hq.2;omega
           rw[c2] at c3;unfold Ns bN at e1;unfold bN at c1 c2 c3 hK2;simp(disch:=first|omega|(simp only[C6]<;>omega)|exact⟨rfl,rfl,rfl⟩|assumption) only[↓CG,B0,reduceCtorEq,Nat.reduceAdd,Nat.reduceMul,Nat.reduceSub,t0,t1,t5,t6,vl,b5,vA,g0,g1,g2,hF,hmin,hmin2,hK1,f1'.e,f1'.n,b1k,hK2,c1,c2,c3,b5k,b5',e1,bd.fr.n,kK2.fr.e,kK2.fr.n,bd1.fr.n,bd2.fr.n];refine .go ⟨by simp[T.A9],ops++[⟨1,F,L2,0⟩],by simp[hoi],ov',by simp[D0,T.A9,t0,t1,t4,t5],?_,bd2.put wJ rfl (by omega) (by omega) _,?_,?_,?_⟩
           ·rw[K0,ES];rfl
           · intro y hy;rcases Gt.1 hy with hy|hy
             ·exact hok y hy
             ·rw[LZ.1 hy];exact⟨.inl ⟨rfl,by show F+L2≤n;omega,rfl⟩,by show 1≤L2;omega,by show L2≤n;omega,by show 0<256;omega⟩
           ·rw[ES];show BK ops+(L2+0)≤n;omega
           simp;omega
     ·simp(disch:=first|omega|(simp only[C6]<;>omega)) only[B0,t0,t1,t5,t6,vl,b5];exact .ex ⟨rfl,rfl,ops,ov,by simp[D0,T.A9,t0,t1,t4,t5],b5,bd,hok,hsum,h8⟩
   · obtain⟨t6,ops,hoi,ov,⟨t0,t1,t4,t5,-⟩,b5,bd,hok,hsum,h8⟩:=hI;unfold KF;rcases DX m l.length with hlt|hge
     ·simp(disch:=omega) only[B0,t0,t6,vl];exact .ex ⟨rfl,rfl,ops,ov,by simp[D0,T.A9,t0,t1,t4,t5],b5,bd,hok,hsum,h8⟩
     ·simp(disch:=omega) only[B0,t0,t6,vl];exact .ex ⟨rfl,rfl,ops,ov,by simp[D0,T.A9,t0,t1,t4,t5],b5,bd,hok,hsum,h8⟩
 rintro tm df H ⟨rfl,ops,ov,⟨t0,t1,t4,t5,-⟩,b5,bd,hok,hsum,h8⟩;have nH:=bd.fr.A6;have bH:=bd.fr.base;have b4:H.at h.A6=some (B6 [.bool false,i0,i0,B7] 4 45 true):=by rw[bd.fr.M5 _ (by omega) (by omega)];exact A1
 have fin:∀ {H':Hp} {ov':A0} {ops':List WM},Bd 159 5 J (fun k=>k=J0.A6) H' ov' ops'.length (A0n ops')→Rt n ops'→(∃ops,Rt n ops∧AZM n ops h.A6 (.agg ⟨[.bool false,iN n,iN n,ov']⟩) (H'.put h.A6 (some (B6 [.bool false,iN n,iN n,ov'] 4 45 true))))∧Wf (H'.put h.A6 (some (B6 [.bool false,iN n,iN n,ov'] 4 45 true)))∧Fr N5 h (H'.put h.A6 (some (B6 [.bool false,iN n,iN n,ov'] 4 45 true))):=by
  intro H' ov' ops' b hp;have n1:=b.fr.A6;have hbk:∀c,0<ops'.length→Ch ov' c→J.A6≤c:=fun c h0 hc=>b.out.S6 h0 hc;have f2:=fJ.trans b.fr fun k hk e=>by omega
  refine⟨⟨ops',hp,ov',rfl,b.sl.K7 fun c h0 hc=>E9 (by have:=hbk c h0 hc;omega),fun c h0 hc=>by have:=hbk c h0 hc;omega⟩,b.wf.put (by omega) _,f2.O6 _ (fun hk=>by omega) (by omega)⟩
 rcases DX (BK ops) n with hlt|hge
 · obtain⟨ov',H',e1,bd2,k2,fO⟩:=bd.ADp wJ Zh Zv ⟨1,BK ops,n-BK ops,0⟩ (by omega);have b5':=k2 J0.A6 (by omega);rw[b5] at b5';have b4':=k2 h.A6 (by omega);rw[b4] at b4';have y3:=bd2.fr.base;have y4:=bd2.fr.A6;have yc:=bd2.cell;unfold Ns bN at e1;simp(disch:=first|omega|(simp only[C6]<;>omega)|exact⟨rfl,rfl,rfl⟩|assumption) only[B0,reduceCtorEq,t1,t4,t5,b5,b5',b4',e1];refine .ret ?_;simp(disch:=first|omega|(simp only[C6]<;>omega)) only[B0,t4];have hp:Rt n (ops++[⟨1,BK ops,n-BK ops,0⟩]):=by
    refine⟨fun y hy=>?_,?_,?_⟩
    · rcases Gt.1 hy with hy|hy
      ·exact hok y hy
      ·rw[LZ.1 hy];exact⟨.inl ⟨rfl,by grind,rfl⟩,by show 1≤n-BK ops;omega,by show n-BK ops≤n;omega,by show 0<256;omega⟩
    ·rw[ES];show BK ops+(n-BK ops+0)=n;omega
    grind
   have b6:=bd2.put wJ rfl (by omega) (by omega) (some (B6 [.bool false,iN n,iN n,ov'] 4 45 true));exact fin b6 hp
 · have he:BK ops=n:=by omega
   have yc:=bd.cell;rw[he] at b5;simp(disch:=first|omega|(simp only[C6]<;>omega)) only[B0,t1,t4,t5,b4,b5];refine .ret ?_;simp(disch:=first|omega|(simp only[C6]<;>omega)) only[B0,t4];exact fin bd ⟨hok,he,by omega⟩
abbrev xn(A7:Call):Prop:=R22PatchR (A7 21)
def AIL(l:List Nat)(i:Nat):Nat:=if i<l.length then l.getD i 0 else 7*i%256
def Vr(l:List Nat)(n:Nat):List Nat:=(List.range n).map (AIL l)
theorem A44(l:List Nat)(n:Nat):(Vr l n).length=n:=by simp[Vr]
theorem AMZ(l:List Nat)(n:Nat):Vr l (n+1)=Vr l n++[AIL l n]:=by simp[Vr,qp]
theorem A8p(h:∀x∈l,x<256)(n:Nat):∀x∈Vr l n,x<256:=fun x hx=>by
 obtain⟨i,_,rfl⟩:=FY.1 hx;unfold AIL;split
 ·simp_all
 ·omega
abbrev R06InputR(g:List A0→Hp→N3):Prop:=∀h bv l n,Wf h→Sl 1 h bv l.length (M4 l)→0<n→n≤3000→l.length<9223372036854775808→C0 (g [bv,iN n] h) (fun r H=>AND (Vr l n) h r H∧MB r)
theorem A1d:R06InputR (G8 jn A7 cd):=by
 intro h bv l n hw hb h0 hn hl;obtain⟨J,hJ,wJ,fJ,nJ,a1⟩:=J7 hw (B6 [] 0 5 true);have hwb:=hw.base;have bl:=hb.len;refine B5 rfl ?_;simp only[B0,hJ];refine D9.lp (P:=fun tm df H=>df=[]∧∃o,D0 tm [(U2,o)]∧Bd 5 1 h N5 H o n (M4 (Vr l n))) ?_ ?_
 · refine K6 (n:=n) (by omega) (fun i tm H=>∃o,D0 tm [([],bv),(Q0,iN n),(U2,o),(Q8,iN i)]∧Bd 5 1 h N5 H o i (M4 (Vr l i))) ?_ (fun i tm H hi hI=>?_) (fun tm H hI=>?_)
   ·exact⟨_,by simp[D0,T.A9,Fy,PY];rfl,Bd.OX wJ fJ⟩
   · obtain⟨o,⟨t0,t1,t5,t6,-⟩,bd⟩:=hI;have hbH:=hb.fr hw bd.fr;obtain⟨o',H',e1,bd2⟩:=bd.one hw (bN (AIL l i)) U6 (by omega);rw[show M4 (Vr l i)++[bN (AIL l i)]=M4 (Vr l (i+1)) by rw[AMZ,Ih];rfl] at bd2;have e3:W4 .u8 (.ofNat (7*i))=.ofNat (7*i%256):=QH _;unfold Ks;by_cases hc:i<l.length
     · have hx:=G6 hc;have hy:AIL l i=l.getD i 0:=by unfold AIL;rw[if_pos hc]
       have vA:=hbH.A (by omega);rw[hy] at e1;simp(disch:=first|omega|exact⟨rfl,rfl,rfl⟩|assumption) only[B0,reduceCtorEq,t0,t1,t5,t6,e3,vA,Q1 hx,e1];exact .go ⟨o',by simp[D0,T.A9,t0,t1],bd2⟩
     · have hy:AIL l i=7*i%256:=by unfold AIL;rw[if_neg hc]
       rw[hy] at e1;simp(disch:=first|omega|exact⟨rfl,rfl,rfl⟩|assumption) only[B0,reduceCtorEq,t0,t1,t5,t6,bl,e3,e1];exact .go ⟨o',by simp[D0,T.A9,t0,t1],bd2⟩
   ·obtain⟨o,⟨t0,t1,t5,t6,-⟩,bd⟩:=hI;unfold Ks;simp(disch:=omega) only[B0,t1,t6];exact .ex ⟨rfl,rfl,o,by simp[D0,T.A9,t5],bd⟩
 rintro tm df H ⟨rfl,o,⟨t5,-⟩,bd⟩;simp only[B0,t5];refine .ret ?_;simp only[B0];exact⟨bd.AS7 (A44 _ _) h0,bd.out.AZK (by omega)⟩
abbrev xK(A7:Call):Prop:=R06InputR (A7 19)
theorem AHZ{a b:Nat}(h1:b≤a)(h2:a≤c):C0 (G8 A6i A7 cd [iN a,iN b,iN c] h) (VI (.bool true) h):=by refine B5 rfl ?_;simp(disch:=omega) only[B0,reduceCtorEq];refine .ret ?_;simp only[B0];exact⟨rfl,rfl⟩
abbrev mj(A7:Call):Prop:=∀H a b c,b≤a→a≤c→A7 176 [iN a,iN b,iN c] H=.val (.bool true) H
theorem tM(hi:mj A7){x:WM}{n:Nat}(hw:Wf h)(hx:ABL n x)(hn:n≤3000):C0 (G8 Vo A7 cd [.agg ⟨Ns x⟩,iN n] h) (QR (.bool true) h):=by
 obtain⟨J,hJ,wJ,fJ,nJ,a1⟩:=J7 hw (B6 (Ns x) 5 159 true);have hwb:=hw.base;obtain⟨hk,l1,l2,b1⟩:=hx;obtain⟨k,f,len,b⟩:=x;dsimp only at hk l1 l2 b1;have e3:=Fh .i64 (by omega);unfold Ns at hJ a1 ⊢;dsimp only at hJ a1 ⊢;refine B5 rfl ?_;rcases hk with⟨rfl,hf,rfl⟩|⟨rfl,rfl⟩
 ·simp(disch:=first|omega|(simp only[C6]<;>omega)) only[↓CG,B0,reduceCtorEq,Nat.reduceAdd,hJ,a1,hi];refine .ret ?_;simp only[B0];exact⟨rfl,fJ.log⟩
 ·simp(disch:=first|omega|(simp only[C6]<;>omega)) only[↓CG,B0,reduceCtorEq,Nat.reduceAdd,hJ,a1,hi];refine .ret ?_;simp only[B0];exact⟨rfl,fJ.log⟩
abbrev A32(A7:Call):Prop:=∀H x n,Wf H→ABL n x→n≤3000→A7 249 [.agg ⟨Ns x⟩,iN n] H=.val (.bool true) H
theorem AFd{l:List WM}{x:WM}(h:l[i]?=some x):(A0n l)[i*5+2]?=some (iN x.len):=NZ (f:=Ns) (s:=5) (fun _=>rfl) h (j:=2) (by omega)
theorem AM8{l:List WM}{x:WM}(h:l[i]?=some x):((A0n l).drop (i*5)).take 5=Ns x:=A4P (f:=Ns) (s:=5) (fun _=>rfl) h
theorem zK{l:List WM}{x:WM}(h:l[i]?=some x):BK (l.take (i+1))=BK (l.take i)+x.len:=by rw[take_one h,ES];rfl
theorem AE7{l:List WM}(i:Nat):BK (l.take i)≤BK l:=by have:=ES (l.take i) (l.drop i);simp_all
theorem A0M(hi:mj A7)(hR:A32 A7){n:Nat}(hw:Wf h)(hp:Rt n ops)(hv:Sl 5 h ov ops.length (A0n ops))(hn:n≤3000):C0 (G8 gM A7 cd [.agg ⟨Jq n ov⟩] h) (QR (.tuple ⟨[iN ops.length,i0]⟩) h):=by
 obtain⟨J,hJ,wJ,fJ,nJ,a1⟩:=J7 hw (B6 (Jq n ov) 4 45 true);obtain⟨hok,hsum,h9⟩:=hp;have hwb:=hw.base;have vl:=hv.len;have cv:=hv.cell;have hvJ:=hv.fr hw fJ;unfold Jq at hJ a1 ⊢;refine B5 rfl ?_;simp(disch:=first|omega|(simp only[C6]<;>omega)) only[B0,hJ,a1,hi,vl];refine D9.lp (P:=fun tm df H=>df=[]∧D0 tm [(Q0,C2 h.A6 0),(V1,iN n)]∧H=J) ?_ ?_
 · refine K6 (n:=ops.length) (by omega) (fun i tm H=>D0 tm [(Q0,C2 h.A6 0),(V1,iN (BK (ops.take i))),(U2,iN i)]∧H=J) ⟨by simp[D0,T.A9,BK],rfl⟩ (fun i tm H hi' hI=>?_) (fun tm H hI=>?_)
   ·obtain⟨⟨t1,t4,t5,-⟩,rfl⟩:=hI;have hx:=X0 hi';have vA:=hvJ.A (by omega);have g2:=AFd hx;have gl:=AM8 hx;have e1:=hR (B8 H H.A6 []) ops[i] n (wJ.sb []) (hok _ (Dh hi')) hn;have hs:=zK hx;have hle:=AE7 (l:=ops) (i+1);generalize ops[i]=x at *;unfold Ns at gl e1;unfold Lc;simp(disch:=first|omega|(simp only[C6]<;>omega)|assumption) only[B0,t1,t4,t5,a1,vA,g2,gl,e1];exact .go ⟨by simp[D0,T.A9,t1,hs],rfl⟩
   ·obtain⟨⟨t1,t4,t5,-⟩,rfl⟩:=hI;rw[Rm,hsum] at t4;unfold Lc;simp(disch:=first|omega|(simp only[C6]<;>omega)) only[B0,t1,t5,a1,vl];exact .ex ⟨rfl,rfl,by simp[D0,T.A9,t1,t4],rfl⟩
 rintro tm df H ⟨rfl,⟨t1,t4,-⟩,rfl⟩;simp(disch:=first|omega|(simp only[C6]<;>omega)) only[B0,reduceCtorEq,t1,t4,a1,vl];refine .ret ?_;simp only[B0];exact⟨rfl,fJ.log⟩
abbrev eo(A7:Call):Prop:=∀H ov ops n,Wf H→Rt n ops→Sl 5 H ov ops.length (A0n ops)→n≤3000→A7 150 [.agg ⟨Jq n ov⟩] H=.val (.tuple ⟨[iN ops.length,i0]⟩) H
theorem A19(hC:eo A7){n:Nat}(hw:Wf h)(hp:Rt n ops)(hv:Sl 5 h ov ops.length (A0n ops))(hn:n≤3000):C0 (G8 jQ A7 cd [.agg ⟨Jq n ov⟩] h) (QR (.bool true) h):=by obtain⟨J,hJ,wJ,fJ,nJ,a1⟩:=J7 hw (B6 (Jq n ov) 4 45 true);have e1:=hC J ov ops n wJ hp (hv.fr hw fJ) hn;have hwb:=hw.base;have cv:=hv.cell;unfold Jq at hJ a1 e1 ⊢;refine B5 rfl ?_;simp(disch:=first|omega|(simp only[C6]<;>omega)) only[B0,hJ,a1,e1];refine .ret ?_;simp only[B0];exact⟨rfl,fJ.log⟩
abbrev Ol(A7:Call):Prop:=∀H ov ops n,Wf H→Rt n ops→Sl 5 H ov ops.length (A0n ops)→n≤3000→A7 66 [.agg ⟨Jq n ov⟩] H=.val (.bool true) H
structure Sy where
 o:Bool
 M5:Nat
 b:Nat
variable {ss:List Sy}
def AEG(s:Sy):List A0:=[.bool s.o,iN s.M5,bN s.b]
def AOx(l:List Sy):List A0:=l.flatMap AEG
def AI4(x:WM)(i:Nat):Sy:=if x.k=1 then⟨true,x.f+i,0⟩ else⟨false,0,x.b⟩
def uV(x:WM)(k:Nat):List Sy:=(List.range k).map (AI4 x)
def DY(ops:List WM):List Sy:=ops.flatMap fun x=>uV x x.len
structure AJv(n:Nat)(s:Sy):Prop where
 a:s.o=true→s.M5<n
 a2:s.M5≤n
 b:s.b<256
theorem A6U(x:WM)(k:Nat):(uV x k).length=k:=by simp[uV]
theorem AGp(x:WM)(k:Nat):uV x (k+1)=uV x k++[AI4 x k]:=by simp[uV,qp]
theorem AM9(a b:List WM):DY (a++b)=DY a++DY b:=by simp[DY]
theorem Sm:∀ops,(DY ops).length=BK ops
 | []=>rfl
 | x::l=>by
  have:DY (x::l)=uV x x.len++DY l:=by simp[DY]
  rw[this,Bz,A6U,Sm l];rfl
theorem AF7{n:Nat}(h:∀x∈ops,ABL n x):∀s∈DY ops,AJv n s:=fun s hs=>by
 obtain⟨x,hx,hs⟩:=A1r.1 hs;obtain⟨i,hi,rfl⟩:=FY.1 hs;have hi:=pR.1 hi;have ho:=h x hx;unfold AI4;split
 · rename_i hk;rcases ho.kd with⟨_,h2,_⟩|⟨h2,_⟩
   ·constructor<;>grind
   ·omega
 ·exact AJv.mk (fun h=>by cases h) (BB _) ho.b1
theorem wj{x:WM}{n:Nat}(hw:Wf h)(hx:ABL n x)(hn:n≤3000)(hi:i<x.len):C0 (G8 cD A7 cd [.agg ⟨Ns x⟩,iN i] h) (QR (.agg ⟨AEG (AI4 x i)⟩) h):=by
 obtain⟨J,hJ,wJ,fJ,nJ,a1,a2⟩:=U7 hw (B6 (Ns x) 5 159 true) (B6 [.bool false,i0,bN 0] 3 265 true);have hwb:=hw.base;obtain⟨hk,l1,l2,b1⟩:=hx;obtain⟨k,f,len,b⟩:=x;dsimp only at hk l1 l2 b1 hi;unfold Ns at hJ a1 ⊢;dsimp only at hJ a1 ⊢;refine B5 rfl ?_;rcases hk with⟨rfl,hf,rfl⟩|⟨rfl,rfl⟩
 ·simp(disch:=first|omega|(simp only[C6]<;>omega)|exact⟨rfl,rfl,rfl⟩|assumption) only[↓CG,B0,reduceCtorEq,Nat.reduceAdd,hJ,a1,a2];refine .ret ?_;simp(disch:=first|omega|(simp only[C6]<;>omega)) only[B0,reduceCtorEq];exact⟨rfl,((Ky.mk wJ fJ nJ).put (by omega) (by omega) hw _).fr.log⟩
 ·simp(disch:=first|omega|(simp only[C6]<;>omega)|exact⟨rfl,rfl,rfl⟩|assumption) only[↓CG,B0,reduceCtorEq,Nat.reduceAdd,hJ,a1,a2];refine .ret ?_;simp(disch:=first|omega|(simp only[C6]<;>omega)) only[B0,reduceCtorEq];exact⟨rfl,((Ky.mk wJ fJ nJ).put (by omega) (by omega) hw _).fr.log⟩
abbrev YO(A7:Call):Prop:=∀H x n i,Wf H→ABL n x→n≤3000→i<x.len→A7 166 [.agg ⟨Ns x⟩,iN i] H=.val (.agg ⟨AEG (AI4 x i)⟩) H
theorem AQ8(s:Sy):(AEG s).length=3:=rfl
theorem AO1(s:Sy):K9 (AEG s)=true:=rfl
theorem AG8{l:List Sy}{x:Sy}(h:l[i]?=some x):(AOx l)[i*3+0]?=some (.bool x.o)∧(AOx l)[i*3+1]?=some (iN x.M5)∧(AOx l)[i*3+2]?=some (bN x.b):=⟨NZ (f:=AEG) (s:=3) (fun _=>rfl) h (j:=0) (by omega),NZ (f:=AEG) (s:=3) (fun _=>rfl) h (j:=1) (by omega),NZ (f:=AEG) (s:=3) (fun _=>rfl) h (j:=2) (by omega)⟩
theorem ASi{l:List Sy}{x:Sy}(h:l[i]?=some x):((AOx l).drop (i*3)).take 3=AEG x:=A4P (f:=AEG) (s:=3) (fun _=>rfl) h
abbrev AGv(H:Hp)(v:A0)(l:List Sy):Prop:=Sl 3 H v l.length (AOx l)
abbrev R06SymR(g:List A0→Hp→N3):Prop:=∀h ov ops n,Wf h→Rt n ops→Sl 5 h ov ops.length (A0n ops)→n≤3000→C0 (g [.agg ⟨Jq n ov⟩] h) (fun r H=>(∃v,r=.tuple ⟨[v,i0]⟩∧AGv H v (DY ops))∧Wf H∧Fr N5 h H)
theorem mF(hR:Ol A7)(hS:YO A7):R06SymR (G8 Vj A7 cd):=by
 intro h ov ops n hw hp hv hn;obtain⟨J,hJ,wJ,fJ,nJ,a1⟩:=J7 hw (B6 (Jq n ov) 4 45 true);obtain⟨J1,hJ1,wJ1,fJ1,nJ1,a2⟩:=J7 wJ (B6 [] 0 265 true);obtain⟨hok,hsum,h9⟩:=id hp;have hwb:=hw.base;have bJ:=fJ.base;have vl:=hv.len;have cv:=hv.cell;have fh1:=fJ.trans fJ1 fun _ _ h=>h;have e0:=hR J ov ops n wJ hp (hv.fr hw fJ) hn;have hvJ:=hv.fr hw fh1;have A1:=(fJ1.e _ (by omega)).trans a1;unfold Jq at hJ a1 A1 e0 ⊢;refine B5 rfl ?_;simp(disch:=first|omega|(simp only[C6]<;>omega)) only[B0,hJ,a1,e0,hJ1];refine D9.lp (P:=fun tm df H=>df=[]∧∃o,D0 tm [(V1,o)]∧Bd 265 3 J1 N5 H o (DY ops).length (AOx (DY ops))) ?_ ?_
 · refine K6 (n:=ops.length) (by omega) (fun i tm H=>∃o,D0 tm [(Q0,C2 h.A6 0),(V1,o),(U2,iN i)]∧Bd 265 3 J1 N5 H o (DY (ops.take i)).length (AOx (DY (ops.take i)))) ?_ (fun i tm H hi hI=>?_) (fun tm H hI=>?_)
   ·exact⟨_,by simp[D0,T.A9];rfl,Bd.OX wJ1 (Fr.refl _ _)⟩
   · obtain⟨o,⟨t1,t4,t5,-⟩,bd⟩:=hI;have hx:=X0 hi;have b1:=bd.fr.e h.A6 (by omega);rw[A1] at b1;have hoi:=hok _ (Dh hi);have hs:=zK hx;have hle:=AE7 (l:=ops) (i+1);have hsn:DY (ops.take (i+1))=DY (ops.take i)++uV ops[i] ops[i].len:=by rw[take_one hx,AM9];simp[DY]
     have hsl:=Sm (ops.take i);have g2:=AFd hx;have gl:=AM8 hx;generalize ops[i]=x at *;have hl2:=hoi.l2;unfold HE;simp(disch:=first|omega|(simp only[C6]<;>omega)) only[B0,t1,t5,b1,vl];refine D9.AXG (P:=fun tm df H'=>df=[]∧∃o,D0 tm [(Q0,C2 h.A6 0),(V1,o),(U2,iN i)]∧Bd 265 3 J1 N5 H' o (DY (ops.take (i+1))).length (AOx (DY (ops.take (i+1))))) ?_ ?_
     · refine K6 (n:=x.len) (by omega) (fun k tm H'=>∃o,D0 tm [(Q0,C2 h.A6 0),(V1,o),(U2,iN i),(Q8,iN k)]∧Bd 265 3 J1 N5 H' o (DY (ops.take i)++uV x k).length (AOx (DY (ops.take i)++uV x k))) ?_ (fun k tm H' hk hI=>?_) (fun tm H' hI=>?_)
       ·exact⟨o,by simp[D0,T.A9,t1,t4,t5],by simpa[uV] using bd⟩
       ·obtain⟨o,⟨t1,t4,t5,t6,-⟩,bd⟩:=hI;have b1:=bd.fr.e h.A6 (by omega);rw[A1] at b1;have hvH:=hvJ.fr wJ1 bd.fr;have vA:=hvH.A (by omega);have e1:=hS H' x n k bd.wf hoi hn hk;obtain⟨o',H2,e2,bd2,_,_⟩:=bd.ADp wJ1 AQ8 AO1 (AI4 x k) (by rw[Bz,A6U];omega);rw[iX,←AGp] at bd2;unfold Ns at gl e1;unfold AEG at e1 e2;unfold Gw;simp(disch:=first|omega|(simp only[C6]<;>omega)) only[B0,reduceCtorEq,t1,t4,t5,t6,b1,vA,g2,gl,e1,e2];exact .go ⟨o',by simp[D0,T.A9,t1,t5],bd2⟩
       ·obtain⟨o,⟨t1,t4,t5,t6,-⟩,bd⟩:=hI;have b1:=bd.fr.e h.A6 (by omega);rw[A1] at b1;have hvH:=hvJ.fr wJ1 bd.fr;have vA:=hvH.A (by omega);rw[←hsn] at bd;unfold Gw;simp(disch:=first|omega|(simp only[C6]<;>omega)) only[B0,t1,t5,t6,b1,vA,g2];exact .ex ⟨rfl,rfl,o,by simp[D0,T.A9,t1,t4,t5],bd⟩
     rintro tm df H' ⟨rfl,o,⟨t1,t4,t5,-⟩,bd⟩;simp(disch:=omega) only[B0,t5];exact .go ⟨o,by simp[D0,T.A9,t1,t4],bd⟩
   ·obtain⟨o,⟨t1,t4,t5,-⟩,bd⟩:=hI;rw[Rm] at bd;have b1:=bd.fr.e h.A6 (by omega);rw[A1] at b1;unfold HE;simp(disch:=first|omega|(simp only[C6]<;>omega)) only[B0,t1,t5,b1,vl];exact .ex ⟨rfl,rfl,o,by simp[D0,T.A9,t4],bd⟩
 rintro tm df H ⟨rfl,o,⟨t4,-⟩,bd⟩;simp only[B0,t4];refine .ret ?_;simp only[B0];exact⟨⟨o,rfl,bd.sl⟩,bd.wf,fh1.trans bd.fr fun _ _ h=>h⟩
abbrev lL(A7:Call):Prop:=R06SymR (A7 81)
def ARl(n:Nat)(h:Hp)(r:A0)(H:Hp):Prop:=(∃v l,r=.tuple ⟨[v,i0]⟩∧l.length=n∧Sl 1 H v n (M4 l)∧∀x∈l,x<256)∧Wf H∧Fr N5 h H
theorem ALL(n:Nat):n%256<256:=by omega
abbrev R06RunR(g:List A0→Hp→N3):Prop:=∀h bv sv l ss n,Wf h→Sl 1 h bv n (M4 l)→l.length=n→AGv h sv ss→(∀s∈ss,AJv n s)→0<n→n≤3000→ss.length≤3000→C0 (g [bv,sv] h) (ARl ss.length h)
theorem ABD(hi:mj A7):R06RunR (G8 A0a A7 cd):=by
 intro h bv sv l ss n hw hb hln hs ho h0 hn hsn;obtain⟨J,hJ,wJ,fJ,nJ,a1⟩:=J7 hw (B6 [] 0 5 true);have hwb:=hw.base;have bl:=hb.len;have sl:=hs.len;have e3:=Fh .i64 (a:=n) (b:=1) (by omega);refine B5 rfl ?_;simp only[B0,hJ];refine D9.lp (P:=fun tm df H=>df=[]∧∃o out,D0 tm [(Q8,o)]∧out.length=ss.length∧(∀x∈out,x<256)∧Bd 5 1 h N5 H o ss.length (M4 out)) ?_ ?_
 · refine K6 (n:=ss.length) (by omega) (fun i tm H=>∃o out,D0 tm [([],bv),(Q0,sv),(Q8,o),(AL,iN i)]∧out.length=i∧(∀x∈out,x<256)∧Bd 5 1 h N5 H o i (M4 out)) ?_ (fun i tm H hi' hI=>?_) (fun tm H hI=>?_)
   ·exact⟨_,[],by simp[D0,T.A9,Fy,PY];rfl,rfl,by simp,Bd.OX wJ fJ⟩
   · obtain⟨o,out,⟨t0,t1,t6,t7,-⟩,hol,hob,bd⟩:=hI;have hx:=X0 hi';obtain⟨g0,g1,g2⟩:=AG8 hx;have hsx:=ho _ (Dh hi');have hbH:=hb.fr hw bd.fr;have hsH:=hs.fr hw bd.fr;have bA:=hbH.A h0;have sA:=hsH.A (by omega);generalize ss[i]=s at *;obtain⟨so,sat,sb⟩:=s;obtain⟨c1,c2,c3⟩:=hsx;dsimp only at g0 g1 g2 c1 c2 c3;have snoc:∀y,y<256→(out++[y]).length=i+1∧(∀x∈out++[y],x<256)∧M4 out++[bN y]=M4 (out++[y]):=fun y hy=>⟨by simp[hol],fun x hx=>by
      rcases Gt.1 hx with h|h
      ·exact hob x h
      simp_all,by rw[Ih];rfl⟩
     unfold PJ;cases so with
     | true =>
      have hlt:sat<l.length:=by rw[hln];exact c1 rfl
      have hy:=Q1 (G6 hlt);have e4:W4 .u8 (.ofNat (sb+l.getD sat 0))=.ofNat ((sb+l.getD sat 0)%256):=QH _;obtain⟨o',H',e1,bd2⟩:=bd.one hw (bN ((sb+l.getD sat 0)%256)) U6 (by omega);obtain⟨k1,k2,k3⟩:=snoc _ (ALL (sb+l.getD sat 0));rw[k3] at bd2;simp(disch:=first|omega|exact⟨rfl,rfl,rfl⟩|assumption) only[B0,reduceCtorEq,t0,t1,t6,t7,sA,g0,g1,g2,hi,bA,hy,e4,e1];exact .go ⟨o',_,by simp[D0,T.A9,t0,t1],k1,k2,bd2⟩
     | false =>
      obtain⟨o',H',e1,bd2⟩:=bd.one hw (bN sb) U6 (by omega);obtain⟨k1,k2,k3⟩:=snoc _ c3;rw[k3] at bd2;simp(disch:=first|omega|exact⟨rfl,rfl,rfl⟩|assumption) only[B0,reduceCtorEq,t1,t6,t7,sA,g0,g2,e1];exact .go ⟨o',_,by simp[D0,T.A9,t0,t1],k1,k2,bd2⟩
   ·obtain⟨o,out,⟨t0,t1,t6,t7,-⟩,hol,hob,bd⟩:=hI;unfold PJ;simp(disch:=omega) only[B0,t1,t7,sl];exact .ex ⟨rfl,rfl,o,out,by simp[D0,T.A9,t6],hol,hob,bd⟩
 rintro tm df H ⟨rfl,o,out,⟨t6,-⟩,hol,hob,bd⟩;simp only[B0,t6];refine .ret ?_;simp only[B0];exact⟨⟨o,out,rfl,hol,bd.sl,hob⟩,bd.wf,bd.fr⟩
abbrev AEL(A7:Call):Prop:=R06RunR (A7 84)
abbrev R06ApplyR(g:List A0→Hp→N3):Prop:=∀h bv ov l ops n,Wf h→Sl 1 h bv n (M4 l)→l.length=n→Rt n ops→Sl 5 h ov ops.length (A0n ops)→0<n→n≤3000→C0 (g [bv,.agg ⟨Jq n ov⟩] h) (ARl n h)
theorem A22(hS:lL A7)(hR:AEL A7):R06ApplyR (G8 gu A7 cd):=by intro h bv ov l ops n hw hb hln hp hv h0 hn;obtain⟨J,hJ,wJ,fJ,nJ,a1⟩:=J7 hw (B6 (Jq n ov) 4 45 true);have hwb:=hw.base;have bl:=hb.len;have cb:=hb.cell;have cv:=hv.cell;obtain⟨r1,H1,e1,⟨sv,rfl,hs⟩,w1,f1⟩:=(hS J ov ops n wJ hp (hv.fr hw fJ) hn).get;have csv:=hs.cell;have fh1:=fJ.trans f1 fun _ _ h=>h;have hl:=Sm ops;have hsm:=hp.sum;obtain⟨r2,H2,e2,⟨rv,out,rfl,hol,ho,hob⟩,w2,f2⟩:=(hR H1 bv sv l (DY ops) n w1 (hb.fr hw fh1) hln hs (AF7 hp.ok) h0 hn (by omega)).get;rw[hl,hsm] at hol ho;have crv:=ho.cell;have fh2:=fh1.trans f2 fun _ _ h=>h;have n1:=f1.A6;unfold Jq at hJ a1 e1 ⊢;refine B5 rfl ?_;simp(disch:=first|omega|(simp only[C6]<;>omega)) only[↓CG,B0,reduceCtorEq,Nat.reduceAdd,hJ,a1,e1,e2,f1.e,f2.e,bl];refine .ret ?_;simp only[B0];constructor<;>grind
abbrev dL(A7:Call):Prop:=R06ApplyR (A7 28)
abbrev UC(H:Hp)(v:A0)(l:List Nat):Prop:=Sl 1 H v l.length (J8 l)
def RW(H:Hp)(v:A0)(rows:List (List Nat)):Prop:=∃vs,vs.length=rows.length∧Sl 1 H v rows.length vs∧∀(i:Nat) (r:List Nat),rows[i]?=some r→∃w,vs[i]?=some w∧UC H w r∧r.length≤100
theorem RW.fr{H:Hp}{v:A0}{rows:List (List Nat)}(x:RW h v rows)(hw:Wf h)(f:Fr N5 h H):RW H v rows:=by obtain⟨vs,h1,h2,h3⟩:=x;exact⟨vs,h1,h2.fr hw f,fun i r hi=>by obtain⟨w,h4,h5,h6⟩:=h3 i r hi;exact⟨w,h4,h5.fr hw f,h6⟩⟩
def AVG(h:Hp)(v:A0)(H:Hp):Prop:=∃b,QR (.bool b) h v H
def AYi(h:Hp)(v:A0)(H:Hp):Prop:=∃b,VI (.bool b) h v H
theorem ABS{v:A0}{n:Nat}(hv:UC h v l)(hl:l.length≤1000):C0 (G8 zE A7 cd [v,iN n] h) (AYi h):=by
 have vl:=hv.len;refine B5 rfl ?_;simp only[B0];refine D9.A9C (P:=fun tm df H=>df=[]∧H=h) (R:=fun tm df H=>df=[]∧H=h∧D0 tm [(V1,.bool true)]) ?_ ?_ ?_
 · refine K6 (n:=l.length) (by omega) (fun i tm H=>D0 tm [([],v),(Q0,iN n),(U2,iN i)]∧H=h) ?_ (fun i tm H hi hI=>?_) (fun tm H hI=>?_)
   ·trivial
   · obtain⟨⟨t0,t1,t5,-⟩,rfl⟩:=hI;have vA:=hv.A (by omega);have hx:=O7 (G6 hi);unfold QI;by_cases he:l.getD i 0=n
     ·simp(disch:=omega) only[B0,reduceCtorEq,t0,t1,t5,vA,hx];exact .ret (.inr ⟨rfl,rfl,rfl,by simp[D0,T.A9]⟩)
     ·simp(disch:=omega) only[B0,reduceCtorEq,t0,t1,t5,vA,hx];exact .go ⟨by simp[D0,T.A9,t0,t1],rfl⟩
   ·obtain⟨⟨t0,t1,t5,-⟩,rfl⟩:=hI;unfold QI;simp(disch:=omega) only[B0,t0,t5,vl];constructor<;>grind
 ·rintro tm df H ⟨rfl,rfl⟩;simp only[B0];refine .ret ?_;simp only[B0];exact⟨false,rfl,rfl⟩
 ·rintro tm df H ⟨rfl,rfl,t4,-⟩;refine .ret ?_;simp only[B0,t4];exact⟨true,rfl,rfl⟩
abbrev YT(A7:Call):Prop:=∀H v l n,UC H v l→l.length≤1000→∃b,A7 156 [v,iN n] H=.val (.bool b) H
theorem sS{a b:Nat}(h0:0<b)(ha:a≤100000)(hb:b≤100000):C0 (G8 Wi A7 cd [iN a,iN b] h) (VI (iN ((a+b-1)/b)) h):=by have e1:=Fh .i64 (a:=a+b) (b:=1) (by omega);have hd:(a+b-1)/b≤a+b-1:=ACw _ _;refine B5 rfl ?_;simp(disch:=omega) only[B0,reduceCtorEq];refine .ret ?_;simp only[B0];exact⟨rfl,rfl⟩
abbrev A43(A7:Call):Prop:=∀H a b,0<b→a≤100000→b≤100000→A7 251 [iN a,iN b] H=.val (iN ((a+b-1)/b)) H
def IX(sv:A0)(n z:Nat):List A0:=[sv,iN n,iN z]
theorem AYN(a b c:Bool):∃d,Bool.rec (motive:=fun _=>Option Bool) (some false) (Bool.rec (motive:=fun _=>Option Bool) (some false) (Bool.rec (motive:=fun _=>Option Bool) (some false) (some true) c) b) a=some d:=by cases a<;>cases b<;>cases c<;>exact⟨_,rfl⟩
theorem ATK(a c:Bool)(x u:Int)(y w:Int):∃d,AH [(0,1),(1,2),(2,2)] [.bool a,.int .i64 x,.int .u8 y] [.bool c,.int .i64 u,.int .u8 w]=some d:=AYN _ _ _
def AXO(ss:List Sy)(j:Nat):Bool:=match ss[j]? with
 | some s=>AH [(0,1),(1,2),(2,2)] (AEG s) [.bool true,iN j,bN 0] == some true
 | none=>true
def ju(ss:List Sy)(z t:Nat):Bool:=!((List.range z).all fun i=>AXO ss (t*z+i))
theorem pP{n z:Nat}(hw:Wf h)(hs:AGv h sv ss)(hsn:ss.length=n)(ht:(t+1)*z≤n)(hn:n≤3000)(h0:0<z):C0 (G8 WE A7 cd [.agg ⟨IX sv n z⟩,iN t] h) (QR (.bool (ju ss z t)) h):=by
 obtain⟨J,hJ,wJ,fJ,nJ,a1⟩:=J7 hw (B6 (IX sv n z) 3 247 true);have hwb:=hw.base;have cv:=hs.cell;have sl:=hs.len;have sJ:=hs.fr hw fJ;have hq:(t+1)*z=t*z+z:=uI t z;have tb:t≤3000:=by have:=A2I (t+1) h0;omega
 unfold IX at hJ a1 ⊢;refine B5 rfl ?_;simp(disch:=first|omega|(simp only[C6]<;>omega)) only[B0,hJ,a1];refine D9.A9C (P:=fun tm df H=>df=[]∧H=J∧ju ss z t=false) (R:=fun tm df H=>df=[]∧H=J∧D0 tm [(V1,.bool true)]∧ju ss z t=true) ?_ ?_ ?_
 · refine K6 (n:=z) (by omega) (fun i tm H=>D0 tm [(Q0,iN t),(T1,C2 h.A6 0),(U2,iN (t*z+i))]∧H=J∧∀j,j<i→AXO ss (t*z+j)=true) ?_ (fun i tm H hi hI=>?_) (fun tm H hI=>?_)
   ·exact⟨by trivial,rfl,fun j hj=>by omega⟩
   · obtain⟨⟨t1,t2,t5,-⟩,rfl,hall⟩:=hI;have hi2:t*z+i<ss.length:=by omega
     have hx:=X0 hi2;have gl:=ASi hx;have vA:=sJ.A (by omega);have heq:AXO ss (t*z+i)=(AH [(0,1),(1,2),(2,2)] (AEG ss[t*z+i]) [.bool true,iN (t*z+i),bN 0] == some true):=by unfold AXO;rw[hx]
     generalize ss[t*z+i]=s at *;unfold AEG at gl heq;unfold HH;obtain⟨b,hb⟩:=ATK s.o true (.ofNat s.M5) (.ofNat (t*z+i)) (.ofNat s.b) (.ofNat 0);rw[hb] at heq;cases b with
     | true =>
      simp(disch:=first|omega|(simp only[C6]<;>omega)|exact⟨rfl,rfl,rfl⟩|assumption) only[B0,reduceCtorEq,Nat.reduceAdd,t1,t2,t5,a1,vA,gl,hb];exact .go ⟨by simp[D0,T.A9,t1,t2,Es],rfl,fun j hj=>by
       grind⟩
     | false =>
      simp(disch:=first|omega|(simp only[C6]<;>omega)|exact⟨rfl,rfl,rfl⟩|assumption) only[B0,reduceCtorEq,Nat.reduceAdd,t1,t2,t5,a1,vA,gl,hb];refine .ret (.inr ⟨rfl,rfl,rfl,by simp[D0,T.A9],?_⟩);unfold ju;grind
   ·obtain⟨⟨t1,t2,t5,-⟩,rfl,hall⟩:=hI;unfold HH;simp(disch:=first|omega|(simp only[C6]<;>omega)) only[B0,t1,t2,t5,a1];refine .ex (.inl ⟨rfl,rfl,rfl,?_⟩);unfold ju;grind
 ·rintro tm df H ⟨rfl,rfl,hc⟩;simp only[B0];refine .ret ?_;simp only[B0];exact⟨by rw[hc],fJ.log⟩
 ·rintro tm df H ⟨rfl,rfl,⟨t4,-⟩,hc⟩;refine .ret ?_;simp only[B0,t4];exact⟨by rw[hc],fJ.log⟩
theorem D9.AU0{R:T A0→Df→Hp→Prop}(h:D9 r (fun ex tm df H=>(ex=.exit id∧P tm df H)∨(ex=.ret∧R tm df H)))(hk:∀tm df H,P tm df H→D9 (k2 tm df H) ψ)(hr:∀tm df H,R tm df H→ψ .ret tm df H):D9 (Abs.Lt (Abs.Lt (Abs.Lt r (fun tm df h=>N7.ok Ex.normal tm df h) fun i tm df h=>bif Nat.beq i id then N7.ok Ex.normal tm df h else N7.ok (Ex.exit i) tm df h) (fun tm df h=>N7.ok Ex.normal tm df h) fun i tm df h=>bif Nat.beq i id2 then N7.ok Ex.normal tm df h else N7.ok (Ex.exit i) tm df h) k2 e2) ψ:=by
 refine D9.Lt (φ:=fun ex tm df H=>(ex=.normal∧P tm df H)∨(ex=.ret∧R tm df H)) (D9.A9C h (fun tm df H hp=>.inl ⟨rfl,hp⟩) (fun tm df H hp=>.inr ⟨rfl,hp⟩)) ?_;rintro ex tm df H (⟨rfl,hp⟩|⟨rfl,hp⟩)
 ·exact hk _ _ _ hp
 ·exact hr _ _ _ hp
abbrev lR(A7:Call):Prop:=∀H sv ss n z t,Wf H→AGv H sv ss→ss.length=n→(t+1)*z≤n→n≤3000→0<z→A7 151 [.agg ⟨IX sv n z⟩,iN t] H=.val (.bool (ju ss z t)) H
theorem A1e(hC:lR A7){n z u:Nat}(hw:Wf h)(hs:AGv h sv ss)(hsn:ss.length=n)(hu:(u+1)*z≤n)(ht:(t+1)*z≤n)(hn:n≤3000)(h0:0<z)(hso:∀s∈ss,AJv n s):C0 (G8 ga A7 cd [.agg ⟨IX sv n z⟩,iN u,iN t] h) (AVG h):=by
 obtain⟨J,hJ,wJ,fJ,nJ,a1⟩:=J7 hw (B6 (IX sv n z) 3 247 true);have hwb:=hw.base;have cv:=hs.cell;have sl:=hs.len;have sJ:=hs.fr hw fJ;have hq:(u+1)*z=u*z+z:=uI u z;have tb:∀ {t},(t+1)*z≤n→t≤3000:=fun{t} ht=>by have:=A2I (t+1) h0;omega
 have tbu:=tb hu;have tbt:=tb ht;have e1:=hC J sv ss n z u wJ sJ hsn hu hn h0;have e2:=hC J sv ss n z t wJ sJ hsn ht hn h0;obtain⟨b1,hb1⟩:∃b,ju ss z u=b:=⟨_,rfl⟩
 obtain⟨b2,hb2⟩:∃b,ju ss z t=b:=⟨_,rfl⟩
 rw[hb1] at e1;rw[hb2] at e2;unfold IX at hJ a1 e1 e2 ⊢;have fin:∀tm:T A0,tm.get Q8=some (.bool false)→eW [CR.tmp Q8] (AVG h) Ex.ret tm [] J:=fun tm ht=>by refine .ret ?_;simp only[B0,ht];exact⟨false,rfl,fJ.log⟩
 refine B5 rfl ?_;by_cases hut:u=t
 ·simp(disch:=omega) only[B0,reduceCtorEq,hJ];exact fin _ (by simp[T.A9])
 · cases b1 with
   | false =>
    simp(disch:=first|omega|(simp only[C6]<;>omega)) only[B0,reduceCtorEq,hJ,a1,e1];exact fin _ (by simp[T.A9])
   | true =>
    cases b2 with
    | false =>
     simp(disch:=first|omega|(simp only[C6]<;>omega)) only[B0,reduceCtorEq,hJ,a1,e1,e2];exact fin _ (by simp[T.A9])
    | true =>
     simp(disch:=first|omega|(simp only[C6]<;>omega)) only[B0,reduceCtorEq,hJ,a1,e1,e2];refine D9.A9C (P:=fun tm df H=>df=[]∧H=J) (R:=fun tm df H=>df=[]∧H=J∧D0 tm [(Q8,.bool true)]) ?_ ?_ ?_
     · refine K6 (n:=z) (by omega) (fun i tm H=>D0 tm [(Q0,iN u),(T1,iN t),(Q3,C2 h.A6 0),(AL,iN (u*z+i))]∧H=J) ?_ (fun i tm H hi hI=>?_) (fun tm H hI=>?_)
       ·trivial
       · obtain⟨⟨t1,t2,t3,t7,-⟩,rfl⟩:=hI;have hi2:u*z+i<ss.length:=by omega
         have hx:=X0 hi2;obtain⟨g0,g1,g2⟩:=AG8 hx;have hsx:=hso _ (Dh hi2);have vA:=sJ.A (by omega);generalize ss[u*z+i]=s at *;obtain⟨so,sat,sb⟩:=s;have hsa:sat≤n:=hsx.a2;have hdv:sat/z≤sat:=ACw _ _;dsimp only at g0 g1 g2;unfold Kq;cases so with
         | false =>
          simp(disch:=first|omega|(simp only[C6]<;>omega)) only[B0,Nat.reduceAdd,t1,t3,t7,a1,vA,g0];exact .go ⟨by simp[D0,T.A9,t1,t2,t3,Es],rfl⟩
         | true =>
          by_cases he:sat/z=t
          ·simp(disch:=first|omega|(simp only[C6]<;>omega)) only[B0,reduceCtorEq,Nat.reduceAdd,t1,t2,t3,t7,a1,vA,g0,g1];exact .ret (.inr ⟨rfl,rfl,rfl,by simp[D0,T.A9]⟩)
          ·simp(disch:=first|omega|(simp only[C6]<;>omega)) only[B0,reduceCtorEq,Nat.reduceAdd,t1,t2,t3,t7,a1,vA,g0,g1];exact .go ⟨by simp[D0,T.A9,t1,t2,t3,Es],rfl⟩
       ·obtain⟨⟨t1,t2,t3,t7,-⟩,rfl⟩:=hI;unfold Kq;simp(disch:=first|omega|(simp only[C6]<;>omega)) only[B0,t1,t3,t7,a1];constructor<;>grind
     ·rintro tm df H ⟨rfl,rfl⟩;simp only[B0];exact fin _ (by simp[T.A9])
     ·rintro tm df H ⟨rfl,rfl,t4,-⟩;refine .ret ?_;simp only[B0,t4];exact⟨true,rfl,fJ.log⟩
abbrev er(A7:Call):Prop:=∀H sv ss n z u t,Wf H→AGv H sv ss→ss.length=n→(u+1)*z≤n→(t+1)*z≤n→n≤3000→0<z→(∀s∈ss,AJv n s)→∃b,A7 252 [.agg ⟨IX sv n z⟩,iN u,iN t] H=.val (.bool b) H
theorem AD3(hH:YT A7){rows:List (List Nat)}{d s:List Nat}(hl:RW h lv rows)(hd:UC h dv d)(hs:UC h sv s)(hr:rows.length≤100)(hd1:d.length≤1000)(hs1:s.length≤1000)(ht:t≤1000):C0 (G8 A0r A7 cd [lv,dv,sv,iN t] h) (AYi h):=by
 obtain⟨vs,hvl,hv,hrow⟩:=hl;have vl:=hv.len;obtain⟨b1,e1⟩:=hH h sv s t hs hs1;refine B5 rfl ?_;simp only[B0];refine D9.A9C (P:=fun tm df H=>df=[]∧H=h) (R:=fun tm df H=>df=[]∧H=h∧D0 tm [(Cj,.bool false)]) ?_ ?_ ?_
 · refine K6 (n:=rows.length) (by omega) (fun i tm H=>D0 tm [([],lv),(Q0,dv),(T1,sv),(Q3,iN t),(DZ,iN i)]∧H=h) ?_ (fun i tm H hi hI=>?_) (fun tm H hI=>?_)
   ·trivial
   · obtain⟨⟨t0,t1,t2,t3,t9,-⟩,rfl⟩:=hI;have vA:=hv.A (by omega);obtain⟨w,g0,hwr,hw1⟩:=hrow i _ (X0 hi);obtain⟨b2,e2⟩:=hH H w rows[i] t hwr (by omega);obtain⟨b3,e3⟩:=hH H dv d i hd hd1;unfold Pp;cases b1 with
     | true =>
      simp(disch:=omega) only[B0,t0,t2,t3,t9,vl,e1];exact .ex (.inl ⟨rfl,rfl,rfl⟩)
     | false =>
      by_cases hit:i=t
      ·simp(disch:=omega) only[B0,reduceCtorEq,t0,t2,t3,t9,vl,e1];exact .go ⟨by simp[D0,T.A9,t0,t1,t2,t3],rfl⟩
      · cases b2 with
        | false =>
         simp(disch:=omega) only[B0,reduceCtorEq,t0,t2,t3,t9,e1,vA,g0,e2];exact .go ⟨by simp[D0,T.A9,t0,t1,t2,t3],rfl⟩
        | true =>
         cases b3 with
         | true =>
          simp(disch:=omega) only[B0,reduceCtorEq,t0,t1,t2,t3,t9,e1,vA,g0,e2,e3];exact .go ⟨by simp[D0,T.A9,t0,t1,t2,t3],rfl⟩
         | false =>
          simp(disch:=omega) only[B0,reduceCtorEq,t0,t1,t2,t3,t9,e1,vA,g0,e2,e3];exact .ret (.inr ⟨rfl,rfl,rfl,by simp[D0,T.A9]⟩)
   ·obtain⟨⟨t0,t1,t2,t3,t9,-⟩,rfl⟩:=hI;unfold Pp;simp(disch:=omega) only[B0,t0,t9,vl];constructor<;>grind
 ·rintro tm df H ⟨rfl,rfl⟩;simp only[B0];refine .ret ?_;simp only[B0];exact⟨true,rfl,rfl⟩
 ·rintro tm df H ⟨rfl,rfl,t8,-⟩;refine .ret ?_;simp only[B0,t8];exact⟨false,rfl,rfl⟩
abbrev A0L(A7:Call):Prop:=∀h lv dv sv rows d s t,RW h lv rows→UC h dv d→UC h sv s→rows.length≤100→d.length≤1000→s.length≤1000→t≤1000→∃b,A7 250 [lv,dv,sv,iN t] h=.val (.bool b) h
theorem kT{rows:List (List Nat)}(hl:RW h lv rows)(hr:rows.length≤100):C0 (G8 SP A7 cd [lv] h) (AYi h):=by
 obtain⟨vs,hvl,hv,hrow⟩:=hl;have vl:=hv.len;refine B5 rfl ?_;simp only[B0];refine D9.A9C (P:=fun tm df H=>df=[]∧H=h) (R:=fun tm df H=>df=[]∧H=h∧D0 tm [(T1,.bool false)]) ?_ ?_ ?_
 · refine K6 (n:=rows.length) (by omega) (fun i tm H=>D0 tm [([],lv),(Q3,iN i)]∧H=h) ?_ (fun i tm H hi hI=>?_) (fun tm H hI=>?_)
   ·trivial
   · obtain⟨⟨t0,t3,-⟩,rfl⟩:=hI;have vA:=hv.A (by omega);obtain⟨w,g0,hwr,hw1⟩:=hrow i _ (X0 hi);generalize rows[i]=r at *;have wl:=hwr.len;unfold Fm;simp(disch:=omega) only[B0,t0,t3,vl];refine D9.AU0 (P:=fun tm df H'=>df=[]∧H'=H∧D0 tm [([],lv),(Q3,iN i)]) (R:=fun tm df H'=>df=[]∧H'=H∧D0 tm [(T1,.bool false)]) ?_ ?_ ?_
     · refine K6 (n:=r.length) (by omega) (fun k tm H'=>D0 tm [([],lv),(Q3,iN i),(V1,iN k)]∧H'=H) ?_ (fun k tm H' hk hI=>?_) (fun tm H' hI=>?_)
       ·exact⟨by simp[D0,T.A9,t0,t3],rfl⟩
       · obtain⟨⟨t0,t3,t4,-⟩,rfl⟩:=hI;have wA:=hwr.A (by omega);have hx:=O7 (G6 hk);obtain⟨x,hxd⟩:∃x,r.getD k 0=x:=⟨_,rfl⟩
         rw[hxd] at hx;unfold Fw;by_cases c1:rows.length≤x
         ·simp(disch:=omega) only[B0,reduceCtorEq,t0,t3,t4,vA,g0,wA,hx];exact .ret (.inr ⟨rfl,rfl,rfl,by simp[D0,T.A9]⟩)
         · by_cases c2:x=i
           ·simp(disch:=omega) only[B0,reduceCtorEq,t0,t3,t4,vA,g0,wA,hx];exact .ret (.inr ⟨rfl,rfl,rfl,by simp[D0,T.A9]⟩)
           · by_cases c3:k=0
             ·simp(disch:=omega) only[B0,reduceCtorEq,t0,t3,t4,vA,g0,wA,hx];exact .go ⟨by simp[D0,T.A9,t0,t3],rfl⟩
             · obtain⟨j,hj⟩:∃j,k=j+1:=⟨k-1,by omega⟩
               have e3:Nv .i64 (.ofNat k) (.ofNat 1)=some (iN j):=by rw[hj,Fh .i64 (by omega),GC (by omega)];rfl
               have hy:=O7 (G6 (show j<r.length by omega));obtain⟨y,hyd⟩:∃y,r.getD j 0=y:=⟨_,rfl⟩
               rw[hyd] at hy;by_cases c4:x≤y
               ·simp(disch:=omega) only[B0,reduceCtorEq,t0,t3,t4,vA,g0,wA,hx,e3,hy];exact .ret (.inr ⟨rfl,rfl,rfl,by simp[D0,T.A9]⟩)
               ·simp(disch:=omega) only[B0,reduceCtorEq,t0,t3,t4,vA,g0,wA,hx,e3,hy];exact .go ⟨by simp[D0,T.A9,t0,t3],rfl⟩
       ·obtain⟨⟨t0,t3,t4,-⟩,rfl⟩:=hI;unfold Fw;simp(disch:=omega) only[B0,t0,t3,t4,vA,g0,wl];exact .ex (.inl ⟨rfl,rfl,rfl,by simp[D0,T.A9,t0,t3]⟩)
     ·rintro tm df H' ⟨rfl,rfl,t0,t3,-⟩;simp(disch:=omega) only[B0,t3];exact .go ⟨by simp[D0,T.A9,t0],rfl⟩
     ·rintro tm df H' ⟨rfl,rfl,t2,-⟩;exact .ret (.inr ⟨rfl,rfl,rfl,by simpa[D0] using t2⟩)
   ·obtain⟨⟨t0,t3,-⟩,rfl⟩:=hI;unfold Fm;simp(disch:=omega) only[B0,t0,t3,vl];constructor<;>grind
 ·rintro tm df H ⟨rfl,rfl⟩;simp only[B0];refine .ret ?_;simp only[B0];exact⟨true,rfl,rfl⟩
 ·rintro tm df H ⟨rfl,rfl,t2,-⟩;refine .ret ?_;simp only[B0,t2];exact⟨false,rfl,rfl⟩
abbrev A1B(A7:Call):Prop:=∀h lv rows,RW h lv rows→rows.length≤100→∃b,A7 152 [lv] h=.val (.bool b) h
def AGU(H:Hp)(w:A0)(n:Nat):Prop:=∀c,0<n→Ch w c→cE H c=3
def iW(H:Hp)(vs:List A0)(rows:List (List Nat)):Prop:=vs.length=rows.length∧∀(i:Nat) (r:List Nat),rows[i]?=some r→∃w,vs[i]?=some w∧UC H w r∧r.length≤100∧AGU H w r.length
theorem iW.K7{H:Hp}{vs:List A0}{rows:List (List Nat)}(x:iW h vs rows)(hw:Wf h)(f:∀c,c<h.A6→cE h c=3→H.at c=h.at c):iW H vs rows:=⟨x.1,fun i r hi=>by obtain⟨w,h1,h2,h3,h4⟩:=x.2 i r hi;exact⟨w,h1,h2.K7 fun c h0 hc=>f c (h2.lt hw h0 hc) (h4 c h0 hc),h3,fun c h0 hc=>by rw[Y9 (f c (h2.lt hw h0 hc) (h4 c h0 hc))];exact h4 c h0 hc⟩⟩
theorem iW.snoc{H:Hp}{vs:List A0}{rows:List (List Nat)}{r:List Nat}(x:iW H vs rows)(hs:UC H w r)(h0:r.length≤100)(hc:AGU H w r.length):iW H (vs++[w]) (rows++[r]):=by
 refine⟨by rw[Bz,Bz,x.1];rfl,fun i q hi=>?_⟩;rcases DX i rows.length with h|h
 ·rw[OZ h] at hi;rw[OZ (by rw[x.1];exact h)];exact x.2 i q hi
 ·rw[Gj h] at hi;rw[Gj (by rw[x.1];exact h),x.1];grind
def cJ(K:Hp)(Q:Nat→Prop)(H:Hp)(v:A0)(rows:List (List Nat)):Prop:=∃vs,Bd 36 1 K Q H v rows.length vs∧iW H vs rows
theorem cJ.nil{K H:Hp}{Q:Nat→Prop}{b:Nat}(hw:Wf H)(hf:Fr Q K H):cJ K Q H (F8 b 0 0 0) []:=⟨[],Bd.OX hw hf,⟨rfl,fun i r hi=>by simp at hi⟩⟩
theorem cJ.step{K H H':Hp}{Q:Nat→Prop}{v:A0}{rows:List (List Nat)}(x:cJ K Q H v rows)(hw:Wf H')(hf:Fr N5 H H'):cJ K Q H' v rows:=by obtain⟨vs,b,r⟩:=x;exact⟨vs,b.step hw hf,r.K7 b.wf fun c hc _=>hf.e c hc⟩
theorem cJ.rows{K H:Hp}{Q:Nat→Prop}{v:A0}{rows:List (List Nat)}(x:cJ K Q H v rows):RW H v rows:=by obtain⟨vs,b,r⟩:=x;exact⟨vs,r.1,b.sl,fun i q hi=>by obtain⟨w,h1,h2,h3,_⟩:=r.2 i q hi;exact⟨w,h1,h2,h3⟩⟩
theorem cJ.snoc{K H:Hp}{Q:Nat→Prop}{v:A0}{rows:List (List Nat)}{r:List Nat}(x:cJ K Q H v rows)(hK:Wf K)(hs:UC H w r)(h0:r.length≤100)(hc:AGU H w r.length)(hn:rows.length≤90000):
 ∃v' H',DJ 36 1 v (F8 H.A6 0 1 1) (H.new (B6 [w] 1 36 true))=.val v' H'∧cJ K Q H' v' (rows++[r])∧Fr (fun c=>0<rows.length∧Ch v c) H H':=by
 obtain⟨vs,b,rj⟩:=x;have cw:=hs.cell;obtain⟨v',H',h1,h2,_,_,h5⟩:=(b.step (b.wf.new _) (Fr.new (B6 [w] 1 36 true))).app hK (y:=F8 H.A6 0 1 1) ⟨rfl,.inr ⟨_,_,_,rfl,by omega,O3 Dm (by simp)⟩⟩ (by rw[pH cw];rfl) (by omega) (by omega);have hk:∀c,c<H.A6→cE H c=3→H'.at c=H.at c:=fun c hc he=>by rw[h5.M5 c (by rw[Q6];omega) fun hq=>?_,CN (by omega)];have:=(b.ty hq.1) c hq.2;grind
 refine⟨v',H',h1,⟨vs++[w],by grind,(rj.K7 b.wf hk).snoc (hs.K7 fun c h0 hb=>hk c (hs.lt b.wf h0 hb) (hc c h0 hb)) h0 fun c h0 hb=>?_⟩,(Fr.new _).trans h5 fun _ _ h=>h⟩;rw[Y9 (hk c (hs.lt b.wf h0 hb) (hc c h0 hb))];exact hc c h0 hb
theorem Bd.AWN{K H:Hp}{Q:Nat→Prop}{v:A0}{n:Nat}{vs:List A0}(hb:Bd 3 1 K Q H v n vs):AGU H v n:=fun c h0 hc=>((hb.ty h0) c hc).2
theorem D9.AIL(h:D9 r (fun ex tm df H=>ex=.normal∧P tm df H))(hk:∀tm df H,P tm df H→D9 (k2 tm df H) ψ):D9 (Abs.Lt (Abs.Lt r (fun tm df h=>N7.ok Ex.normal tm df h) fun i tm df h=>bif Nat.beq i id2 then N7.ok Ex.normal tm df h else N7.ok (Ex.exit i) tm df h) k2 e2) ψ:=by
 refine D9.Lt (φ:=fun ex tm df H=>ex=.normal∧P tm df H) (D9.Lt h ?_) ?_
 ·rintro ex tm df H ⟨rfl,hp⟩;exact⟨rfl,hp⟩
 ·rintro ex tm df H ⟨rfl,hp⟩;exact hk _ _ _ hp
theorem AXe{z:Nat}(h:0<z):(N*z+z-1)/z=N:=by rw[show N*z+z-1=z-1+z*N by rw[Nat.mul_comm];omega,Nat.add_mul_div_left _ _ h,AFa (by omega),Ag]
theorem max_self(n:Nat):max n n=n:=by omega
def Aa8(N:Nat)(h:Hp)(r:A0)(H:Hp):Prop:=(∃v rows,r=.tuple ⟨[v,i0]⟩∧RW H v rows∧rows.length=N)∧Wf H∧Fr N5 h H
abbrev R18ReadsR(g:List A0→Hp→N3):Prop:=∀h ov ops N z,Wf h→Rt (N*z) ops→Sl 5 h ov ops.length (A0n ops)→0<z→z≤1000→N≤3→C0 (g [.agg ⟨Jq (N*z) ov⟩,iN z] h) (Aa8 N h)
theorem A3F(hS:lL A7)(hC:A43 A7)(hR:er A7):R18ReadsR (G8 jR A7 cd):=by
 intro h ov ops N z hw hp hv h0 hz hN;have hmul:N*z≤3*z:=BY _ hN;obtain⟨n,hn⟩:∃n,N*z=n:=⟨_,rfl⟩
 have hsn:=AXe (N:=N) h0;rw[hn] at hp hmul hsn ⊢;obtain⟨J,hJ,wJ,fJ,nJ,a1⟩:=J7 hw (B6 (Jq n ov) 4 45 true);have hwb:=hw.base;have cv:=hv.cell;obtain⟨r1,H1,e1,⟨sv,rfl,hs⟩,w1,f1⟩:=(hS J ov ops n wJ hp (hv.fr hw fJ) (by omega)).get;have csv:=hs.cell;have hl:=Sm ops;rw[hp.sum] at hl;have hso:=AF7 hp.ok;generalize DY ops=ss at *;have fh1:=fJ.trans f1 fun _ _ h=>h;have e2:=hC H1 n z h0 (by omega) (by omega);rw[hsn] at e2;obtain⟨H2,hH2,w2,f2,n2,c2⟩:=J7 w1 (B6 [] 0 36 true);obtain⟨H3,hH3,w3,f3,n3,c3⟩:=O5 w2 [B7,i0,i0] (IX sv n z) 3 247;have fh2:=fh1.trans f2 fun _ _ h=>h;have fh3:=fh2.trans f3 fun _ _ h=>h;have f13:=f2.trans f3 fun _ _ h=>h;have x1:=f1.A6;have b1:=fh1.base;have b2:=fh2.base;have b3:=fh3.base;unfold Jq at hJ a1 e1 ⊢;unfold IX at hH3 c3;refine B5 rfl ?_;simp(disch:=first|omega|(simp only[C6]<;>omega)|exact⟨rfl,rfl,rfl⟩|assumption) only[B0,reduceCtorEq,Nat.reduceAdd,hJ,a1,e1,f1.e,max_self,e2,hH2,hH3];have s3:=hs.fr w1 f13;refine D9.lp (P:=fun tm df H=>df=[]∧∃v rows,D0 tm [(MC,v)]∧cJ H3 N5 H v rows∧rows.length=N) ?_ ?_
 · refine K6 (n:=N) (by omega) (fun u tm H=>∃v rows,D0 tm [(Cj,iN N),(DZ,C2 H2.A6 0),(MC,v),(Ku,iN u)]∧cJ H3 N5 H v rows∧rows.length=u) ?_ (fun u tm H hu hI=>?_) (fun tm H hI=>?_)
   ·exact⟨_,[],by simp[D0,T.A9];rfl,cJ.nil w3 (Fr.refl _ _),rfl⟩
   · obtain⟨v,rows,⟨t8,t9,t10,t11,-⟩,rb,hrl⟩:=hI;obtain⟨G,hG,wG,fG,nG,cG⟩:=J7 (rb.choose_spec.1.wf) (B6 [] 0 3 true);have fr0:=rb.choose_spec.1.fr;have nH:=fr0.A6;unfold KX;simp(disch:=omega) only[B0,t8,t11,hG];have m3:=c3;have mG:∀ {X:Hp},Fr N5 H3 X→X.at H2.A6=some (B6 [sv,iN n,iN z] 3 247 true):=fun fr=>by rw[fr.e _ (by omega)];exact m3
     have f3G:=fr0.trans fG fun _ _ h=>h;have hbd:∀t,t<N→(t+1)*z≤n:=fun t ht=>by rw[←hn];exact BY _ ht
     refine D9.AIL (P:=fun tm df H'=>df=[]∧∃v rows,D0 tm [(Cj,iN N),(DZ,C2 H2.A6 0),(MC,v),(Ku,iN u)]∧cJ H3 N5 H' v rows∧rows.length=u+1) (D9.lp (P:=fun tm df H'=>df=[]∧∃w row,D0 tm [(Cj,iN N),(DZ,C2 H2.A6 0),(MC,v),(Ku,iN u),(A4F,w)]∧Bd 3 1 G N5 H' w row.length (J8 row)∧row.length≤N) ?_ ?_) ?_
     · refine K6 (n:=N) (by omega) (fun t tm H'=>∃w row,D0 tm [(Cj,iN N),(DZ,C2 H2.A6 0),(MC,v),(Ku,iN u),(A4F,w),(AED,iN t)]∧Bd 3 1 G N5 H' w row.length (J8 row)∧row.length≤t) ?_ (fun t tm H' ht hI=>?_) (fun tm H' hI=>?_)
       ·exact⟨_,[],by simp[D0,T.A9,t8,t9,t10,t11];rfl,Bd.OX wG (Fr.refl _ _),by simp⟩
       · obtain⟨w,row,⟨t8,t9,t10,t11,t12,t13,-⟩,bd,hrw⟩:=hI;have fX:=f3G.trans bd.fr fun _ _ h=>h;have mX:=mG fX;obtain⟨b,e3⟩:=hR H' sv ss n z u t bd.wf (s3.fr w3 fX) hl (hbd u hu) (hbd t ht) (by omega) h0 hso;unfold IX at e3;unfold Ls;cases b with
         | true =>
          obtain⟨w',H4,e4,bd2⟩:=bd.one wG (iN t) U6 (by omega);rw[show J8 row++[iN t]=J8 (row++[t]) by rw[BC];rfl,show row.length+1=(row++[t]).length by simp] at bd2;simp(disch:=first|omega|(simp only[C6]<;>omega)|exact⟨rfl,rfl,rfl⟩|assumption) only[B0,reduceCtorEq,t8,t9,t11,t12,t13,mX,e3,e4];exact .go ⟨w',_,by simp[D0,T.A9,t8,t9,t10,t11],bd2,by simp;omega⟩
         | false =>
          simp(disch:=first|omega|(simp only[C6]<;>omega)) only[B0,reduceCtorEq,t8,t9,t11,t13,mX,e3];exact .go ⟨w,row,by simp[D0,T.A9,t8,t9,t10,t11,t12],bd,by omega⟩
       ·obtain⟨w,row,⟨t8,t9,t10,t11,t12,t13,-⟩,bd,hrw⟩:=hI;unfold Ls;simp(disch:=omega) only[B0,t8,t13];exact .ex ⟨rfl,rfl,w,row,by simp[D0,T.A9,t8,t9,t10,t11,t12],bd,hrw⟩
     ·rintro tm df H' ⟨rfl,w,row,⟨t8,t9,t10,t11,t12,-⟩,bd,hrw⟩;obtain⟨v',H4,e4,rb2,_⟩:=(rb.step bd.wf (fG.trans bd.fr fun _ _ h=>h)).snoc w3 bd.sl (by omega) bd.AWN (by omega);have cw:=bd.cell;simp(disch:=omega) only[B0,t10,t12,e4];exact⟨v',_,by simp[D0,T.A9,t8,t9,t11],rb2,by simp[hrl]⟩
     ·rintro tm df H' ⟨rfl,v,rows,⟨t8,t9,t10,t11,-⟩,rb,hrl⟩;simp(disch:=omega) only[B0,t11];exact .go ⟨v,rows,by simp[D0,T.A9,t8,t9,t10],rb,hrl⟩
   ·obtain⟨v,rows,⟨t8,t9,t10,t11,-⟩,rb,hrl⟩:=hI;unfold KX;simp(disch:=omega) only[B0,t8,t11];exact .ex ⟨rfl,rfl,v,rows,by simp[D0,T.A9,t10],rb,hrl⟩
 rintro tm df H ⟨rfl,v,rows,⟨t10,-⟩,rb,hrl⟩;simp only[B0,t10];refine .ret ?_;simp only[B0];obtain⟨vs,bd,rj⟩:=id rb;exact⟨⟨v,rows,rfl,rb.rows,hrl⟩,bd.wf,fh3.trans bd.fr fun _ _ h=>h⟩
abbrev dF(A7:Call):Prop:=R18ReadsR (A7 155)
def AZS(m k:Nat)(h:Hp)(r:A0)(H:Hp):Prop:=(∃l,UC H r l∧AGU H r l.length∧l.length≤k∧∀x∈l,x<m)∧Wf H∧Fr N5 h H
theorem AFF{y:Nat}(h:∀x∈l,x<m)(hy:y<m):∀x∈l++[y],x<m:=fun x hx=>by grind
theorem VN(l:List Nat)(y:Nat):J8 l++[iN y]=J8 (l++[y]):=by rw[BC];rfl
abbrev R18FirstR(g:List A0→Hp→N3):Prop:=∀h lv sv rows s,Wf h→RW h lv rows→UC h sv s→rows.length≤100→s.length≤1000→C0 (g [lv,sv] h) (AZS rows.length rows.length h)
theorem A3P(hH:YT A7)(hC:A0L A7):R18FirstR (G8 iR A7 cd):=by
 intro h lv sv rows s hw hl hs hr hs1;obtain⟨vs,hvl,hv,hrow⟩:=id hl;have vl:=hv.len;obtain⟨J,hJ,wJ,fJ,nJ,a1⟩:=J7 hw (B6 [] 0 3 true);have hwb:=hw.base;refine B5 rfl ?_;simp only[B0,hJ];refine D9.lp (P:=fun tm df H=>df=[]∧∃o l,D0 tm [(U2,o)]∧Bd 3 1 J N5 H o l.length (J8 l)∧l.length≤rows.length∧∀x∈l,x<rows.length) ?_ ?_
 · refine K6 (n:=rows.length) (by omega) (fun i tm H=>∃o l,D0 tm [([],lv),(Q0,sv),(U2,o),(Q8,iN i)]∧Bd 3 1 J N5 H o l.length (J8 l)∧l.length≤i∧∀x∈l,x<rows.length) ?_ (fun i tm H hi hI=>?_) (fun tm H hI=>?_)
   ·exact⟨_,[],by simp[D0,T.A9,Fy,PY];rfl,Bd.OX wJ (Fr.refl _ _),by simp,by simp⟩
   · obtain⟨o,l,⟨t0,t1,t5,t6,-⟩,bd,hli,hlb⟩:=hI;unfold KQ;simp(disch:=omega) only[B0,t0,t6,vl];refine D9.AXG (P:=fun tm df H'=>df=[]∧∃o l,D0 tm [([],lv),(Q0,sv),(U2,o),(Q8,iN i)]∧Bd 3 1 J N5 H' o l.length (J8 l)∧l.length≤i+1∧∀x∈l,x<rows.length) ?_ ?_
     · refine K6 (n:=rows.length) (by omega) (fun k tm H'=>D0 tm [([],lv),(Q0,sv),(U2,o),(Q8,iN i),(AL,iN k)]∧H'=H) ?_ (fun k tm H' hk hI=>?_) (fun tm H' hI=>?_)
       ·exact⟨by simp[D0,T.A9,t0,t1,t5,t6],rfl⟩
       · obtain⟨⟨t0,t1,t5,t6,t7,-⟩,rfl⟩:=hI;have fh:=fJ.trans bd.fr fun _ _ h=>h;obtain⟨b1,e1⟩:=hH H' o l k bd.sl (by omega);obtain⟨b2,e2⟩:=hC H' lv o sv rows l s k (hl.fr hw fh) bd.sl (hs.fr hw fh) hr (by omega) hs1 (by omega);unfold LP;cases b1 with
         | true =>
          simp(disch:=omega) only[B0,reduceCtorEq,t0,t5,t7,vl,e1];exact .go ⟨by simp[D0,T.A9,t0,t1,t5,t6],rfl⟩
         | false =>
          cases b2 with
          | false =>
           simp(disch:=omega) only[B0,reduceCtorEq,t0,t1,t5,t7,vl,e1,e2];exact .go ⟨by simp[D0,T.A9,t0,t1,t5,t6],rfl⟩
          | true =>
           obtain⟨o',H4,e4,bd2⟩:=bd.one wJ (iN k) U6 (by omega);rw[VN,show l.length+1=(l++[k]).length by simp] at bd2;simp(disch:=first|omega|exact⟨rfl,rfl,rfl⟩|assumption) only[B0,reduceCtorEq,t0,t1,t5,t7,vl,e1,e2,e4];exact .ex ⟨rfl,rfl,o',_,by simp[D0,T.A9,t0,t1,t6],bd2,by simp;omega,AFF hlb hk⟩
       ·obtain⟨⟨t0,t1,t5,t6,t7,-⟩,rfl⟩:=hI;unfold LP;simp(disch:=omega) only[B0,t0,t7,vl];exact .ex ⟨rfl,rfl,o,l,by simp[D0,T.A9,t0,t1,t5,t6],bd,by omega,hlb⟩
     rintro tm df H' ⟨rfl,o,l,⟨t0,t1,t5,t6,-⟩,bd,hli,hlb⟩;simp(disch:=omega) only[B0,t6];exact .go ⟨o,l,by simp[D0,T.A9,t0,t1,t5],bd,hli,hlb⟩
   ·obtain⟨o,l,⟨t0,t1,t5,t6,-⟩,bd,hli,hlb⟩:=hI;unfold KQ;simp(disch:=omega) only[B0,t0,t6,vl];exact .ex ⟨rfl,rfl,o,l,by simp[D0,T.A9,t5],bd,hli,hlb⟩
 rintro tm df H ⟨rfl,o,l,⟨t5,-⟩,bd,hli,hlb⟩;simp only[B0,t5];refine .ret ?_;simp only[B0];exact⟨⟨l,bd.sl,bd.AWN,hli,hlb⟩,bd.wf,fJ.trans bd.fr fun _ _ h=>h⟩
abbrev xT(A7:Call):Prop:=R18FirstR (A7 154)
theorem ANR{e:TypeId}{H:Hp}{b k:Nat}(hy:Sl 1 H y 0 [])(hk:k<R8):DJ e 1 (F8 b 0 k k) y H=.val (F8 b 0 k k) H:=by
 have hy0:y=.slice none 0 0∨∃b o c,y=F8 b o 0 c:=by
  obtain⟨_,⟨_,h1⟩|⟨b,o,c,rfl,h1,_⟩⟩:=hy
  ·exact h1
  ·omega
 have e1:DJ e 1 (F8 b 0 k k) y H=Np (F8 b 0 k k) (HI e 1 H 0 []) (Nu e 1 H 0 []) .none:=by rcases hy0 with rfl|⟨b,o,c,rfl⟩<;>rfl
 have e2:T6 k=false:=GD hk;have e3:sure k=k:=by unfold sure;rw[e2];rfl
 rw[e1,LM];unfold HI;rw[C1,show Nat.add k 0=k from rfl,e3,W8 (M8 _),cond_true];rfl
def zp(lo:Nat)(H:Hp)(v:A0)(rows:List (List Nat)):Prop:=∃vs,Sl 1 H v rows.length vs∧iW H vs rows∧∀c,0<rows.length→Ch v c→lo≤c∧cE H c=36
theorem cJ.AV3{K H:Hp}{Q:Nat→Prop}{v:A0}{rows:List (List Nat)}(x:cJ K Q H v rows):zp K.A6 H v rows:=by obtain⟨vs,b,r⟩:=x;exact⟨vs,b.sl,r,fun c h0 hc=>⟨b.out.S6 h0 hc,((b.ty h0) c hc).2⟩⟩
theorem zp.K7{lo:Nat}{H:Hp}{v:A0}{rows:List (List Nat)}(x:zp lo h v rows)(hw:Wf h)(f:∀c,c<h.A6→(cE h c=3∨(lo≤c∧0<rows.length∧Ch v c))→H.at c=h.at c):zp lo H v rows:=by obtain⟨vs,h1,r,h2⟩:=x;exact⟨vs,h1.K7 fun c h0 hc=>f c (h1.lt hw h0 hc) (.inr ⟨(h2 c h0 hc).1,h0,hc⟩),r.K7 hw fun c hc he=>f c hc (.inl he),fun c h0 hc=>⟨(h2 c h0 hc).1,by rw[Y9 (f c (h1.lt hw h0 hc) (.inr ⟨(h2 c h0 hc).1,h0,hc⟩))];exact(h2 c h0 hc).2⟩⟩
theorem cJ.AXu{K H:Hp}{Q:Nat→Prop}{v:A0}{rows:List (List Nat)}{r:List Nat}(x:cJ K Q H v rows)(hK:Wf K)(hs:UC H w r)(h0:r.length≤100)(hc:AGU H w r.length)(hn:rows.length≤90000):
 ∃v' H',DJ 36 1 v (F8 H.A6 0 1 1) (H.new (B6 [w] 1 36 true))=.val v' H'∧cJ K Q H' v' (rows++[r])∧Fr (fun c=>0<rows.length∧Ch v c) H H'∧∀c,Ch v' c→H.A6≤c:=by
 obtain⟨v',H',h1,h2,h3⟩:=x.snoc hK hs h0 hc hn;obtain⟨vs,b,rj⟩:=x;have cw:=hs.cell;obtain⟨v2,H2,e1,_,⟨k,e2⟩,_,_⟩:=(b.step (b.wf.new _) (Fr.new (B6 [w] 1 36 true))).app hK (y:=F8 H.A6 0 1 1) ⟨rfl,.inr ⟨_,_,_,rfl,by omega,O3 Dm (by simp)⟩⟩ (by rw[pH cw];rfl) (by omega) (by omega);rw[h1] at e1;injection e1 with e3 e4;refine⟨v',H',h1,h2,h3,fun c hc=>?_⟩;rw[e3,e2] at hc;rw[X3 hc];constructor<;>grind
def AZn(n k B:Nat)(h:Hp)(r:A0)(H:Hp):Prop:=(∃rows,zp h.A6 H r rows∧rows.length≤B∧∀q∈rows,q.length≤k∧∀x∈q,x<n)∧Wf H∧Fr N5 h H
abbrev AYL(A7:Call)(k B:Nat):Prop:=∀h a n,Wf h→a≤n→n≤3→C0 (A7 153 [iN a,iN n,iN k] h) (AZn n k B h)
theorem vM{a n:Nat}(hw:Wf h):C0 (G8 NH A7 cd [iN a,iN n,iN 0] h) (AZn n 0 1 h):=by
 obtain⟨J,hJ,wJ,fJ,nJ,a1,a2⟩:=U7 hw (B6 [] 0 3 true) (B6 [F8 h.A6 0 0 0] 1 36 true);have hwb:=hw.base;refine B5 rfl ?_;simp(disch:=first|omega|exact⟨rfl,rfl,rfl⟩) only[B0,reduceCtorEq,hJ];refine .ret ?_;simp only[B0];refine⟨⟨[[]],⟨[F8 h.A6 0 0 0],⟨rfl,.inr ⟨_,_,_,rfl,by decide,O3 a2 (by simp)⟩⟩,⟨rfl,fun i r hi=>?_⟩,fun c _ hc=>by rw[X3 hc];exact⟨by omega,M6 a2⟩⟩,by simp,fun q hq=>?_⟩,wJ,fJ⟩
 · match i with
   | 0=>cases hi;exact⟨_,rfl,⟨rfl,.inl ⟨rfl,.inr ⟨_,_,_,rfl⟩⟩⟩,by simp,fun c h0=>absurd h0 (by decide)⟩
   | i+1=>simp at hi
 grind
theorem A1p{k:Nat}(hS:AYL A7 k B){a n:Nat}(hw:Wf h)(ha:a≤n)(hn:n≤3)(hk:k≤10)(hB:B≤100):C0 (G8 NH A7 cd [iN a,iN n,iN (k+1)] h) (AZn n (k+1) (3*B) h):=by
 obtain⟨J,hJ,wJ,fJ,nJ,a1⟩:=J7 hw (B6 [] 0 36 true);have hwb:=hw.base;have e3:Nv .i64 (.ofNat (k+1)) (.ofNat 1)=some (iN k):=by rw[Fh .i64 (by omega),GC (by omega)];rfl
 refine B5 rfl ?_;simp(disch:=omega) only[B0,reduceCtorEq,hJ];refine D9.lp (P:=fun tm df H=>df=[]∧∃v rows,D0 tm [(AL,v)]∧cJ J N5 H v rows∧rows.length≤3*B∧∀q∈rows,q.length≤k+1∧∀x∈q,x<n) ?_ ?_
 · refine K6 (n:=n-a) (by omega) (fun i tm H=>∃v rows,D0 tm [(Q0,iN n),(T1,iN (k+1)),(AL,v),(Cj,iN (a+i))]∧cJ J N5 H v rows∧rows.length≤i*B∧∀q∈rows,q.length≤k+1∧∀x∈q,x<n) ?_ (fun i tm H hi hI=>?_) (fun tm H hI=>?_)
   ·exact⟨_,[],by simp[D0,T.A9,qE,Nj,Pa];rfl,cJ.nil wJ (Fr.refl _ _),by simp,by simp⟩
   · obtain⟨v,rows,⟨t1,t2,t7,t8,-⟩,rb,hrl,hrb⟩:=hI;obtain⟨vs,bd0,rj0⟩:=id rb;have wH:=bd0.wf;have fH:=bd0.fr;obtain⟨w9,H1,e1,⟨rest,hre,hreB,hreb⟩,w1,f1⟩:=(hS H (a+i+1) n wH (by omega) hn).get;have bH:=fH.base;have iB:i*B≤3*B:=BY _ (by omega);have iB2:(i+1)*B=i*B+B:=uI i B;obtain⟨ws,hwv,hwr,hwb⟩:=id hre;have m1:=f1.A6;have vlo:∀c,0<rows.length→Ch v c→c<H.A6:=fun c h0 hc=>bd0.sl.lt wH h0 hc;have wl:=hwv.len;unfold HT;simp(disch:=omega) only[B0,reduceCtorEq,t1,t2,t8,e3,e1];refine D9.AXG (P:=fun tm df H'=>df=[]∧∃v rows,D0 tm [(Q0,iN n),(T1,iN (k+1)),(AL,v),(Cj,iN (a+i))]∧cJ J N5 H' v rows∧rows.length≤(i+1)*B∧∀q∈rows,q.length≤k+1∧∀x∈q,x<n) ?_ ?_
     · refine K6 (n:=rest.length) (by omega) (fun j tm H'=>∃v rows,D0 tm [(Q0,iN n),(T1,iN (k+1)),(AL,v),(Cj,iN (a+i)),(DZ,w9),(MC,iN j)]∧cJ J N5 H' v rows∧zp H.A6 H' w9 rest∧H1.A6≤H'.A6∧(∀c,Ch w9 c→0<rest.length→c<H1.A6)∧(∀c,0<rows.length→Ch v c→c<H.A6∨H1.A6≤c)∧rows.length≤i*B+j∧∀q∈rows,q.length≤k+1∧∀x∈q,x<n) ?_ (fun j tm H' hj hI=>?_) (fun tm H' hI=>?_)
       ·exact⟨v,rows,by simp[D0,T.A9,t1,t2,t7,t8],rb.step w1 f1,hre,M8 _,fun c hc h0=>hwv.lt w1 h0 hc,fun c h0 hc=>.inl (vlo c h0 hc),by omega,hrb⟩
       · obtain⟨v,rows,⟨t1,t2,t7,t8,t9,t10,-⟩,rb,hre,hnx,hw9,hvb,hrl,hrb⟩:=hI;obtain⟨ws,hwv,hwr,hwb⟩:=id hre;have wl:=hwv.len;obtain⟨vs',bd',rj'⟩:=id rb;have bH':=bd'.fr.base;have wH':=bd'.wf;obtain⟨w,g0,hwq,hq100,hty⟩:=hwr.2 j _ (X0 hj);obtain⟨hqk,hqn⟩:=hreb _ (Dh hj);generalize rest[j]=q at *;obtain⟨G,hG,wG,fG,nG,cG⟩:=J7 wH' (B6 [iN (a+i)] 1 3 true);have wA:=(hwv.fr wH' fG).A (by omega);obtain⟨lv,L,e4,hL,tL,wL,fL⟩:∃lv L,DJ 3 1 (F8 H'.A6 0 1 1) w G=.val lv L∧UC L lv ((a+i)::q)∧AGU L lv ((a+i)::q).length∧Wf L∧Fr N5 G L:=by
          rcases Br q.length with h0|h0
          ·have:=IU h0;subst this;exact⟨_,G,ANR (hwq.fr wH' fG) (by decide),⟨rfl,.inr ⟨_,_,_,rfl,Nat.zero_lt_one,O3 cG (by simp[J8])⟩⟩,fun c _ hc=>by rw[X3 hc];exact M6 cG,wG,Fr.refl _ _⟩
          · refine⟨_,_,pw (O3 cG (by simp)) rfl (by omega) (hwq.fr wH' fG) h0 (by omega),⟨?_,.inr ⟨G.A6,0,C4 1 (1+q.length),?_,by simp,O3 Dm (by simp[J8])⟩⟩,fun c _ hc=>?_,wG.new _,Fr.new _⟩
            ·simp[J8]
            ·rw[Gn,ik]
            ·rw[X3 hc];exact M6 Dm
         have f2:=fG.trans fL fun _ _ h=>h;obtain⟨v',H4,e5,rb2,fO,hnew⟩:=(rb.step wL f2).AXu wJ hL (by simp;omega) tL (by omega);have nf:=f2.A6;have bf:=f2.base;have clv:=hL.cell;unfold HU;simp(disch:=first|omega|exact⟨rfl,rfl,rfl⟩|assumption) only[B0,reduceCtorEq,t7,t8,t9,t10,hG,wA,g0,e4,e5];have hre2:=hre.K7 wH' fun c hc _=>f2.e c hc;refine .go ⟨v',_,by simp[D0,T.A9,t1,t2,t8,t9],rb2,hre2.K7 wL fun c hc hor=>?_,?_,hw9,fun c h0 hc=>.inr ?_,by simp;omega,fun y hy=>?_⟩
         · refine fO.M5 c hc fun hq=>?_;have hb4:=bd'.step wL f2;rcases hor with he|⟨h1,h2,h3⟩
           ·have:=((hb4.ty hq.1) c hq.2).2;grind
           ·have y1:=hw9 c h3 h2;rcases hvb c hq.1 hq.2 with h|h<;>omega
         ·have:=fO.A6;omega
         ·have:=hnew c hc;omega
         · rcases Gt.1 hy with hy|hy
           ·exact hrb y hy
           · rw[LZ.1 hy];refine⟨by simp;omega,fun x hx=>?_⟩;rcases m8.1 hx with rfl|hx
             ·omega
             ·exact hqn x hx
       ·obtain⟨v,rows,⟨t1,t2,t7,t8,t9,t10,-⟩,rb,hre,hnx,hw9,hvb,hrl,hrb⟩:=hI;obtain⟨ws,hwv,hwr,hwb⟩:=id hre;have wl:=hwv.len;unfold HU;simp(disch:=omega) only[B0,t9,t10,wl];exact .ex ⟨rfl,rfl,v,rows,by simp[D0,T.A9,t1,t2,t7,t8],rb,by omega,hrb⟩
     rintro tm df H' ⟨rfl,v,rows,⟨t1,t2,t7,t8,-⟩,rb,hrl,hrb⟩;simp(disch:=omega) only[B0,t8];exact .go ⟨v,rows,by simp[D0,T.A9,t1,t2,t7,Es],rb,hrl,hrb⟩
   ·obtain⟨v,rows,⟨t1,t2,t7,t8,-⟩,rb,hrl,hrb⟩:=hI;have iB:(n-a)*B≤3*B:=BY _ (by omega);unfold HT;simp(disch:=omega) only[B0,t1,t8];exact .ex ⟨rfl,rfl,v,rows,by simp[D0,T.A9,t7],rb,by omega,hrb⟩
 rintro tm df H ⟨rfl,v,rows,⟨t7,-⟩,rb,hrl,hrb⟩;obtain⟨vs,bd,rj⟩:=id rb;simp only[B0,t7];refine .ret ?_;simp only[B0];obtain⟨us,u1,u2,u3⟩:=rb.AV3;exact⟨⟨rows,⟨us,u1,u2,fun c h0 hc=>by grind⟩,hrl,hrb⟩,bd.wf,fJ.trans bd.fr fun _ _ h=>h⟩
abbrev AQR(A7:Call):Prop:=∀k,k≤3→AYL A7 k (3^k)
theorem AUV{k:Nat}(h:k≤3):3^k≤27:=by
 match k with
 | 0 | 1 | 2 | 3=>decide
 | k+4=>omega
def AUO(m:Nat)(qv tv:A0)(H:Hp):Prop:=∃q t:List Nat,UC H qv q∧UC H tv t∧AGU H qv q.length∧AGU H tv t.length∧q.length≤m∧t.length≤m∧(∀x∈q,x<m)∧∀x∈t,x<m
abbrev R18OrderR(g:List A0→Hp→N3):Prop:=∀h lv rows,Wf h→RW h lv rows→rows.length≤3→C0 (g [lv] h) (fun r H=>(∃qv tv e,r=.agg ⟨[qv,tv,iN e]⟩∧AUO rows.length qv tv H)∧Wf H∧Fr N5 h H)
theorem A1W(hR:A1B A7)(hS:AQR A7)(hF:xT A7):R18OrderR (G8 iY A7 cd):=by
 intro h lv rows hw hl hr;obtain⟨vs,hvl,hv,hrow⟩:=id hl;have vl:=hv.len;obtain⟨J,hJ,wJ,fJ,nJ,a1⟩:=J7 hw (B6 [B7,B7,i0] 3 154 true);have hwb:=hw.base;have bJ:=fJ.base;obtain⟨b0,e0⟩:=hR J lv rows (hl.fr hw fJ) (by omega);have nil:∀ {H:Hp},AUO rows.length B7 B7 H:=⟨[],[],⟨rfl,.inl ⟨rfl,.inl rfl⟩⟩,⟨rfl,.inl ⟨rfl,.inl rfl⟩⟩,fun c h0=>absurd h0 (by decide),fun c h0=>absurd h0 (by decide),by simp,by simp,by simp,by simp⟩
 have fin:∀ {tm:T A0} {H:Hp} {qv tv:A0} {e:Nat},tm.get T1=some (C2 h.A6 0)→Wf H→Fr N5 J H→cE H h.A6=154→AUO rows.length qv tv H→eW [CR.cell true 3 T1] (fun r H=>(∃qv tv e,r=.agg ⟨[qv,tv,iN e]⟩∧AUO rows.length qv tv H)∧Wf H∧Fr N5 h H) Ex.ret tm [] (H.put h.A6 (some (.row (C7 [qv,tv,iN e] 0 .nil fun t=>t) 3 154 true false))):=fun{tm H qv tv e} ht hw2 hf hE0 ho=>by
  obtain⟨q,t,o1,o2,y1,y2,o3,o4,o5,o6⟩:=ho;have c1:=o1.cell;have c2:=o2.cell;have nf:=hf.A6;refine .ret ?_;simp(disch:=first|omega|(simp only[C6]<;>omega)) only[B0,ht];have hne:∀ {v:A0} {n:Nat},AGU H v n→∀c,0<n→Ch v c→(H.put h.A6 (some (.row (C7 [qv,tv,iN e] 0 .nil fun t=>t) 3 154 true false))).at c=H.at c:=fun{v n} hy c h0 hc=>E9 fun e1=>by have:=hy c h0 hc;grind
  have hE:∀ {v:A0} {l:List Nat},UC H v l→AGU H v l.length→UC (H.put h.A6 (some (.row (C7 [qv,tv,iN e] 0 .nil fun t=>t) 3 154 true false))) v l:=fun{v l} hs hy=>hs.K7 fun c h0 hc=>hne hy c h0 hc;exact⟨⟨qv,tv,e,rfl,q,t,hE o1 y1,hE o2 y2,fun c h0 hc=>by rw[Y9 (hne y1 c h0 hc)];exact y1 c h0 hc,fun c h0 hc=>by rw[Y9 (hne y2 c h0 hc)];exact y2 c h0 hc,o3,o4,o5,o6⟩,hw2.put (by omega) _,(fJ.trans hf fun _ _ h=>h).O6 _ (fun hk=>by omega) (by omega)⟩
 refine B5 rfl ?_;cases b0 with
 | false =>
  simp(disch:=first|omega|(simp only[C6]<;>omega)|exact⟨rfl,rfl,rfl⟩) only[↓CG,B0,reduceCtorEq,hJ,a1,e0];exact fin (by simp[T.A9]) wJ (Fr.refl _ _) (M6 a1) nil
 | true =>
  simp(disch:=omega) only[B0,reduceCtorEq,hJ,e0,vl];have hJe:∀ {H:Hp},Fr N5 J H→H.at h.A6=some (B6 [B7,B7,i0] 3 154 true):=fun f=>by rw[f.e _ (by omega)];exact a1
  refine D9.A9C (P:=fun tm df H=>df=[]∧D0 tm [(T1,C2 h.A6 0)]∧Wf H∧Fr N5 J H) (R:=fun tm df H=>df=[]∧D0 tm [(T1,C2 h.A6 0)]∧∃qv tv H0,AUO rows.length qv tv H0∧Wf H0∧Fr N5 J H0∧H=H0.put h.A6 (some (.row (C7 [qv,tv,i0] 0 .nil fun t=>t) 3 154 true false))) ?_ ?_ ?_
  · refine K6 (n:=rows.length+1) (by omega) (fun k tm H=>D0 tm [([],lv),(T1,C2 h.A6 0),(Q3,iN k)]∧Wf H∧Fr N5 J H) ?_ (fun k tm H hk hI=>?_) (fun tm H hI=>?_)
    ·exact⟨by simp[D0,T.A9,It],wJ,Fr.refl _ _⟩
    · obtain⟨⟨t0,t2,t3,-⟩,wH,fH⟩:=hI;have bH:=fH.base;obtain⟨w4,H1,e1,⟨sts,hsl,hsB,hsb⟩,w1,f1⟩:=(hS k (by omega) H 0 rows.length wH (by omega) hr).get;have p3:=AUV (show k≤3 by omega);have f01:=fH.trans f1 fun _ _ h=>h;unfold LJ;simp(disch:=omega) only[B0,reduceCtorEq,t0,t3,vl,e1];refine D9.AU0 (P:=fun tm df H'=>df=[]∧D0 tm [([],lv),(T1,C2 h.A6 0),(Q3,iN k)]∧Wf H'∧Fr N5 J H') (R:=fun tm df H=>df=[]∧D0 tm [(T1,C2 h.A6 0)]∧∃qv tv H0,AUO rows.length qv tv H0∧Wf H0∧Fr N5 J H0∧H=H0.put h.A6 (some (.row (C7 [qv,tv,i0] 0 .nil fun t=>t) 3 154 true false))) ?_ ?_ ?_
      · refine K6 (n:=sts.length) (by omega) (fun i tm H'=>D0 tm [([],lv),(T1,C2 h.A6 0),(Q3,iN k),(V1,w4),(U2,iN i)]∧Wf H'∧Fr N5 H1 H') ?_ (fun i tm H' hi hI=>?_) (fun tm H' hI=>?_)
        ·exact⟨by simp[D0,T.A9,t0,t2,t3],w1,Fr.refl _ _⟩
        · obtain⟨⟨t0,t2,t3,t4,t5,-⟩,wH',fH'⟩:=hI;have fJH:=f01.trans fH' fun _ _ h=>h;have bH':=fJH.base;obtain⟨us,hu1,hu2,hu3⟩:=hsl.K7 w1 fun c hc _=>fH'.e c hc;obtain⟨sv,g0,hsv,hs100,hsty⟩:=hu2.2 i _ (X0 hi);obtain⟨hsk,hsn⟩:=hsb _ (Dh hi);generalize sts[i]=st at *;have uA:=hu1.A (by omega);have ul:=hu1.len;obtain⟨qv,H2,e2,⟨q,hq,hqty,hql,hqn⟩,w2,f2⟩:=(hF H' lv sv rows st wH' (hl.fr hw (fJ.trans fJH fun _ _ h=>h)) hsv (by omega) (by omega)).get;have ql:=hq.len;have f12:=fJH.trans f2 fun _ _ h=>h;have b2:=hJe f12;have cq:=hq.cell;have cs:=hsv.cell;have AKm:=(hu1.S (by omega)).A2z wH';unfold LD;by_cases hqe:q.length=rows.length
          ·simp(disch:=first|omega|(simp only[C6]<;>omega)) only[B0,reduceCtorEq,t0,t2,t4,t5,uA,g0,e2,ql,vl,f2.e,b2];refine .ret (.inr ⟨rfl,rfl,by simp[D0,T.A9,t2],qv,sv,H2,⟨q,st,hq,hsv.fr wH' f2,hqty,fun c h0 hc=>by rw[Y9 (f2.e _ (hsv.lt wH' h0 hc))];exact hsty c h0 hc,hql,by omega,hqn,hsn⟩,w2,f12,rfl⟩)
          ·simp(disch:=omega) only[B0,reduceCtorEq,t0,t4,t5,uA,g0,e2,ql,vl];exact .go ⟨by simp[D0,T.A9,t0,t2,t3,t4],w2,fH'.trans f2 fun _ _ h=>h⟩
        ·obtain⟨⟨t0,t2,t3,t4,t5,-⟩,wH',fH'⟩:=hI;have fJH:=f01.trans fH' fun _ _ h=>h;obtain⟨us,hu1,hu2,hu3⟩:=hsl.K7 w1 fun c hc _=>fH'.e c hc;have ul:=hu1.len;unfold LD;simp(disch:=omega) only[B0,t4,t5,ul];exact .ex (.inl ⟨rfl,rfl,by simp[D0,T.A9,t0,t2,t3],wH',fJH⟩)
      ·rintro tm df H' ⟨rfl,⟨t0,t2,t3,-⟩,wH',fH'⟩;simp(disch:=omega) only[B0,t3];exact .go ⟨by simp[D0,T.A9,t0,t2],wH',fH'⟩
      ·rintro tm df H' ⟨rfl,hT,rest⟩;exact .ret (.inr ⟨rfl,rfl,hT,rest⟩)
    ·obtain⟨⟨t0,t2,t3,-⟩,wH,fH⟩:=hI;unfold LJ;simp(disch:=omega) only[B0,t0,t3,vl];exact .ex (.inl ⟨rfl,rfl,by simp[D0,T.A9,t2],wH,fH⟩)
  ·rintro tm df H ⟨rfl,⟨t2,-⟩,wH,fH⟩;have b2:=hJe fH;simp(disch:=first|omega|(simp only[C6]<;>omega)|exact⟨rfl,rfl,rfl⟩) only[↓CG,B0,t2,b2];exact fin (by simp[t2]) wH fH (M6 b2) nil
  ·rintro tm df H ⟨rfl,⟨t2,-⟩,qv,tv,H0,ho,w0,f0,rfl⟩;exact fin t2 w0 f0 (M6 (hJe f0)) ho
abbrev yx(A7:Call):Prop:=R18OrderR (A7 69)
abbrev R19namedR(g:List A0→Hp→N3):Prop:=∀h cv lv c l N,Wf h→UC h cv c→UC h lv l→(∀x∈l,x<c.length)→(∀x∈c,x<N)→c.length≤1000→l.length≤1000→C0 (g [cv,lv] h) (AZS N l.length h)
theorem A3j:R19namedR (G8 iC A7 cd):=by
 intro h cv lv c l N hw hc hl hlb hcb h1 h2;have cl:=hc.len;have ll:=hl.len;obtain⟨J,hJ,wJ,fJ,nJ,a1⟩:=J7 hw (B6 [] 0 3 true);have hwb:=hw.base;refine B5 rfl ?_;simp only[B0,hJ];refine D9.lp (P:=fun tm df H=>df=[]∧∃o out,D0 tm [(U2,o)]∧Bd 3 1 J N5 H o out.length (J8 out)∧out.length≤l.length∧∀x∈out,x<N) ?_ ?_
 · refine K6 (n:=l.length) (by omega) (fun i tm H=>∃o out,D0 tm [([],cv),(Q0,lv),(U2,o),(Q8,iN i)]∧Bd 3 1 J N5 H o out.length (J8 out)∧out.length≤i∧∀x∈out,x<N) ?_ (fun i tm H hi hI=>?_) (fun tm H hI=>?_)
   ·exact⟨_,[],by simp[D0,T.A9,Fy,PY];rfl,Bd.OX wJ (Fr.refl _ _),by simp,by simp⟩
   ·obtain⟨o,out,⟨t0,t1,t5,t6,-⟩,bd,hli,hob⟩:=hI;have fh:=fJ.trans bd.fr fun _ _ h=>h;have hx:=G6 hi;have hxl:=hlb _ (s6 hx);have hy:=G6 hxl;have hyb:=hcb _ (s6 hy);have lA:=(hl.fr hw fh).A (by omega);have cA:=(hc.fr hw fh).A (by omega);generalize l.getD i 0=x at *;generalize c.getD x 0=y at *;obtain⟨o',H4,e4,bd2⟩:=bd.one wJ (iN y) U6 (by omega);rw[VN,show out.length+1=(out++[y]).length by simp] at bd2;unfold LR;simp(disch:=first|omega|exact⟨rfl,rfl,rfl⟩|assumption) only[B0,reduceCtorEq,t0,t1,t5,t6,lA,O7 hx,cA,O7 hy,e4];exact .go ⟨o',_,by simp[D0,T.A9,t0,t1],bd2,by simp;omega,AFF hob hyb⟩
   ·obtain⟨o,out,⟨t0,t1,t5,t6,-⟩,bd,hli,hob⟩:=hI;unfold LR;simp(disch:=omega) only[B0,t1,t6,ll];exact .ex ⟨rfl,rfl,o,out,by simp[D0,T.A9,t5],bd,hli,hob⟩
 rintro tm df H ⟨rfl,o,out,⟨t5,-⟩,bd,hli,hob⟩;simp only[B0,t5];refine .ret ?_;simp only[B0];exact⟨⟨out,bd.sl,bd.AWN,hli,hob⟩,bd.wf,fJ.trans bd.fr fun _ _ h=>h⟩
abbrev zB(A7:Call):Prop:=R19namedR (A7 71)
def VU(z N n:Nat)(ov qv tv:A0):List A0:=[iN z,iN N,.bool false,iN n,iN n,ov,qv,tv]
structure Yl(z N:Nat):Prop where
 z0:1≤z
 z1:z≤1000
 n0:1≤N
 n1:N≤3
theorem Yl.mul{z:Nat}(p:Yl z N):N*z≤3000:=by have:=AEn p.n1 p.z1;omega
theorem Yl.pos{z:Nat}(p:Yl z N):0<N*z:=Nat.mul_pos p.n0 p.z0
theorem A1n{z:Nat}{qv:A0}(hw:Wf h)(p:Yl z N)(c1:Cell ov)(c2:Cell qv)(c3:Cell tv):C0 (G8 ig A7 cd [.agg ⟨VU z N (N*z) ov qv tv⟩] h) (QR (.bool true) h):=by obtain⟨J,hJ,wJ,fJ,nJ,a1⟩:=J7 hw (B6 (VU z N (N*z) ov qv tv) 8 47 true);have hwb:=hw.base;have hm:=p.mul;have hcm:N*z=z*N:=Nat.mul_comm _ _;obtain⟨p1,p2,p3,p4⟩:=p;unfold VU at hJ a1 ⊢;refine B5 rfl ?_;simp(disch:=first|omega|(simp only[C6]<;>omega)) only[B0,Nat.reduceAdd,hJ,a1];refine .ret ?_;simp only[B0];exact⟨rfl,fJ.log⟩
abbrev VM(A7:Call):Prop:=∀H z N ov qv tv,Wf H→Yl z N→Cell ov→Cell qv→Cell tv→A7 67 [.agg ⟨VU z N (N*z) ov qv tv⟩] H=.val (.bool true) H
def Vc(ss:List Sy)(z i:Nat):List Nat:=(List.range i).filter fun t=>ju ss z t
theorem AIk(ss:List Sy)(z i:Nat):Vc ss z (i+1)=Vc ss z i++(if ju ss z i then[i] else[]):=by unfold Vc;rw[qp,List.filter_append];grind
theorem ZC(ss:List Sy)(z i:Nat):(Vc ss z i).length≤i:=by have:=List.length_filter_le (fun t=>ju ss z t) (List.range i);rw[List.length_range] at this;exact this
theorem AFU(ss:List Sy)(z i:Nat):∀x∈Vc ss z i,x<i:=fun x hx=>pR.1 (AEK.1 hx).1
def AaK(l:List Nat)(h:Hp)(r:A0)(H:Hp):Prop:=(UC H r l∧AGU H r l.length)∧Wf H∧Fr N5 h H
abbrev R19ChgR(g:List A0→Hp→N3):Prop:=∀h z N ov qv tv ops,Wf h→Yl z N→Rt (N*z) ops→Sl 5 h ov ops.length (A0n ops)→Cell qv→Cell tv→C0 (g [.agg ⟨VU z N (N*z) ov qv tv⟩] h) (AaK (Vc (DY ops) z N) h)
theorem qk(hS:lL A7)(hC:lR A7):R19ChgR (G8 WU A7 cd):=by
 intro h z N ov qv tv ops hw p hp hv c2 c3;have hm:=p.mul;obtain⟨p1,p2,p3,p4⟩:=id p;obtain⟨n,hn⟩:∃n,N*z=n:=⟨_,rfl⟩
 rw[hn] at hp hm ⊢;obtain⟨J,hJ,wJ,fJ,nJ,a1⟩:=J7 hw (B6 (VU z N n ov qv tv) 8 47 true);have hwb:=hw.base;have cv:=hv.cell;obtain⟨r1,H1,e1,⟨sv,rfl,hs⟩,w1,f1⟩:=(hS J ov ops n wJ hp (hv.fr hw fJ) hm).get;have csv:=hs.cell;have hl:=Sm ops;rw[hp.sum] at hl;generalize DY ops=ss at *;obtain⟨H2,hH2,w2,f2,n2,c2'⟩:=J7 w1 (B6 [] 0 3 true);have fh1:=fJ.trans f1 fun _ _ h=>h;have fh2:=fh1.trans f2 fun _ _ h=>h;have f12:=f1.trans f2 fun _ _ h=>h;have x1:=f1.A6;have A2:H2.at h.A6=some (B6 (VU z N n ov qv tv) 8 47 true):=by rw[f12.e _ (by omega)];exact a1
 have hbd:∀t,t<N→(t+1)*z≤n:=fun t ht=>by rw[←hn];exact BY _ ht
 unfold VU at hJ a1 A2 ⊢;unfold Jq at e1;refine B5 rfl ?_;simp(disch:=first|omega|(simp only[C6]<;>omega)) only[B0,hJ,a1,e1,hH2];refine D9.lp (P:=fun tm df H=>df=[]∧∃o,D0 tm [(U2,o)]∧Bd 3 1 H2 N5 H o (Vc ss z N).length (J8 (Vc ss z N))) ?_ ?_
 · refine K6 (n:=N) (by omega) (fun i tm H=>∃o,D0 tm [(Q0,C2 h.A6 0),(Q3,sv),(U2,o),(Q8,iN i)]∧Bd 3 1 H2 N5 H o (Vc ss z i).length (J8 (Vc ss z i))) ?_ (fun i tm H hi hI=>?_) (fun tm H hI=>?_)
   ·exact⟨_,by simp[D0,T.A9];rfl,Bd.OX w2 (Fr.refl _ _)⟩
   · obtain⟨o,⟨t1,t3,t5,t6,-⟩,bd⟩:=hI;have f1H:=f2.trans bd.fr fun _ _ h=>h;have b1:=bd.fr.e h.A6 (by omega);rw[A2] at b1;have e2:=hC H sv ss n z i bd.wf (hs.fr w1 f1H) hl (hbd i hi) (by omega) p1;have hsn:=AIk ss z i;have hle:=ZC ss z i;generalize ju ss z i=b at *;unfold IX at e2;unfold HV;cases b with
     | true =>
      obtain⟨o',H4,e4,bd2⟩:=bd.one w2 (iN i) U6 (by omega);rw[VN,show(Vc ss z i).length+1=(Vc ss z i++[i]).length by simp] at bd2;rw[if_pos rfl] at hsn;rw[←hsn] at bd2;simp(disch:=first|omega|(simp only[C6]<;>omega)|exact⟨rfl,rfl,rfl⟩|assumption) only[B0,reduceCtorEq,Nat.reduceAdd,t1,t3,t5,t6,b1,e2,e4];exact .go ⟨o',by simp[D0,T.A9,t1,t3],bd2⟩
     | false =>
      rw[if_neg (by decide),rr] at hsn;rw[←hsn] at bd;simp(disch:=first|omega|(simp only[C6]<;>omega)|exact⟨rfl,rfl,rfl⟩|assumption) only[B0,reduceCtorEq,Nat.reduceAdd,t1,t3,t6,b1,e2];exact .go ⟨o,by simp[D0,T.A9,t1,t3,t5],bd⟩
   ·obtain⟨o,⟨t1,t3,t5,t6,-⟩,bd⟩:=hI;have b1:=bd.fr.e h.A6 (by omega);rw[A2] at b1;unfold HV;simp(disch:=first|omega|(simp only[C6]<;>omega)) only[B0,t1,t6,b1];exact .ex ⟨rfl,rfl,o,by simp[D0,T.A9,t5],bd⟩
 rintro tm df H ⟨rfl,o,⟨t5,-⟩,bd⟩;simp only[B0,t5];refine .ret ?_;simp only[B0];exact⟨⟨bd.sl,bd.AWN⟩,bd.wf,fh2.trans bd.fr fun _ _ h=>h⟩
abbrev lP(A7:Call):Prop:=R19ChgR (A7 68)
abbrev R19AmongR(g:List A0→Hp→N3):Prop:=∀h z N ov qv tv ops,Wf h→Yl z N→Rt (N*z) ops→Sl 5 h ov ops.length (A0n ops)→Cell qv→Cell tv→C0 (g [.agg ⟨VU z N (N*z) ov qv tv⟩] h) (fun r H=>(∃rows,RW H r rows∧rows.length=(Vc (DY ops) z N).length)∧Wf H∧Fr N5 h H)
theorem A3N(hC:lP A7)(hR:dF A7)(hH:YT A7):R19AmongR (G8 jm A7 cd):=by
 intro h z N ov qv tv ops hw p hp hv c2 c3;have hm:=p.mul;obtain⟨p1,p2,p3,p4⟩:=id p;obtain⟨J,hJ,wJ,fJ,nJ,a1⟩:=J7 hw (B6 (VU z N (N*z) ov qv tv) 8 47 true);have hwb:=hw.base;have cv:=hv.cell;obtain⟨chv,H1,e1,⟨hch,_⟩,w1,f1⟩:=(hC J z N ov qv tv ops wJ p hp (hv.fr hw fJ) c2 c3).get;have hchl:=ZC (DY ops) z N;have hchb:=AFU (DY ops) z N;generalize Vc (DY ops) z N=ch at *;have fh1:=fJ.trans f1 fun _ _ h=>h;obtain⟨r2,H2,e2,⟨rv,rows,rfl,hrows,hrl⟩,w2,f2⟩:=(hR H1 ov ops N z w1 hp (hv.fr hw fh1) p1 p2 p4).get;have fh2:=fh1.trans f2 fun _ _ h=>h;obtain⟨H3,hH3,w3,f3,n3,c3'⟩:=J7 w2 (B6 [] 0 36 true);have fh3:=fh2.trans f3 fun _ _ h=>h;have f23:=f2.trans f3 fun _ _ h=>h;have x1:=f1.A6;have x2:=f2.A6;have cl:=hch.len;have cch:=hch.cell;have hch3:=hch.fr w1 f23;have hrows3:=hrows.fr w2 f3;have crv:Cell rv:=by obtain⟨vs,_,h1,_⟩:=hrows;exact h1.cell
 unfold VU at hJ a1 e1 ⊢;unfold Jq at e2;refine B5 rfl ?_;simp(disch:=first|omega|(simp only[C6]<;>omega)) only[B0,reduceCtorEq,Nat.reduceAdd,hJ,a1,e1,f1.e,e2,hH3];refine D9.lp (P:=fun tm df H=>df=[]∧∃v am,D0 tm [(Q8,v)]∧cJ H3 N5 H v am∧am.length=ch.length) ?_ ?_
 · refine K6 (n:=ch.length) (by omega) (fun u tm H=>∃v am,D0 tm [(Q3,chv),(V1,rv),(Q8,v),(AL,iN u)]∧cJ H3 N5 H v am∧am.length=u) ?_ (fun u tm H hu hI=>?_) (fun tm H hI=>?_)
   ·exact⟨_,[],by simp[D0,T.A9];rfl,cJ.nil w3 (Fr.refl _ _),rfl⟩
   · obtain⟨v,am,⟨t3,t4,t6,t7,-⟩,rb,hal⟩:=hI;obtain⟨vs0,bd0,rj0⟩:=id rb;obtain⟨G,hG,wG,fG,nG,cG⟩:=J7 bd0.wf (B6 [] 0 3 true);have f3G:=bd0.fr.trans fG fun _ _ h=>h;have hx:=G6 hu;have hxN:=hchb _ (s6 hx);unfold KU;simp(disch:=omega) only[B0,t3,t7,cl,hG];refine D9.AIL (P:=fun tm df H'=>df=[]∧∃v am,D0 tm [(Q3,chv),(V1,rv),(Q8,v),(AL,iN u)]∧cJ H3 N5 H' v am∧am.length=u+1) (D9.lp (P:=fun tm df H'=>df=[]∧∃w row,D0 tm [(Q3,chv),(V1,rv),(Q8,v),(AL,iN u),(Cj,w)]∧Bd 3 1 G N5 H' w row.length (J8 row)∧row.length≤ch.length) ?_ ?_) ?_
     · refine K6 (n:=ch.length) (by omega) (fun t tm H'=>∃w row,D0 tm [(Q3,chv),(V1,rv),(Q8,v),(AL,iN u),(Cj,w),(DZ,iN t)]∧Bd 3 1 G N5 H' w row.length (J8 row)∧row.length≤t) ?_ (fun t tm H' ht hI=>?_) (fun tm H' hI=>?_)
       ·exact⟨_,[],by simp[D0,T.A9,t3,t4,t6,t7];rfl,Bd.OX wG (Fr.refl _ _),by simp⟩
       · obtain⟨w,row,⟨t3,t4,t6,t7,t8,t9,-⟩,bd,hrw⟩:=hI;have fX:=f3G.trans bd.fr fun _ _ h=>h;have cA:=(hch3.fr w3 fX).A (by omega);obtain⟨us,hul,hus,hur⟩:=hrows3.fr w3 fX;obtain⟨w5,g0,hw5,hw100⟩:=hur (ch.getD u 0) _ (X0 (show ch.getD u 0<rows.length by omega));have ul:=hus.len;have uA:=hus.A (by omega);have hy:=G6 ht;obtain⟨b,e3⟩:=hH (B8 H' H'.A6 []) w5 _ (ch.getD t 0) (show UC (B8 H' H'.A6 []) w5 _ from hw5) (by omega);unfold KY;cases b with
         | true =>
          obtain⟨w',H4,e4,bd2⟩:=bd.one wG (iN t) U6 (by omega);rw[VN,show row.length+1=(row++[t]).length by simp] at bd2;simp(disch:=first|omega|exact⟨rfl,rfl,rfl⟩|assumption) only[B0,reduceCtorEq,t3,t4,t7,t8,t9,cA,O7 hx,O7 hy,uA,g0,e3,e4];exact .go ⟨w',_,by simp[D0,T.A9,t3,t4,t6,t7],bd2,by simp;omega⟩
         | false =>
          simp(disch:=omega) only[B0,reduceCtorEq,t3,t4,t7,t9,cA,O7 hx,O7 hy,uA,g0,e3];exact .go ⟨w,row,by simp[D0,T.A9,t3,t4,t6,t7,t8],bd,by omega⟩
       ·obtain⟨w,row,⟨t3,t4,t6,t7,t8,t9,-⟩,bd,hrw⟩:=hI;unfold KY;simp(disch:=omega) only[B0,t3,t9,cl];exact .ex ⟨rfl,rfl,w,row,by simp[D0,T.A9,t3,t4,t6,t7,t8],bd,hrw⟩
     ·rintro tm df H' ⟨rfl,w,row,⟨t3,t4,t6,t7,t8,-⟩,bd,hrw⟩;obtain⟨v',H4,e4,rb2,_⟩:=(rb.step bd.wf (fG.trans bd.fr fun _ _ h=>h)).snoc w3 bd.sl (by omega) bd.AWN (by omega);have cw:=bd.cell;simp(disch:=omega) only[B0,t6,t8,e4];exact⟨v',_,by simp[D0,T.A9,t3,t4,t7],rb2,by simp[hal]⟩
     ·rintro tm df H' ⟨rfl,v,am,⟨t3,t4,t6,t7,-⟩,rb,hal⟩;simp(disch:=omega) only[B0,t7];exact .go ⟨v,am,by simp[D0,T.A9,t3,t4,t6],rb,hal⟩
   ·obtain⟨v,am,⟨t3,t4,t6,t7,-⟩,rb,hal⟩:=hI;unfold KU;simp(disch:=omega) only[B0,t3,t7,cl];exact .ex ⟨rfl,rfl,v,am,by simp[D0,T.A9,t6],rb,hal⟩
 rintro tm df H ⟨rfl,v,am,⟨t6,-⟩,rb,hal⟩;simp only[B0,t6];refine .ret ?_;simp only[B0];obtain⟨vs,bd,rj⟩:=id rb;exact⟨⟨am,rb.rows,hal⟩,bd.wf,fh3.trans bd.fr fun _ _ h=>h⟩
abbrev zq(A7:Call):Prop:=R19AmongR (A7 70)
def A5v(H:Hp)(v:A0)(l:List Nat):Prop:=UC H v l∧AGU H v l.length
theorem A5v.fr{H:Hp}{v:A0}(x:A5v h v l)(hw:Wf h)(f:Fr N5 h H):A5v H v l:=⟨x.1.fr hw f,fun c h0 hc=>by rw[Y9 (f.e _ (x.1.lt hw h0 hc))];exact x.2 c h0 hc⟩
theorem A5v.put{H:Hp}{v:A0}(x:A5v H v l){b:Nat}(o:Option N2)(hb:cE H b≠3):A5v (H.put b o) v l:=by have k:∀c,0<l.length→Ch v c→(H.put b o).at c=H.at c:=fun c h0 hc=>E9 fun e=>hb (by rw[e];exact x.2 c h0 hc);exact⟨x.1.K7 k,fun c h0 hc=>by rw[Y9 (k c h0 hc)];exact x.2 c h0 hc⟩
def Aae(z N:Nat)(ops:List WM)(r:A0)(H:Hp):Prop:=∃ov qv tv q t,r=.agg ⟨VU z N (N*z) ov qv tv⟩∧Sl 5 H ov ops.length (A0n ops)∧UC H qv q∧UC H tv t∧q.length≤N∧t.length≤N∧(∀x∈q,x<N)∧∀x∈t,x<N
def ATv:List A0:=[i0,i0,.bool false,i0,i0,B7,B7,B7]
abbrev R19MakeR(g:List A0→Hp→N3):Prop:=∀h z N bv ov l ops,Wf h→Yl z N→Rt (N*z) ops→Sl 5 h ov ops.length (A0n ops)→Sl 1 h bv (N*z) (M4 l)→C0 (g [.agg ⟨[bv,.bool false,iN (N*z),iN (N*z),ov,iN z,iN N]⟩] h) (fun r H=>(∃pl,r=.tuple ⟨[pl,i0]⟩∧Aae z N ops pl H)∧Wf H∧Fr N5 h H)
theorem A4E(hR:Ol A7)(hZ:VM A7)(hC:lP A7)(hA:zq A7)(hO:yx A7)(hN:zB A7):R19MakeR (G8 lZ A7 cd):=by
 intro h z N bv ov l ops hw p hp hv hb;have hm:=p.mul;have cbv:=hb.cell;have cov:=hv.cell;have bl:=hb.len;obtain⟨J0,hJ0,wJ0,fJ0,nJ0,a1,a2⟩:=U7 hw (B6 [bv,.bool false,iN (N*z),iN (N*z),ov,iN z,iN N] 7 88 true) (B6 ATv 8 47 true);obtain⟨J,hJ,wJ,f1,nJ,a3⟩:=O5 wJ0 ATv (VU z N (N*z) ov B7 B7) 8 47;have hwb:=hw.base;have fJ:=fJ0.trans f1 fun _ _ h=>h;have bJ:=fJ.base;have e1:=hR J ov ops (N*z) wJ hp (hv.fr hw fJ) (by omega);have e2:=hZ J z N ov B7 B7 wJ p cov DF DF;obtain⟨chv,H1,e3,⟨hch,hcy⟩,w1,g1⟩:=(hC J z N ov B7 B7 ops wJ p hp (hv.fr hw fJ) DF DF).get;have hchl:=ZC (DY ops) z N;have hchb:=AFU (DY ops) z N;have fh1:=fJ.trans g1 fun _ _ h=>h;obtain⟨av,H2,e4,⟨rows,hrows,hrl⟩,w2,g2⟩:=(hA H1 z N ov B7 B7 ops w1 p hp (hv.fr hw fh1) DF DF).get;have hp4:=p.n1;generalize Vc (DY ops) z N=ch at *;obtain⟨r3,H3,e5,⟨qv,tv,e,rfl,q,t,hq,ht,hqy,hty,hql,htl,hqb,htb⟩,w3,g3⟩:=(hO H2 av rows w2 hrows (by omega)).get;rw[hrl] at hql htl hqb htb;have cqv:=hq.cell;have ctv:=ht.cell;obtain⟨H4,hH4,w4,g4,n4,c4⟩:=O5 w3 [B7,B7,i0] [qv,tv,iN e] 3 154;have g24:=(g2.trans g3 fun _ _ h=>h).trans g4 fun _ _ h=>h;have g14:=g1.trans g24 fun _ _ h=>h;have fh4:=fJ.trans g14 fun _ _ h=>h;have hch4:=A5v.fr ⟨hch,hcy⟩ w1 g24;have hq4:=A5v.fr ⟨hq,hqy⟩ w3 g4;have ht4:=A5v.fr ⟨ht,hty⟩ w3 g4;obtain⟨r5,H5,e6,⟨sq,hs5,hs5y,hsl,hsb⟩,w5,g5⟩:=(hN H4 chv qv ch q N w4 hch4.1 hq4.1 hqb hchb (by omega) (by omega)).get;have m1:=g14.A6;have m5:=g5.A6;have b14:=g14.base;have b5:=g5.base;have x1:=g1.A6;have x2:=g2.A6;have x3:=g3.A6;have b4:=g4.base;have g15:=g14.trans g5 fun _ _ h=>h;have at5:H5.at J0.A6=some (B6 (VU z N (N*z) ov B7 B7) 8 47 true):=by rw[g15.e _ (by omega)];exact a3
 have at4:H4.at J0.A6=some (B6 (VU z N (N*z) ov B7 B7) 8 47 true):=by rw[g14.e _ (by omega)];exact a3
 have cE5:=M6 at5;obtain⟨H6,hH6⟩:∃K,H5.put J0.A6 (some (B6 (VU z N (N*z) ov r5 B7) 8 47 true))=K:=⟨_,rfl⟩
 have w6:Wf H6:=by rw[←hH6];exact w5.put (by omega) _
 have f6:Fr (fun k=>k=J0.A6) J H6:=by rw[←hH6];exact(g15.mono fun _ _ h=>h.elim).O6 _ (fun _=>rfl) (by omega)
 have n6:H6.A6=H5.A6:=by rw[←hH6];rfl
 have at6:H6.at J0.A6=some (B6 (VU z N (N*z) ov r5 B7) 8 47 true):=by rw[←hH6,K0]
 have hne:∀(o:Option N2) {v:A0} {l:List Nat},A5v H5 v l→A5v (H5.put J0.A6 o) v l:=fun o {v l} x=>x.put o (by rw[cE5];decide);have hch6:A5v H6 chv ch:=by rw[←hH6];exact hne _ (hch4.fr w4 g5)
 have hs6:A5v H6 r5 sq:=by rw[←hH6];exact hne _ ⟨hs5,hs5y⟩
 have ht6:A5v H6 tv t:=by rw[←hH6];exact hne _ (ht4.fr w4 g5)
 have c46:H6.at H3.A6=some (B6 [qv,tv,iN e] 3 154 true):=by rw[←hH6,E9 (by omega),g5.e _ (by omega)];exact c4
 obtain⟨r7,H7,e7,⟨st,hs7,hs7y,htl2,htb2⟩,w7,g7⟩:=(hN H6 chv tv ch t N w6 hch6.1 ht6.1 htb hchb (by omega) (by omega)).get;have m7:=g7.A6;have b7:=g7.base;have cr5:=hs5.cell;have cr7:=hs7.cell;have at7:H7.at J0.A6=some (B6 (VU z N (N*z) ov r5 B7) 8 47 true):=by rw[g7.e _ (by omega)];exact at6
 have cE7:=M6 at7;have f7:=f6.trans g7 fun _ _ h=>h.elim;have a27:H7.at (h.A6+1)=some (B6 ATv 8 47 true):=by rw[f7.M5 _ (by omega) (by omega),f1.e _ (by omega)];exact a2
 have A1:J.at h.A6=some (B6 [bv,.bool false,iN (N*z),iN (N*z),ov,iN z,iN N] 7 88 true):=by rw[f1.e _ (by omega)];exact a1
 have lch:=hch.len;unfold VU ATv at hJ;unfold VU at a3 e2 e3 e4 at6 at7 at5 at4 hH6;unfold Jq at e1;unfold ATv at hJ0 a2 a27;unfold B6 at hH6;obtain⟨n,hn⟩:∃n,N*z=n:=⟨_,rfl⟩
 rw[hn] at hm;simp only[hn] at hJ0 hJ a1 A1 a3 e1 e2 bl e3 e4 at4 hH6 at6 at7 at5;rw[hn];refine B5 rfl ?_;simp(disch:=first|omega|(simp only[C6]<;>omega)|exact⟨rfl,rfl,rfl⟩|assumption) only[↓CG,B0,reduceCtorEq,Nat.reduceAdd,Nat.reduceMul,Nat.reduceSub,hJ0,hJ,a1,A1,a3,e1,e2,bl,e3,lch,g1.e,e4,g2.e,e5,hH4,c4,e6,g5.e,at4,hH6,at6,c46,e7,at7,a27,fJ0.n,fJ.n,g1.n,g14.n];refine .ret ?_;simp(disch:=first|omega|(simp only[C6]<;>omega)) only[B0,reduceCtorEq];have fh7:=fJ.trans f7 fun k hk e=>by omega
 have q7:=hs6.fr w6 g7;have t7:A5v H7 r7 st:=⟨hs7,hs7y⟩
 obtain⟨X,hX⟩:∃X,H7.put J0.A6 (some (N2.row (C7 [iN z,iN N,Value.bool false,iN n,iN n,ov,r5,r7] 0 T.nil fun t=>t) 8 47 true false))=X:=⟨_,rfl⟩
 have eX:cE X (h.A6+1)≠3:=by rw[←hX,Y9 (E9 (by omega)),M6 a27];decide
 have qX:A5v X r5 sq:=by rw[←hX];exact q7.put _ (by rw[cE7];decide)
 have tX:A5v X r7 st:=by rw[←hX];exact t7.put _ (by rw[cE7];decide)
 have kX:Ky h X H7.A6:=by rw[←hX];exact(Ky.mk w7 fh7 rfl).put (by omega) (by omega) hw _
 rw[hX];have kZ:=kX.put (b:=h.A6+1) (by omega) (by omega) hw (some (N2.row (C7 [iN z,iN N,Value.bool false,iN n,iN n,ov,r5,r7] 0 T.nil fun t=>t) 8 47 true false));refine⟨⟨_,rfl,ov,r5,r7,sq,st,by rw[hn];rfl,hv.fr hw kZ.fr,(qX.put _ eX).1,(tX.put _ eX).1,by omega,by omega,hsb,htb2⟩,kZ.wf,kZ.fr⟩
abbrev A5A(A7:Call):Prop:=R19MakeR (A7 20)
end Abs
end Go
end
