/-
Symbolic runs of the functions that the law reaches, part 06.
Conditions: none.
-/
import Derived.KernelRfl
import Derived.Test.YtekknahndoonjaaGreatDoorRun05
import Derived.Test.YtekknahndoonjaaGreatDoorHsCx
import Derived.Test.YtekknahndoonjaaGreatDoorRun04
import Derived.Test.YtekknahndoonjaaGreatDoorRun02
set_option linter.all false
set_option maxRecDepth 100000
noncomputable section
namespace Go
namespace Abs
variable {P:Program} {gs:List Nat} {v0:A0} {H h h1:Hp} {b:Nat} {c:T A0} {args:List A0} {A7:Call} {r:N3} {y:Nat×Nat}
theorem F5.ni{f g:Map}{v v':A0}(hp:Og 0 v=true)(h:F5 f v v'):F5 g v v':=h.A68 hp fun b i hb=>absurd hb (xM _)
theorem AZd{g:FuncId}{vs:List A0}{e:TypeId}{cl ro:Bool}{m k:Nat}{rest:List A0}(H:AY P gs g (F8 16 0 m k::rest) (uc [⟨16,vs,e,cl,ro⟩] 17) (.val v0 h1))(hgs:∀x∈gs,x<16)(hl:h1.log=[])(hp:Og 0 v0=true)(hvs:∀v∈vs,Og 0 v=true)(hrest:∀v∈rest,Og 0 v=true)(hat:h.at b=some (.row c vs.length e cl ro))(hc:∀j,j<vs.length→c.get (path j)=vs[j]?):AY P gs g (F8 b 0 m k::rest) h (.val v0 h):=by
 intro args' f w hG hr hl';have fd:∃f':Map,(∀x,x<16→f' x=f x)∧f' 16=f b∧∀x,16<x→f' x=none:=by
  refine⟨fun x=>if x<16 then f x else if x=16 then f b else none,fun x hx=>if_pos hx,?_,fun x hx=>?_⟩
  ·rfl
  grind
 obtain⟨f',f1,f2,f3⟩:=fd;have at16:∀x o,(uc [⟨16,vs,e,cl,ro⟩] 17).at x=some o→x=16∧o=(Rw.mk 16 vs e cl ro).ob:=fun x o ho=>by
  rw[om] at ho;show x=16∧_;cases hq:HX [⟨16,vs,e,cl,ro⟩] x with
  | none=>rw[hq] at ho;cases ho
  | some r =>
   rw[hq] at ho;cases ho;obtain⟨h1,h2⟩:=Hu hq;grind
 have is16:∀x,((uc [⟨16,vs,e,cl,ro⟩] 17).at x).isSome→x=16:=fun x hx=>by obtain⟨o,ho⟩:=A0k.1 hx;exact(at16 x o ho).1
 have hr':Z6 f' (uc [⟨16,vs,e,cl,ro⟩] 17) w:=by
  refine⟨fun x o i hx ho=>?_,fun x y i j hx hy h1 h2 _=>(is16 x h1).trans (is16 y h2).symm,fun x i hx=>?_,fun x hx=>?_,M8 _⟩
  · obtain⟨rfl,rfl⟩:=at16 x o ho;rw[f2] at hx;obtain⟨y,hy,hor⟩:=hr.obj b _ i hx hat;refine⟨y,hy,?_⟩;cases hor with
    | row _ _ _ _ _ arr e2 fz he hs hn hcl hro hcc =>
     refine .row _ _ _ _ _ arr e2 fz he hs hn hcl hro fun k v hk hv=>?_;rw[V3,if_pos ⟨BB _,by simpa using hk⟩,EC] at hv;obtain⟨v',h1,h2⟩:=hcc k v hk (by rw[hc k hk];exact hv);exact⟨v',h1,h2.ni (hvs v (s6 hv))⟩
  · rcases AA9 x 16 with h1|h1|h1
    ·rw[f1 x h1] at hx;exact⟨by show x<17;omega,(hr.fresh x i hx).2⟩
    ·subst h1;rw[f2] at hx;exact⟨by show 16<17;omega,(hr.fresh b i hx).2⟩
    ·rw[f3 x h1] at hx;cases hx
  · cases ho:(uc [⟨16,vs,e,cl,ro⟩] 17).at x with
    | none=>rfl
    | some o =>
     have:=(at16 x o ho).1;have hx':17≤x:=hx;omega
 have hG':Dr gs f':=fun x hx=>by rw[f1 x (hgs x hx)];exact hG x hx
 have hl2:M7 f' (F8 16 0 m k::rest) args':=by
  obtain⟨v',r,rfl,hv,hr2⟩:=hl'.Qe;have e1:F5 f' (F8 16 0 m k) v':=by
   cases hv with
   | slice b o l c i h1 hc hl=>constructor<;>grind
   | Z9 b o l c lb i o' c' h1 hc hlb hl hb ho hn=>exact .Z9 16 0 m k lb i o' c' (by rw[f2];exact h1) hc hlb hl hb ho hn
  exact M7.cons e1 ⟨hr2.1,fun i v hi=>by obtain⟨u,h1,h2⟩:=hr2.2 i v hi;exact⟨u,h1,h2.ni (hrest v (s6 hi))⟩⟩
 have hh:=H args' f' w hG' hr' hl2;refine⟨hh.1,hh.2.mono fun ex w' he=>?_⟩;cases ex with
 | panicked c=>exact he.elim
 | outgrown=>exact he.elim
 | returned v' =>
  obtain⟨f2',hA,hC,hv⟩:=he;have kp:=fun c hc=>hC.K7 c hc fun b' i' h1 _ h3=>⟨(hr'.fresh b' i' h1).1,by rw[hl];simp⟩
  refine⟨f,L6.refl h,⟨hr,Map.le_refl f,⟨fun b o i hb ho=>?_,hr.inj,fun b i hb=>⟨(hr.fresh b i hb).1,Ep (hr.fresh b i hb).2 hC.size⟩,hr.dead,hr.base⟩,hC.size,hC.tape,hC.os,hC.out,fun c hc _=>kp c hc,fun b i h1 h2=>by(rw[h1] at h2;cases h2)⟩,hv.ni hp⟩;obtain⟨x,hx,hor⟩:=hr.obj b o i hb ho;grind
theorem AZk{g:FuncId}(H:AY P gs g args (uc [] 16) (.val v0 h1))(hgs:∀x∈gs,x<16)(hl:h1.log=[])(hp:Og 0 v0=true)(ha:∀v∈args,Og 0 v=true):AY P gs g args h (.val v0 h):=by
 intro args' f w hG hr hl';obtain⟨f',f1,f3⟩:∃f':Map,(∀x,x<16→f' x=f x)∧∀x,16≤x→f' x=none:=⟨fun x=>if x<16 then f x else none,fun x hx=>if_pos hx,fun x hx=>if_neg (by omega)⟩
 have hr':Z6 f' (uc [] 16) w:=by
  refine⟨fun x o i hx ho=>?_,fun x y i j hx hy h1 h2 _=>?_,fun x i hx=>?_,fun x hx=>?_,M8 _⟩
  ·rw[om] at ho;cases ho
  ·rw[om] at h1;cases h1
  · rcases DX x 16 with h1|h1
    ·rw[f1 x h1] at hx;exact⟨h1,(hr.fresh x i hx).2⟩
    ·rw[f3 x h1] at hx;cases hx
  ·rw[om];rfl
 have hG':Dr gs f':=fun x hx=>by rw[f1 x (hgs x hx)];exact hG x hx
 have hl2:M7 f' args args':=⟨hl'.1,fun i v hi=>by obtain⟨u,h1,h2⟩:=hl'.2 i v hi;exact⟨u,h1,h2.ni (ha v (s6 hi))⟩⟩
 have hh:=H args' f' w hG' hr' hl2;refine⟨hh.1,hh.2.mono fun ex w' he=>?_⟩;cases ex with
 | panicked c=>exact he.elim
 | outgrown=>exact he.elim
 | returned v' =>
  obtain⟨f2',hA,hC,hv⟩:=he;have kp:=fun c hc=>hC.K7 c hc fun b' i' h1 _ h3=>⟨(hr'.fresh b' i' h1).1,by rw[hl];simp⟩
  refine⟨f,L6.refl h,⟨hr,Map.le_refl f,⟨fun b o i hb ho=>?_,hr.inj,fun b i hb=>⟨(hr.fresh b i hb).1,Ep (hr.fresh b i hb).2 hC.size⟩,hr.dead,hr.base⟩,hC.size,hC.tape,hC.os,hC.out,fun c hc _=>kp c hc,fun b i h1 h2=>by(rw[h1] at h2;cases h2)⟩,hv.ni hp⟩;obtain⟨x,hx,hor⟩:=hr.obj b o i hb ho;grind
def AXC:List UInt8→List UInt8→Bool
 | [],[]=>true
 | a::l,b::r=>Nat.beq a.toNat b.toNat&&AXC l r
 | _,_=>false
theorem AJ3:∀ {l r:List UInt8},AXC l r=true→l=r
 | [],[],_=>rfl
 | a::l,b::r,h=>by
  have h':(Nat.beq a.toNat b.toNat&&AXC l r)=true:=h;rw[U8] at h';rw[lX.1 (T9 h'.1),AJ3 h'.2]
 | [],_::_,h=>by cases h
 | _::_,[],h=>by cases h
def AX1(a b:A0):Bool:=match a,b with
 | .string s,.string t=>AXC (bl s) (bl t)
 | .nilIface,.nilIface=>true
 | a,b=>AUI a b
theorem AJt{a b:A0}(h:AX1 a b=true):a=b:=by
 unfold AX1 at h;split at h
 ·rename_i s t;have:=AJ3 h;rw[←A3R s,←A3R t,this]
 ·rfl
 ·exact ABQ h
def A2L:List A0→List A0→Bool
 | [],[]=>true
 | a::l,b::r=>AX1 a b&&A2L l r
 | _,_=>false
theorem aU:∀ {l r:List A0},A2L l r=true→l=r
 | [],[],_=>rfl
 | a::l,b::r,h=>by
  have h':(AX1 a b&&A2L l r)=true:=h;rw[U8] at h';rw[AJt h'.1,aU h'.2]
 | [],_::_,h=>by cases h
 | _::_,[],h=>by cases h
structure E0 where
 g:FuncId
 a:List A0
 v:A0
def RB(es:List E0)(g:FuncId)(a:List A0):Option A0:=match es with
 | []=>none
 | e::es=>bif Nat.beq e.g g&&A2L e.a a then some e.v else RB es g a
theorem ZS{g:FuncId}{a:List A0}{v:A0}:∀ {es:List E0},RB es g a=some v→∃e∈es,e.g=g∧e.a=a∧e.v=v
 | [],h=>by cases h
 | e::es,h=>by
  have h':(bif Nat.beq e.g g&&A2L e.a a then some e.v else RB es g a)=some v:=h;cases hc:Nat.beq e.g g&&A2L e.a a with
  | true =>
   rw[hc,cond_true] at h';rw[U8] at hc;cases h';exact⟨e,Ct,T9 hc.1,aU hc.2,rfl⟩
  | false =>
   rw[hc,cond_false] at h';obtain⟨e',h1,h2⟩:=ZS h';grind
def ASZ(l:List A0):Bool:=l.all (Og 0)
def E0.runs(A7:Call)(e:E0):Bool:=match A7 e.g e.a (uc [] 16) with
 | .val v h=>AUN v e.v&&(match h.log with | []=>true | _=>false)&&Og 0 e.v&&ASZ e.a
 | _=>false
where AUN (a b:A0):Bool:=match a,b with
 | .tuple ⟨x⟩,.tuple ⟨y⟩=>A2L x y
 | a,b=>AX1 a b
theorem A2Y{a b:A0}(h:E0.runs.AUN a b=true):a=b:=by
 unfold E0.runs.AUN at h;split at h
 ·rw[aU h]
 ·exact AJt h
theorem AK9(hc:S9 P gs A7)(hgs:∀x∈gs,x<16){es:List E0}(hr:es.all (E0.runs A7)=true){g:FuncId}{a:List A0}{v:A0}(h:RB es g a=some v)(H:Hp):AY P gs g a H (.val v H):=by
 obtain⟨e,he,rfl,rfl,rfl⟩:=ZS h;have hk:=Cc.1 hr e he;unfold E0.runs at hk;split at hk
 · rename_i v h1 hv;rw[U8,U8,U8] at hk;obtain⟨⟨⟨k1,k2⟩,k3⟩,k4⟩:=hk;have hl:h1.log=[]:=by
    grind
   have hat:=HJ.1 hc e.g e.a (uc [] 16);rw[hv,A2Y k1] at hat;exact AZk hat hgs hl k3 fun v hv=>Cc.1 k4 v hv
 ·cases hk
structure E1 where
 g:FuncId
 vs:List A0
 e:TypeId
 cl:Bool
 m:Nat
 k:Nat
 rest:List A0
 v:A0
variable {es:List E1}
def E1.is(x:E1)(g:FuncId)(vs:List A0)(e:TypeId)(cl:Bool)(m k:Nat)(rest:List A0):Bool:=Nat.beq x.g g&&A2L x.vs vs&&Nat.beq x.e e&&AOJ x.cl cl&&Nat.beq x.m m&&Nat.beq x.k k&&A2L x.rest rest
def Uz(es:List E1)(g:FuncId)(vs:List A0)(e:TypeId)(cl:Bool)(m k:Nat)(rest:List A0):Option A0:=match es with
 | []=>none
 | x::es=>bif x.is g vs e cl m k rest then some x.v else Uz es g vs e cl m k rest
theorem ma{g:FuncId}{vs:List A0}{e:TypeId}{cl:Bool}{m k:Nat}{rest:List A0}{v:A0}:∀ {es:List E1},Uz es g vs e cl m k rest=some v→(⟨g,vs,e,cl,m,k,rest,v⟩:E1)∈es
 | [],h=>by cases h
 | x::es,h=>by
  have h':(bif x.is g vs e cl m k rest then some x.v else Uz es g vs e cl m k rest)=some v:=h;cases hc:x.is g vs e cl m k rest with
  | true =>
   rw[hc,cond_true] at h';unfold E1.is at hc;simp only[U8] at hc;obtain⟨⟨⟨⟨⟨⟨h1,h2⟩,h3⟩,h4⟩,h5⟩,h6⟩,h7⟩:=hc;cases h';rw[←T9 h1,←aU h2,←T9 h3,←A0Y h4,←T9 h5,←T9 h6,←aU h7];exact Ct
  | false =>
   rw[hc,cond_false] at h';exact EM _ (ma h')
def E1.runs(A7:Call)(x:E1):Bool:=match A7 x.g (F8 16 0 x.m x.k::x.rest) (uc [⟨16,x.vs,x.e,x.cl,false⟩] 17) with
 | .val v h=>E0.runs.AUN v x.v&&(match h.log with | []=>true | _=>false)&&Og 0 x.v&&ASZ x.vs&&ASZ x.rest
 | _=>false
def AIN(es:List E1)(g:FuncId)(args:List A0)(h:Hp):Option N3:=match args with
 | .slice (some ⟨b,o,none⟩) m k::rest=>bif Nat.beq o 0 then(match h.at b with
  | some (.row c n e cl false)=>(match V6 c 0 n [] with
   | some vs=>(match Uz es g vs e cl m k rest with | some v=>some (N3.val v h) | none=>none)
   | none=>none)
  | _=>none) else none
 | _=>none
theorem ATS(hcall:S9 P gs A7)(hgs:∀x∈gs,x<16)(hr:es.all (E1.runs A7)=true){g:FuncId}(ho:AIN es g args h=some r):AY P gs g args h r:=by
 unfold AIN at ho;split at ho
 · rename_i b o m k rest;cases hc:Nat.beq o 0 with
   | false=>grind
   | true =>
    rw[hc,cond_true] at ho;have:=T9 hc;subst this;split at ho
    · rename_i c n e cl hat;split at ho
      · rename_i vs hvs;split at ho
        · rename_i v hv;cases ho;have hk:=Cc.1 hr _ (ma hv);obtain⟨hl,hj,_⟩:=nW c 0 n [] vs hvs;have hl:vs.length=n:=by simpa using hl
          unfold E1.runs at hk;split at hk
          · rename_i v1 h1 hv1;simp only[U8] at hk;obtain⟨⟨⟨⟨k1,k2⟩,k3⟩,k4⟩,k5⟩:=hk;have hlog:h1.log=[]:=by
             grind
            have hA:=HJ.1 hcall g (F8 16 0 m k::rest) (uc [⟨16,vs,e,cl,false⟩] 17);rw[hv1,A2Y k1] at hA;refine AZd hA hgs hlog k3 (fun v hv=>Cc.1 k4 v hv) (fun v hv=>Cc.1 k5 v hv) (by rw[hl];exact hat) fun j hj'=>?_;grind
          ·cases hk
        ·cases ho
      ·cases ho
    ·cases ho
 ·cases ho
theorem AFj{g:FuncId}{m k:Nat}{vs rest:List A0}{e:TypeId}{cl:Bool}{v:A0}(hat:h.at b=some (.row c vs.length e cl false))(hc:∀j,j<vs.length→c.get (path j)=vs[j]?)(hl:Uz es g vs e cl m k rest=some v):AIN es g (F8 b 0 m k::rest) h=some (.val v h):=by
 have h1:V6 c 0 vs.length []=some vs:=FO fun j hj=>by rw[Ag];exact hc j hj
 show(match h.at b with
  | some (.row c n e cl false)=>(match V6 c 0 n [] with
   | some vs=>(match Uz es g vs e cl m k rest with | some v=>some (N3.val v h) | none=>none)
   | none=>none)
  | _=>none)=some (N3.val v h)
 grind
def vD:List (Nat×Nat):=(List.range 8).flatMap fun i=>(List.range 4).map fun j=>(i,j)
theorem Pk(x:Nat×Nat):∃y∈vD,valueOf x=valueOf y:=by
 refine⟨(x.1%8,x.2%4),A1r.2 ⟨x.1%8,pR.2 (ZI _ (by decide)),FY.2 ⟨x.2%4,pR.2 (ZI _ (by decide)),rfl⟩⟩,?_⟩;show(W2 x.1,cj x.2)=(W2 (x.1%8),cj (x.2%4))
 unfold W2 cj;rw[Nat.mod_mod,Nat.mod_mod]
noncomputable abbrev AUM:A0:=.string (O2 [32])
def AMc(l a b:SH)(f:Bool):E0:=⟨216,[.string (O2 l),AUM],.tuple ⟨[.string (O2 a),.string (O2 b),.bool f]⟩⟩
def APO(y:Nat×Nat):E0:=AMc (JI (valueOf y)) iO (AEl (valueOf y)) true
def AOq(y:Nat×Nat):E0:=AMc (AEl (valueOf y)) (bl (valueOf y).1) (bl (valueOf y).2) true
def VZ:List E0:=[⟨189,[iN 4],.string (O2 [52])⟩,⟨214,[nU,yl],.tuple ⟨[.string (O2 [52]),.bool true]⟩⟩,⟨215,[.string (O2 [52])],.tuple ⟨[iN 4,.nilIface]⟩⟩,⟨281,[A2a,rI 65533],.bool true⟩,⟨281,[A2a,rI 10],.bool false⟩,⟨210,[A2a],.tuple ⟨[.agg ⟨Tv 256 (.bool false)⟩,.bool false]⟩⟩,⟨485,[.agg ⟨BT⟩],.tuple ⟨[.agg ⟨BT⟩,.bool true]⟩⟩,AMc [] [] [] false]++vD.map APO++vD.map AOq
def A61(vs:List A0)(s:SH):E1:=⟨188,vs,9,true,vs.length,vs.length,[AUM],.string (O2 s)⟩
def AFy(y:Nat×Nat):E1:=A61 [.string (O2 [118,97,108]),.string (valueOf y).1,.string (valueOf y).2] (JI (valueOf y))
def AGa(n m:Nat):E1:=⟨89,J8 (l8 n m),3,false,m,C4 1 m,[],.tuple ⟨[]⟩⟩
def AJq:List (Nat×Nat):=[1,2,3].flatMap fun n=>(List.range 25).map fun m=>(n,m+5)
def AOe:List E1:=A61 [.string (O2 [115,101,116,116,105,110,103,115]),.string (O2 [52])] HN::vD.map AFy
def ANN:List E1:=AJq.map fun p=>AGa p.1 p.2
def Oi:List E1:=AOe++ANN
def AZN(e:E0):Bool:=match RB VZ e.g e.a with|some v=>E0.runs.AUN v e.v|none=>false
def AZQ(x:E1):Bool:=match Uz Oi x.g x.vs x.e x.cl x.m x.k x.rest with|some v=>E0.runs.AUN v x.v|none=>false
def AOy:VZ.all AZN=true:=by kernel_rfl
def APM:Oi.all AZQ=true:=by kernel_rfl
theorem Hg{e:E0}(h:e∈VZ):RB VZ e.g e.a=some e.v:=by
 have:=Cc.1 AOy e h;unfold AZN at this;split at this
 ·rename_i v hv;rw[hv,A2Y this]
 ·cases this
theorem A1G{x:E1}(h:x∈Oi):Uz Oi x.g x.vs x.e x.cl x.m x.k x.rest=some x.v:=by
 have:=Cc.1 APM x h;unfold AZQ at this;split at this
 ·rename_i v hv;rw[hv,A2Y this]
 ·cases this
def AGQ:VZ.all (E0.runs (gm Proofs.Tryz.prog Ap 100))=true:=by kernel_rfl
def AH8:AOe.all (E1.runs (gm Proofs.Tryz.prog Ap 100))=true:=by kernel_rfl
def AGC:ANN.all (E1.runs (gm Proofs.Tryz.prog Ap 100))=true:=by kernel_rfl
def AFD:VZ.all (fun e=>Mn.any (Nat.beq e.g)&&!Nat.beq e.g 188&&!Nat.beq e.g 89)=true:=by kernel_rfl
def AOj:Oi.all (fun e=>Mn.any (Nat.beq e.g))=true:=by kernel_rfl
def AQM:List E0:=[⟨189,[iN 4],.string (O2 [52])⟩,⟨214,[nU,yl],.tuple ⟨[.string (O2 [52]),.bool true]⟩⟩,⟨215,[.string (O2 [52])],.tuple ⟨[iN 4,.nilIface]⟩⟩,⟨281,[A2a,rI 65533],.bool true⟩,⟨281,[A2a,rI 10],.bool false⟩,⟨210,[A2a],.tuple ⟨[.agg ⟨Tv 256 (.bool false)⟩,.bool false]⟩⟩,⟨485,[.agg ⟨BT⟩],.tuple ⟨[.agg ⟨BT⟩,.bool true]⟩⟩,AMc [] [] [] false]
theorem A0O:VZ=AQM++vD.map APO++vD.map AOq:=rfl
theorem A5b{e:E0}(h:e∈AQM):e∈VZ:=by rw[A0O];exact rQ _ (rQ _ h)
theorem AZs(h:y∈vD):APO y∈VZ:=by rw[A0O];exact rQ _ (A2C _ (ADg h))
theorem AYR(h:y∈vD):AOq y∈VZ:=by rw[A0O];exact A2C _ (ADg h)
theorem A23:Oi=(A61 [.string (O2 [115,101,116,116,105,110,103,115]),.string (O2 [52])] HN::vD.map AFy)++AJq.map fun p=>AGa p.1 p.2:=rfl
theorem AWX:A61 [.string (O2 [115,101,116,116,105,110,103,115]),.string (O2 [52])] HN∈Oi:=by rw[A23];exact rQ _ Ct
theorem AY6(h:y∈vD):AFy y∈Oi:=by rw[A23];exact rQ _ (EM _ (ADg h))
theorem AYW{n m:Nat}(h1:1≤n)(h2:n≤3)(h3:5≤m)(h4:m≤29):AGa n m∈Oi:=by
 have hg:(n,m)∈AJq:=by
  refine A1r.2 ⟨n,?_,FY.2 ⟨m-5,pR.2 (by omega),?_⟩⟩
  ·simp only[m8,Lg,or_false];omega
  ·show(n,m-5+5)=_;rw[Nat.sub_add_cancel h3]
 rw[A23];exact A2C _ (FY.2 ⟨(n,m),hg,rfl⟩)
theorem AHc:Oi.all (E1.runs (gm Proofs.Tryz.prog Ap 100))=true:=by unfold Oi;rw[List.all_append,AH8,AGC];rfl
attribute [local irreducible] RB Uz AIN VZ Oi AOe ANN
open Classical in
def AWx(g:FuncId)(args:List A0)(H:Hp):Option N3:=if g=4∧args=[]∧AHQ H∧lM H∧16≤H.A6 then some (.val (.bool true) H) else none
def AIy(g:FuncId)(args:List A0)(H:Hp):Option N3:=match AWx g args H with
 | some r=>some r
 | none=>match RB VZ g args with
  | some v=>some (.val v H)
  | none=>AIN Oi g args H
theorem ABJ{g:FuncId}(h:Nat.beq g 4=false):AWx g args H=none:=by unfold AWx;rw[if_neg];rintro⟨rfl,_⟩;cases h
theorem jj{g:FuncId}{v:A0}(h:Nat.beq g 4=false)(hl:RB VZ g args=some v):AIy g args H=some (.val v H):=by unfold AIy;rw[ABJ h,hl]
theorem AR4{g:FuncId}(h:Nat.beq g 4=false)(hg:Nat.beq g 188=true∨Nat.beq g 89=true)(hl:AIN Oi g args H=some r):AIy g args H=some r:=by
 unfold AIy;rw[ABJ h];cases h0:RB VZ g args with
 | some v =>
  obtain⟨e,he,rfl,_⟩:=ZS h0;have:=Cc.1 AFD e he;simp only[U8,Bool.not_eq_true'] at this;rcases hg with hg|hg
  ·rw[this.1.2] at hg;cases hg
  ·rw[this.2] at hg;cases hg
 | none=>exact hl
theorem AJG(g:FuncId)(args:List A0)(H:Hp)(h:Mn.any (Nat.beq g)=false):AIy g args H=none:=by
 have hs:Nat.beq g 4=false:=by
  cases hh:Nat.beq g 4 with
  | false=>rfl
  | true=>rw[T9 hh] at h;cases h
 unfold AIy;rw[ABJ hs];cases h0:RB VZ g args with
 | some v =>
  obtain⟨e,he,rfl,_⟩:=ZS h0;have:=Cc.1 AFD e he;simp only[U8] at this;rw[h] at this;cases this.1.1
 | none =>
  show AIN Oi g args H=none;have key:∀r,AIN Oi g args H=some r→False:=fun r ho=>by
   unfold AIN at ho;split at ho
   · rename_i b o m k rest;cases hc:Nat.beq o 0 with
     | false=>rw[hc,cond_false] at ho;cases ho
     | true =>
      rw[hc,cond_true] at ho;split at ho
      · split at ho
        · split at ho
          ·rename_i v hv;have h2:Mn.any (Nat.beq g)=true:=Cc.1 AOj _ (ma hv);rw[h] at h2;cases h2
          ·cases ho
        ·cases ho
      ·cases ho
   ·cases ho
  cases ho:AIN Oi g args H with
  | none=>rfl
  | some r=>exact(key r ho).elim
theorem APf{vs:List A0}{n:Nat}{e:TypeId}{cl:Bool}{o:N2}(ho:o=B6 vs n e cl):∃c,o=.row c n e cl false∧∀j,j<vs.length→c.get (path j)=vs[j]?:=⟨_,ho,fun j hj=>by rw[V3,if_pos ⟨BB _,by omega⟩,EC]⟩
theorem AOP{g:FuncId}{vs:List A0}{e:TypeId}{cl:Bool}{m k:Nat}{rest:List A0}{v:A0}(hat:H.at b=some (B6 vs vs.length e cl))(hl:Uz Oi g vs e cl m k rest=some v):AIN Oi g (F8 b 0 m k::rest) H=some (.val v H):=by obtain⟨c,h1,h2⟩:=APf rfl;rw[h1] at hat;exact AFj hat h2 hl
theorem KZ:AVm AIy where
 none_:=AJG
 AVN H h1 h2 h3:=by unfold AIy AWx;rw[if_pos ⟨rfl,rfl,h1,h2,h3⟩]
 join h b vs s hj hat:=by
  refine AR4 rfl (.inl rfl) (AOP hat ?_);rcases hj with⟨rfl,rfl⟩|⟨x,rfl,rfl⟩
  ·exact A1G (x:=A61 [.string (O2 [115,101,116,116,105,110,103,115]),.string (O2 [52])] HN) AWX
  ·obtain⟨y,hy,e⟩:=Pk x;rw[e];exact A1G (x:=AFy y) (AY6 hy)
 cut H l a b f hc:=by
  refine jj rfl ?_;rcases hc with⟨x,rfl,rfl,rfl,rfl⟩|⟨x,rfl,rfl,rfl,rfl⟩|⟨rfl,rfl,rfl,rfl⟩
  ·obtain⟨y,hy,e⟩:=Pk x;rw[e];exact Hg (e:=APO y) (AZs hy)
  ·obtain⟨y,hy,e⟩:=Pk x;rw[e];exact Hg (e:=AOq y) (AYR hy)
  ·exact Hg (e:=AMc [] [] [] false) (A5b (List.Mem.tail _ (List.Mem.tail _ (List.Mem.tail _ (List.Mem.tail _ (List.Mem.tail _ (List.Mem.tail _ (List.Mem.tail _ (List.Mem.head _)))))))))
 AXd H:=jj rfl (Hg (e:=⟨189,[iN 4],.string (O2 [52])⟩) (A5b (List.Mem.head _)))
 AWM H:=jj rfl (Hg (e:=⟨214,[nU,yl],.tuple ⟨[.string (O2 [52]),.bool true]⟩⟩) (A5b (List.Mem.tail _ (List.Mem.head _))))
 AWd H:=jj rfl (Hg (e:=⟨215,[.string (O2 [52])],.tuple ⟨[iN 4,.nilIface]⟩⟩) (A5b (List.Mem.tail _ (List.Mem.tail _ (List.Mem.head _)))))
 AVv H:=jj rfl (Hg (e:=⟨281,[A2a,rI 65533],.bool true⟩) (A5b (List.Mem.tail _ (List.Mem.tail _ (List.Mem.tail _ (List.Mem.head _))))))
 AXm H:=jj rfl (Hg (e:=⟨281,[A2a,rI 10],.bool false⟩) (A5b (List.Mem.tail _ (List.Mem.tail _ (List.Mem.tail _ (List.Mem.tail _ (List.Mem.head _)))))))
 AQQ H:=jj rfl (Hg (e:=⟨210,[A2a],.tuple ⟨[.agg ⟨Tv 256 (.bool false)⟩,.bool false]⟩⟩) (A5b (List.Mem.tail _ (List.Mem.tail _ (List.Mem.tail _ (List.Mem.tail _ (List.Mem.tail _ (List.Mem.head _))))))))
 ARD H:=jj rfl (Hg (e:=⟨485,[.agg ⟨BT⟩],.tuple ⟨[.agg ⟨BT⟩,.bool true]⟩⟩) (A5b (List.Mem.tail _ (List.Mem.tail _ (List.Mem.tail _ (List.Mem.tail _ (List.Mem.tail _ (List.Mem.tail _ (List.Mem.head _)))))))))
 sort h bk n m ho h1 h2 h3 h4:=by refine AR4 rfl (.inr rfl) ?_;obtain⟨c,hat,hc⟩:=ho;refine AFj hat hc (A1G (x:=AGa n m) (AYW h1 h2 h3 h4))
def AGg(n:Nat):List A0:=(List.range n).map fun i=>.int .u8 (.ofNat (7*i%256))
def tQ:A9B:=⟨20,[(.agg ⟨[(F8 379 0 180 (C4 1 180)),(.bool false),(iN 180),(iN 180),(F8 386 0 2 (C4 5 2)),(iN 180),(iN 1)]⟩)],387,[⟨379,(AGg 180),5,false,false⟩,⟨386,[(iN 3),(iN 0),(iN 4),(bN 9),B7,(iN 1),(iN 4),(iN 176),(bN 0),B7],159,false,false⟩],(.tuple ⟨[(.agg ⟨[(iN 180),(iN 1),(.bool false),(iN 180),(iN 180),(F8 386 0 2 (C4 5 2)),(F8 2604 0 1 (C4 1 1)),(F8 2605 0 0 0)]⟩),(iN 0)]⟩),2606,[⟨2604,[(iN 0)],3,false,false⟩,⟨2605,[],3,true,false⟩]⟩
def A1x:A9B:=⟨9,[(.agg ⟨[(iN 180),(F8 5925 0 7 (C4 1 7)),(F8 5902 0 7 7),(iN 100000),(F8 5903 0 7 7)]⟩),(.agg ⟨[(iN 1),(iN 1),(iN 2),(iN 3),(iN 4),(F8 5897 0 1 (C4 1 1)),(F8 5899 0 1 (C4 1 1)),B7]⟩),(F8 379 0 180 (C4 1 180)),(.agg ⟨[(iN 4),B7,B7]⟩)],5934,[⟨379,(AGg 180),5,false,false⟩,⟨5897,[(iN 5)],3,false,false⟩,⟨5899,[(iN 6)],3,false,false⟩,⟨5902,List.replicate 7 (iN 0),3,true,false⟩,⟨5903,List.replicate 7 (.bool false),4,true,false⟩,⟨5905,List.replicate 180 (bN 255),5,true,false⟩,⟨5908,List.replicate 180 (bN 255),5,true,false⟩,⟨5911,List.replicate 180 (bN 255),5,true,false⟩,⟨5914,List.replicate 180 (bN 255),5,true,false⟩,⟨5917,List.replicate 180 (bN 255),5,true,false⟩,⟨5920,List.replicate 180 (bN 255),5,true,false⟩,⟨5923,List.replicate 180 (bN 255),5,true,false⟩,⟨5925,[(F8 5905 0 180 180),(F8 5908 0 180 180),(F8 5911 0 180 180),(F8 5914 0 180 180),(F8 5917 0 180 180),(F8 5920 0 180 180),(F8 5923 0 180 180)],24,false,false⟩],(.tuple ⟨[(.agg ⟨[(iN 180),(F8 7309 0 7 (C4 1 7)),(F8 7278 0 7 (C4 1 7)),(iN 100000),(F8 7280 0 7 (C4 1 7)),(iN 1),(iN 1),(iN 2),(iN 3),(iN 4),(F8 5897 0 1 (C4 1 1)),(F8 5899 0 1 (C4 1 1)),B7,(iN 0),(iN 0),(iN 0),(iN 0),(.bool false),(iN 0),(iN 0),B7,B7,B7,B7,(.bool false),(.bool false),(.bool false)]++List.replicate 9 (iN 0)⟩),(iN 0)]⟩),7327,[⟨7278,List.replicate 7 (iN 0),3,false,false⟩,⟨7280,List.replicate 7 (.bool false),4,false,false⟩,⟨7283,(AGg 180),5,false,false⟩,⟨7287,[(bN 0),(bN 255),(bN 0),(bN 255),(bN 0),(bN 255),(bN 1),(bN 254),(bN 0),(bN 255),(bN 0),(bN 255),(bN 0),(bN 255),(bN 0),(bN 255),(bN 0),(bN 255),(bN 0),(bN 255),(bN 0),(bN 255),(bN 0),(bN 255),(bN 0),(bN 255),(bN 0),(bN 255),(bN 0),(bN 255),(bN 0),(bN 255),(bN 4),(bN 251),(bN 0),(bN 255),(bN 4),(bN 251)]++List.replicate 142 (bN 255),5,false,false⟩,⟨7291,List.replicate 180 (bN 255),5,false,false⟩,⟨7295,[(bN 115),(bN 101),(bN 116),(bN 116),(bN 105),(bN 110),(bN 103),(bN 115),(bN 32),(bN 52),(bN 10)]++List.replicate 169 (bN 255),5,false,false⟩,⟨7299,List.replicate 180 (bN 255),5,false,false⟩,⟨7303,List.replicate 180 (bN 255),5,false,false⟩,⟨7307,List.replicate 180 (bN 255),5,false,false⟩,⟨7309,[(F8 7283 0 180 (C4 1 180)),(F8 7287 0 180 (C4 1 180)),(F8 7291 0 180 (C4 1 180)),(F8 7295 0 180 (C4 1 180)),(F8 7299 0 180 (C4 1 180)),(F8 7303 0 180 (C4 1 180)),(F8 7307 0 180 (C4 1 180))],24,false,false⟩]⟩
def ACf:A9B:=⟨5,[(.agg ⟨[(F8 16 0 1 1),(bN 0),(bN 0),(bN 0),(bN 0),B7,(.int .u16 (.ofNat 0)),B7,B7,B7]⟩)],17,[⟨16,[(bN 0),(bN 3),(bN 9)],76,true,false⟩],(.agg ⟨[(iN 180),(F8 7309 0 7 (C4 1 7)),(F8 7278 0 7 (C4 1 7)),(iN 100000),(F8 7280 0 7 (C4 1 7)),(iN 1),(iN 1),(iN 2),(iN 3),(iN 4),(F8 5897 0 1 (C4 1 1)),(F8 5899 0 1 (C4 1 1)),B7,(iN 0),(iN 0),(iN 0),(iN 0),(.bool false),(iN 0),(iN 0),B7,B7,B7,B7,(.bool false),(.bool false),(.bool false)]++List.replicate 9 (iN 0)++[(iN 5),(iN 4),(iN 180),(iN 1),(.bool false),(iN 180),(iN 180),(F8 386 0 2 (C4 5 2)),(F8 2604 0 1 (C4 1 1)),(F8 2605 0 0 0),(F8 7329 0 0 0),(iN 4),(F8 379 0 180 (C4 1 180)),(iN 4),B7,B7,(iN 5),(F8 8424 0 180 (C4 1 180)),(iN 5),B7,B7,(iN 0),(iN 1),(iN 373),(iN 10),(iN 39)]⟩),8425,[⟨379,(AGg 180),5,false,false⟩,⟨386,[(iN 3),(iN 0),(iN 4),(bN 9),B7,(iN 1),(iN 4),(iN 176),(bN 0),B7],159,false,false⟩,⟨2604,[(iN 0)],3,false,false⟩,⟨2605,[],3,true,false⟩,⟨5897,[(iN 5)],3,false,false⟩,⟨5899,[(iN 6)],3,false,false⟩,⟨7278,List.replicate 7 (iN 0),3,false,false⟩,⟨7280,List.replicate 7 (.bool false),4,false,false⟩,⟨7283,(AGg 180),5,false,false⟩,⟨7287,[(bN 0),(bN 255),(bN 0),(bN 255),(bN 0),(bN 255),(bN 1),(bN 254),(bN 0),(bN 255),(bN 0),(bN 255),(bN 0),(bN 255),(bN 0),(bN 255),(bN 0),(bN 255),(bN 0),(bN 255),(bN 0),(bN 255),(bN 0),(bN 255),(bN 0),(bN 255),(bN 0),(bN 255),(bN 0),(bN 255),(bN 0),(bN 255),(bN 4),(bN 251),(bN 0),(bN 255),(bN 4),(bN 251)]++List.replicate 142 (bN 255),5,false,false⟩,⟨7291,List.replicate 180 (bN 255),5,false,false⟩,⟨7295,[(bN 115),(bN 101),(bN 116),(bN 116),(bN 105),(bN 110),(bN 103),(bN 115),(bN 32),(bN 52),(bN 10)]++List.replicate 169 (bN 255),5,false,false⟩,⟨7299,List.replicate 180 (bN 255),5,false,false⟩,⟨7303,List.replicate 180 (bN 255),5,false,false⟩,⟨7307,List.replicate 180 (bN 255),5,false,false⟩,⟨7309,[(F8 7283 0 180 (C4 1 180)),(F8 7287 0 180 (C4 1 180)),(F8 7291 0 180 (C4 1 180)),(F8 7295 0 180 (C4 1 180)),(F8 7299 0 180 (C4 1 180)),(F8 7303 0 180 (C4 1 180)),(F8 7307 0 180 (C4 1 180))],24,false,false⟩,⟨7329,[],143,true,false⟩,⟨8424,[(bN 9),(bN 9),(bN 9),(bN 9),(bN 28),(bN 35),(bN 42),(bN 49),(bN 56),(bN 63),(bN 70),(bN 77),(bN 84),(bN 91),(bN 98),(bN 105),(bN 112),(bN 119),(bN 126),(bN 133),(bN 140),(bN 147),(bN 154),(bN 161),(bN 168),(bN 175),(bN 182),(bN 189),(bN 196),(bN 203),(bN 210),(bN 217),(bN 224),(bN 231),(bN 238),(bN 245),(bN 252),(bN 3),(bN 10),(bN 17),(bN 24),(bN 31),(bN 38),(bN 45),(bN 52),(bN 59),(bN 66),(bN 73),(bN 80),(bN 87),(bN 94),(bN 101),(bN 108),(bN 115),(bN 122),(bN 129),(bN 136),(bN 143),(bN 150),(bN 157),(bN 164),(bN 171),(bN 178),(bN 185),(bN 192),(bN 199),(bN 206),(bN 213),(bN 220),(bN 227),(bN 234),(bN 241),(bN 248),(bN 255),(bN 6),(bN 13),(bN 20),(bN 27),(bN 34),(bN 41),(bN 48),(bN 55),(bN 62),(bN 69),(bN 76),(bN 83),(bN 90),(bN 97),(bN 104),(bN 111),(bN 118),(bN 125),(bN 132),(bN 139),(bN 146),(bN 153),(bN 160),(bN 167),(bN 174),(bN 181),(bN 188),(bN 195),(bN 202),(bN 209),(bN 216),(bN 223),(bN 230),(bN 237),(bN 244),(bN 251),(bN 2),(bN 9),(bN 16),(bN 23),(bN 30),(bN 37),(bN 44),(bN 51),(bN 58),(bN 65),(bN 72),(bN 79),(bN 86),(bN 93),(bN 100),(bN 107),(bN 114),(bN 121),(bN 128),(bN 135),(bN 142),(bN 149),(bN 156),(bN 163),(bN 170),(bN 177),(bN 184),(bN 191),(bN 198),(bN 205),(bN 212),(bN 219),(bN 226),(bN 233),(bN 240),(bN 247),(bN 254),(bN 5),(bN 12),(bN 19),(bN 26),(bN 33),(bN 40),(bN 47),(bN 54),(bN 61),(bN 68),(bN 75),(bN 82),(bN 89),(bN 96),(bN 103),(bN 110),(bN 117),(bN 124),(bN 131),(bN 138),(bN 145),(bN 152),(bN 159),(bN 166),(bN 173),(bN 180),(bN 187),(bN 194),(bN 201),(bN 208),(bN 215),(bN 222),(bN 229)],5,false,false⟩]⟩
def ALI:A9B:=⟨16,[(.agg ⟨[(iN 180),(F8 7309 0 7 (C4 1 7)),(F8 7278 0 7 (C4 1 7)),(iN 100000),(F8 7280 0 7 (C4 1 7)),(iN 1),(iN 1),(iN 2),(iN 3),(iN 4),(F8 5897 0 1 (C4 1 1)),(F8 5899 0 1 (C4 1 1)),B7,(iN 0),(iN 0),(iN 0),(iN 0),(.bool false),(iN 0),(iN 0),B7,B7,B7,B7,(.bool false),(.bool true),(.bool false)]++List.replicate 9 (iN 0)⟩),(.agg ⟨[(iN 5),(iN 4),(iN 180),(iN 1),(.bool false),(iN 180),(iN 180),(F8 386 0 2 (C4 5 2)),(F8 2604 0 1 (C4 1 1)),(F8 2605 0 0 0),(F8 7329 0 0 0)]⟩)],8773,[⟨5,List.replicate 128 (bN 240)++List.replicate 66 (bN 241)++List.replicate 30 (bN 2)++[(bN 19)]++List.replicate 12 (bN 3)++[(bN 35),(bN 3),(bN 3),(bN 52),(bN 4),(bN 4),(bN 4),(bN 68)]++List.replicate 11 (bN 241),1000000000,true,true⟩,⟨386,[(iN 3),(iN 0),(iN 4),(bN 9),B7,(iN 1),(iN 4),(iN 176),(bN 0),B7],159,false,false⟩,⟨2604,[(iN 0)],3,false,false⟩,⟨2605,[],3,true,false⟩,⟨5897,[(iN 5)],3,false,false⟩,⟨5899,[(iN 6)],3,false,false⟩,⟨7278,List.replicate 7 (iN 0),3,false,false⟩,⟨7280,List.replicate 7 (.bool false),4,false,false⟩,⟨7283,(AGg 180),5,false,false⟩,⟨7287,[(bN 0),(bN 255),(bN 0),(bN 255),(bN 0),(bN 255),(bN 1),(bN 254),(bN 0),(bN 255),(bN 0),(bN 255),(bN 0),(bN 255),(bN 0),(bN 255),(bN 0),(bN 255),(bN 0),(bN 255),(bN 0),(bN 255),(bN 0),(bN 255),(bN 0),(bN 255),(bN 0),(bN 255),(bN 0),(bN 255),(bN 0),(bN 255),(bN 4),(bN 251),(bN 0),(bN 255),(bN 4),(bN 251)]++List.replicate 142 (bN 255),5,false,false⟩,⟨7291,List.replicate 180 (bN 255),5,false,false⟩,⟨7295,[(bN 115),(bN 101),(bN 116),(bN 116),(bN 105),(bN 110),(bN 103),(bN 115),(bN 32),(bN 52),(bN 10)]++List.replicate 169 (bN 255),5,false,false⟩,⟨7299,List.replicate 180 (bN 255),5,false,false⟩,⟨7303,List.replicate 180 (bN 255),5,false,false⟩,⟨7307,List.replicate 180 (bN 255),5,false,false⟩,⟨7309,[(F8 7283 0 180 (C4 1 180)),(F8 7287 0 180 (C4 1 180)),(F8 7291 0 180 (C4 1 180)),(F8 7295 0 180 (C4 1 180)),(F8 7299 0 180 (C4 1 180)),(F8 7303 0 180 (C4 1 180)),(F8 7307 0 180 (C4 1 180))],24,false,false⟩,⟨7329,[],143,true,false⟩],(.tuple ⟨[(.agg ⟨[(iN 180),(F8 7309 0 7 (C4 1 7)),(F8 7278 0 7 (C4 1 7)),(iN 100000),(F8 7280 0 7 (C4 1 7)),(iN 1),(iN 1),(iN 2),(iN 3),(iN 4),(F8 5897 0 1 (C4 1 1)),(F8 5899 0 1 (C4 1 1)),B7,(iN 5),(iN 4),(iN 180),(iN 1),(.bool false),(iN 180),(iN 180),(F8 386 0 2 (C4 5 2)),(F8 2604 0 1 (C4 1 1)),(F8 2605 0 0 0),(F8 7329 0 0 0),(.bool true),(.bool false),(.bool true),(iN 1)]++List.replicate 6 (iN 0)++[(iN 5),(iN 4)]⟩),(iN 0)]⟩),12982,[]⟩
end Abs
end Go
end
