/-
Symbolic runs of the functions that the law reaches, part 02.
Conditions: none.
-/
import Derived.Test.YtekknahndoonjaaGreatDoorRun01
import Derived.Test.YtekknahndoonjaaGreatDoorLit01
set_option linter.all false
set_option maxRecDepth 10000
set_option maxHeartbeats 2000000
noncomputable section
namespace Go
namespace Abs
variable {α:Type} {b c cap i id j lo m o x:Nat} {H0 X h:Hp} {f:Nat→A0} {g:Map} {dv ev v' w wv xv y:A0} {V args ds ws:List A0} {r:N3} {t:T A0} {ψ:Ex→T A0→Df→Hp→Prop} {k2:T A0→Df→Hp→N7} {e2:Nat→T A0→Df→Hp→N7} {l want xs ys:List Nat} {φ:Ex→T A0→Md→Hp→Prop} {rs:List CR} {A7:Call} {cd:C9} {R:T A0→Hp→Prop} {E:TypeId} {I:Nat→T A0→Hp→Prop} {df:Df}
section
theorem AML{l:List α}{x:α}(hx:l[i]?=some x):l.take (i+1)=l.take i++[x]:=by rw[AEQ,hx];rfl
def HW(h:Hp)(b m:Nat)(f:Nat→A0):Prop:=∃c e cl,h.at b=some (.row c m e cl false)∧∀k,k<m→c.get (path k)=some (f k)
theorem HW.K7{H:Hp}(hr:HW h b m f)(e:H.at b=h.at b):HW H b m f:=by obtain⟨c,e',cl,h1,h2⟩:=hr;exact⟨c,e',cl,by rw[e];exact h1,h2⟩
theorem HW.lt(hr:HW h b m f)(hw:Wf h):b<h.A6:=by obtain⟨c,e',cl,h1,h2⟩:=hr;exact hw.lt h1
theorem HW.congr{g:Nat→A0}(hr:HW h b m f)(hg:∀k,k<m→f k=g k):HW h b m g:=by obtain⟨c,e',cl,h1,h2⟩:=hr;exact⟨c,e',cl,h1,fun k hk=>by rw[h2 k hk,hg k hk]⟩
theorem Sv{c:T A0}{e:TypeId}{cl:Bool}(hc:∀k,k<m→c.get (path k)=some (f k))(k:Nat)(v:A0):HW (h.put b (some (.row (C7 [v] k c fun t=>t) m e cl false))) b m (fun j=>if j=k then v else f j):=by refine⟨_,e,cl,by rw[IJ,if_pos rfl],fun j hj=>?_⟩;rw[V3];grind
def AOF(n:Nat)(v:A0):Bool:=match v with
 | .pointer (some ⟨b,_,none⟩)=>Nat.blt b n
 | .slice (some ⟨b,_,none⟩) _ _=>Nat.blt b n
 | v=>j9 v
def AT7(n:Nat)(v:A0):Bool:=match v with
 | .agg a=>a.toList.all (AOF n)
 | .iface _ (.agg a)=>a.toList.all (AOF n)
 | v=>AOF n v
def Og(n:Nat)(v:A0):Bool:=match v with
 | .tuple a=>a.toList.all (AT7 n)
 | v=>AT7 n v
theorem F5.SX{n:Nat}{f:Map}{v:A0}(hp:AOF n v=true)(hg:∀b i,b<n→f b=some i→g b=some i)(h:F5 f v v'):F5 g v v':=by
 cases h with
 | ptr b o i h1=>exact .ptr b o i (hg b i (Nat.blt_eq.mp hp) h1)
 | slice b o l c i h1 hc hl=>exact .slice b o l c i (hg b i (Nat.blt_eq.mp hp) h1) hc hl
 | Z9 b o l c lb i o' c' h1 hc hlb hl hb ho hn=>exact .Z9 b o l c lb i o' c' (hg b i (Nat.blt_eq.mp hp) h1) hc hlb hl hb ho hn
 | bool b=>exact .bool b
 | int k n=>exact .int k n
 | string s=>exact .string s
 | nilPtr=>exact .nilPtr
 | AW l c=>exact .AW l c
 | IV=>exact .IV
 | nilFunc=>exact .nilFunc
 | nilIface=>exact .nilIface
 | top v=>cases hp
 | map b i h=>cases hp
 | func g a c a' c' ha hc va vc=>cases hp
 | iface t v v' h=>cases hp
 | agg a a' hs h=>cases hp
 | tuple a a' hs h=>cases hp
theorem ADl{p:A0→Bool}{a:Array A0}(h:a.toList.all p=true)(hi:i<a.size):p (a.getD i undef)=true:=by simp_all
theorem F5.OR{n:Nat}{f:Map}{v:A0}(hp:AT7 n v=true)(hg:∀b i,b<n→f b=some i→g b=some i)(h:F5 f v v'):F5 g v v':=by
 cases h with
 | agg a a' hs h=>exact .agg a a' hs fun i hi=>(h i hi).SX (ADl hp hi) hg
 | iface t v v' h =>
  cases h with
  | agg a a' hs h=>exact .iface t _ _ (.agg a a' hs fun i hi=>(h i hi).SX (ADl hp hi) hg)
  | _=>cases hp
 | tuple a a' hs h=>cases hp
 | ptr b o i h1=>exact F5.SX hp hg (.ptr b o i h1)
 | slice b o l c i h1 hc hl=>exact F5.SX hp hg (.slice b o l c i h1 hc hl)
 | Z9 b o l c lb i o' c' h1 hc hlb hl hb ho hn=>exact F5.SX hp hg (.Z9 b o l c lb i o' c' h1 hc hlb hl hb ho hn)
 | bool b=>exact .bool b
 | int k n=>exact .int k n
 | string s=>exact .string s
 | nilPtr=>exact .nilPtr
 | AW l c=>exact .AW l c
 | IV=>exact .IV
 | nilFunc=>exact .nilFunc
 | nilIface=>exact .nilIface
 | top v=>cases hp
 | map b i h=>cases hp
 | func g a c a' c' ha hc va vc=>cases hp
theorem F5.A68{n:Nat}{f:Map}{v:A0}(hp:Og n v=true)(hg:∀b i,b<n→f b=some i→g b=some i)(h:F5 f v v'):F5 g v v':=by
 cases h with
 | tuple a a' hs h=>exact .tuple a a' hs fun i hi=>(h i hi).OR (ADl hp hi) hg
 | agg a a' hs h=>exact F5.OR hp hg (.agg a a' hs h)
 | iface t v v' h=>exact F5.OR hp hg (.iface t v v' h)
 | ptr b o i h1=>exact F5.OR hp hg (.ptr b o i h1)
 | slice b o l c i h1 hc hl=>exact F5.OR hp hg (.slice b o l c i h1 hc hl)
 | Z9 b o l c lb i o' c' h1 hc hlb hl hb ho hn=>exact F5.OR hp hg (.Z9 b o l c lb i o' c' h1 hc hlb hl hb ho hn)
 | bool b=>exact .bool b
 | int k n=>exact .int k n
 | string s=>exact .string s
 | nilPtr=>exact .nilPtr
 | AW l c=>exact .AW l c
 | IV=>exact .IV
 | nilFunc=>exact .nilFunc
 | nilIface=>exact .nilIface
 | top v=>cases hp
 | map b i h=>cases hp
 | func g a c a' c' ha hc va vc=>cases hp
def TJ(r:N3)(h:Hp):N3:=match r with
 | .val v h1=>bif Og h.A6 v then(match h1.log with | []=>.val v h | _=>.none) else .none
 | _=>.none
variable {P:Program}
theorem AHP{gs:List Nat}{g:FuncId}(H:AY P gs g args (B8 h h.A6 []) r):AY P gs g args h (TJ r h):=by
 intro args' f w hG hr hl;have hr':Z6 f (B8 h h.A6 []) w:=hr.B8 (M8 _);have h1:=H args' f w hG hr' hl;revert h1;cases r with
 | none=>intro _;trivial
 | panic c h1=>intro _;trivial
 | val v h1 =>
  intro hh;show match (bif Og h.A6 v then(match h1.log with|[]=>N3.val v h|_=>.none) else .none) with|.none=>True|.val v h'=>_|.panic c h'=>_
  cases hp:Og h.A6 v with
  | false=>trivial
  | true =>
   rw[cond_true];cases hlog:h1.log with
   | cons x y=>trivial
   | nil =>
    refine⟨hh.1,hh.2.mono fun e w' he=>?_⟩;cases e with
    | panicked c=>exact he.elim
    | outgrown=>exact he.elim
    | returned v' =>
     obtain⟨f',hA,hC,hv⟩:=he;have hat:∀b,b<h.A6→h1.at b=h.at b:=fun b hb=>hA.K7 b hb (by rw[hlog];simp);refine⟨f,L6.refl h,⟨hr,Map.le_refl f,⟨fun b o i hb ho=>?_,hr.inj,fun b i hb=>⟨(hr.fresh b i hb).1,Ep (hr.fresh b i hb).2 hC.size⟩,hr.dead,hr.base⟩,hC.size,hC.tape,hC.os,hC.out,fun c hc hh=>?_,fun b i h1 h2=>by(rw[h1] at h2;cases h2)⟩,hv.A68 hp fun b i hb hi=>?_⟩
     ·obtain⟨x,hx,hor⟩:=hr.obj b o i hb ho;refine⟨x,?_,hor⟩;rw[hC.K7 i.S6 (hr.fresh b i hb).2 fun b' i' h1 _ h3=>⟨(hr.fresh b' i' h1).1,by rw[hlog];simp⟩];exact hx
     ·exact hC.K7 c hc fun b' i' h1 _ h3=>⟨(hr.fresh b' i' h1).1,by rw[hlog];simp⟩
     · cases e:f b with
       | some j =>
        have:=hC.le b j e;grind
       | none =>
        have:=(hC.news b i e hi).1;have e2:(B8 h h.A6 []).A6=h.A6:=rfl;omega
def JW(P:Program)(cx:Cx)(ov:FuncId→List A0→Hp→Option N3)(q:List Nat):Nat→Call
 | 0=>fun _ _ _=>.none
 | n+1=>fun g args h=>Option.rec (motive:=fun _=>N3)
  (bif q.any (Nat.beq g) then TJ (G8 (cF P cx g) (JW P cx ov q n) (fun g=>Xu (ACH P cx g) (JW P cx ov q n)) args (B8 h h.A6 [])) h
    else G8 (cF P cx g) (JW P cx ov q n) (fun g=>Xu (ACH P cx g) (JW P cx ov q n)) args h) (fun r=>r) (ov g args h)
theorem OG{cx:Cx}{ov:FuncId→List A0→Hp→Option N3}{q:List Nat}(hX:SW P cx)(hdraw:QL P cx)(hov:∀g args h r,ov g args h=some r→AY P cx.gs g args h r):∀n,S9 P cx.gs (JW P cx ov q n):=by
 intro n;induction n with
 | zero=>exact HJ.2 fun g args h=>A5O
 | succ n ih =>
  have hF:=HJ.1 (AEz hX hdraw ih (AER hX hdraw ih));refine HJ.2 fun g args h=>?_;show AY P cx.gs g args h (Option.rec (motive:=fun _=>N3) _ (fun r=>r) (ov g args h));cases ho:ov g args h with
  | some r=>exact hov g args h r ho
  | none =>
   show AY P cx.gs g args h (bif q.any (Nat.beq g) then _ else _);cases q.any (Nat.beq g) with
   | true=>exact AHP (hF g args _)
   | false=>exact hF g args h
structure QR(v0:A0)(h:Hp)(v:A0)(H:Hp):Prop where
 eq:v=v0
 log:H.log=h.log
theorem J6{v:A0}(hy:C0 r (QR v (B8 h h.A6 [])))(ho:Og h.A6 v=true):TJ r h=.val v h:=by obtain⟨v',H,rfl,rfl,hl⟩:=hy.get;show(bif Og h.A6 v' then(match H.log with|[]=>N3.val v' h|_=>.none) else .none)=_;rw[ho,hl];rfl
theorem QR.put{v:A0}{H:Hp}{o:Option N2}(h0:H.log=h.log)(h1:H.base≤b):QR v h v (H.put b o):=⟨rfl,by rw[Jv h1];exact h0⟩
theorem AWr(k:Nat)(bar:Bool)(own:List (Nat×Bool))(g:OD)(want:Bool)(f:DO)(r:CD)(cm:Nat→Nat→Bool)(A7:Call)(d:Dn)(lo:List A0)(tm:T A0)(df:Df)(h:Hp):JO (.SN k bar own g want f r) cm A7 d lo tm df h=AP (G4 g lo tm) want (JO (.JX k bar own f r) cm A7 d lo tm df h) (JO r cm A7 d (undef::lo) tm df h) .none:=rfl
structure VI(v0:A0)(H0:Hp)(v:A0)(H:Hp):Prop where
 eq:v=v0
 hp:H=H0
theorem VI.get{v0:A0}(h:C0 r (VI v0 H0)):r=.val v0 H0:=by obtain⟨v,H,e,rfl,rfl⟩:=h.get;exact e
theorem A2B{P:Nat→Prop}{H Y:Hp}(hf:Fr P H Y):B8 Y H.base H.log=Y:=by rw[←hf.base,←hf.log];exact yI Y
def AYV(mx:Bool)(kd:IntKind)(a b:Int):Option A0:=some (.int kd (bif (AAV (PG b a) (PG a b) mx) then b else a))
theorem AY5(mx:Bool)(x y:OD)(lo:List A0)(tm:T A0):Re mx [x,y] lo tm=Bi (G4 x lo tm) (fun kd a=>Bi (G4 y lo tm) (fun _ b=>AYV mx kd a b) none) none:=by show Bi (G4 x lo tm) (fun kd a=>Bi (G4 y lo tm) (fun _ b=>GA kd (bif (Bool.rec (motive:=fun _=>Bool) (PG b a) (PG a b) mx) then b else a)) none) none=_;simp only[Cg];rfl
theorem ATM(kd:IntKind)(a b:Nat):AYV false kd (.ofNat a) (.ofNat b)=some (.int kd (.ofNat (min a b))):=by
 show some (Value.int kd (bif Nat.blt b a then _ else _))=_;by_cases h:b<a
 ·rw[BW h,cond_true,Nat.min_eq_right (by omega)]
 ·rw[GH (by omega),cond_false,A1v (by omega)]
theorem AUG(kd:IntKind)(a b:Nat):AYV true kd (.ofNat a) (.ofNat b)=some (.int kd (.ofNat (max a b))):=by
 show some (Value.int kd (bif Nat.blt a b then _ else _))=_;by_cases h:a<b
 ·rw[BW h,cond_true,Nat.max_eq_right (by omega)]
 ·rw[GH (by omega),cond_false,Nat.max_eq_left (by omega)]
def ACn(h:Hp)(v:A0)(s cap n:Nat)(vs:List A0):Prop:=∃b c e cl,v=F8 b 0 n cap∧h.at b=some (.row c (cap*s) e cl false)∧n≤cap∧vs.length=n*s∧∀k,k<n*s→c.get (path k)=vs[k]?
theorem ACn.sl{v:A0}{s n:Nat}{vs:List A0}(hc:ACn h v s cap n vs):Sl s h v n vs:=by
 obtain⟨b,c,e,cl,rfl,hat,hl,hv,hg⟩:=hc;refine⟨hv,?_⟩;by_cases h0:n=0
 ·grind
 ·exact .inr ⟨b,0,cap,rfl,by omega,c,cap*s,e,cl,false,hat,by rw[hv,Ag];exact BY _ hl,fun k hk=>by grind⟩
theorem ACn.K7{H:Hp}{v:A0}{s n:Nat}{vs:List A0}(hc:ACn h v s cap n vs)(e:∀c,Ch v c→H.at c=h.at c):ACn H v s cap n vs:=by obtain⟨b,c,e',cl,rfl,hat,hl,hg⟩:=hc;exact⟨b,c,e',cl,rfl,by rw[e b ⟨_,_,_,rfl⟩];exact hat,hl,hg⟩
theorem ACn.lt{v:A0}{s n:Nat}{vs:List A0}(hc:ACn h v s cap n vs)(hw:Wf h)(hb:Ch v c):c<h.A6:=by obtain⟨b,c',e',cl,rfl,hat,hl,hg⟩:=hc;rw[X3 hb];exact hw.lt hat
theorem ANp(e:TypeId)(z:List A0)(y:OD)(x:OD)(lo:List A0)(tm:T A0)(h:Hp)(A7:Call)(sz:Nat):qw e z sz x y A7 lo tm h=Hw (G4 x lo tm) (fun n=>Hw (G4 y lo tm) (fun k=>bif Nat.ble n k then bif Nat.ble (sz*k) 16777216 then bif Nat.ble k 16777216 then .val (F8 h.A6 0 n k) (h.new (B6 (U9 k z) (U9 k z).length e true)) else .none else .none else .none) .none) .none:=by unfold qw;simp only[W6,C1,R4];rfl
def PI(H:Hp)(b n:Nat)(e:TypeId)(vs:List A0):Prop:=vs.length=n∧∃c,H.at b=some (.row c n e true false)∧∀j,j<n→c.get (path j)=vs[j]?
theorem PI.K7{H:Hp}{n:Nat}{e:TypeId}{vs:List A0}(hr:PI h b n e vs)(he:H.at b=h.at b):PI H b n e vs:=by obtain⟨h0,c,h1,h2⟩:=hr;constructor<;>grind
theorem PI.lt{n:Nat}{e:TypeId}{vs:List A0}(hr:PI h b n e vs)(hw:Wf h):b<h.A6:=by obtain⟨_,c,h1,h2⟩:=hr;exact hw.lt h1
theorem APm{H:Hp}{n:Nat}{e:TypeId}{vs:List A0}(hn:vs.length=n)(hat:H.at b=some (.row (C7 vs 0 t fun t=>t) n e true false)):PI H b n e vs:=⟨hn,_,hat,fun j hj=>by rw[V3,if_pos ⟨BB _,by omega⟩,EC]⟩
theorem AJ1{H:Hp}{n:Nat}{e:TypeId}{vs:List A0}{c:T A0}{v:A0}(hn:vs.length=n)(hc:∀j,j<n→c.get (path j)=vs[j]?)(hi:i<n)(hat:H.at b=some (.row (C7 [v] (0+i) c fun t=>t) n e true false)):PI H b n e (vs.set i v):=by refine⟨by rw[Bu];exact hn,_,hat,fun j hj=>?_⟩;rw[V3,A7o];grind
theorem QS(n:Nat)(v:A0):(U9 n [v]).length=n:=by
 induction n with
 | zero=>rfl
 | succ n ih=>show([v]++U9 n [v]).length=_;grind
theorem D9.lp{r:N7}{P:T A0→Df→Hp→Prop}(h:D9 r (fun ex tm df H=>ex=.exit id∧P tm df H))(hk:∀tm df H,P tm df H→D9 (k2 tm df H) ψ):D9 (Abs.Lt (Abs.Lt r (fun tm df h=>N7.ok Ex.normal tm df h) fun i tm df h=>bif Nat.beq i id then N7.ok Ex.normal tm df h else N7.ok (Ex.exit i) tm df h) k2 e2) ψ:=by
 refine D9.Lt (φ:=fun ex tm df H=>ex=.normal∧P tm df H) (D9.Lt h ?_) ?_
 ·rintro ex tm df H ⟨rfl,hp⟩;show D9 (bif Nat.beq id id then _ else _) _;rw[Dg];exact⟨rfl,hp⟩
 ·rintro ex tm df H ⟨rfl,hp⟩;exact hk _ _ _ hp
theorem PI.get{H:Hp}{n:Nat}{e:TypeId}{vs:List A0}(hr:PI H b n e vs):∃c,H.at b=some (.row c n e true false)∧∀j v,vs[j]?=some v→c.get (path (0+j))=some v:=by obtain⟨hl,c,hat,hc⟩:=hr;grind
theorem PI.set{H:Hp}{n:Nat}{e:TypeId}{vs:List A0}{c:T A0}(hr:PI H b n e vs)(hat:H.at b=some (.row c n e true false))(hj:j<n)(v:A0):PI (H.put b (some (.row (C7 [v] (0+j) c fun t=>t) n e true false))) b n e (vs.set j v):=by obtain⟨hl,c',hat',hc⟩:=hr;rw[hat] at hat';cases hat';exact AJ1 hl hc hj (by rw[IJ,if_pos rfl])
theorem ATw(t:TypeId)(v:A0):AGX (.iface t v)=some false:=rfl
theorem AXh(t:TypeId)(x:OD)(lo:List A0)(tm:T A0):A2h t x lo tm=some (.iface t (G4 x lo tm)):=rfl
def AUb(k:Nat)(v:A0):Option A0:=Ii 1 (.val v) (some (.val (.int .i64 (.ofNat k)))) none none [] .nil
theorem PL{k l:Nat}(hk:k≤l)(hc:c<R8):AUb k (F8 b o l c)=some (if k=c then F8 b o 0 0 else F8 b (o+k) (l-k) (c-k)):=by
 have e1:T6 c=false:=GD hc;have e2:sure c=c:=by unfold sure;rw[e1];rfl
 have e:AUb k (F8 b o l c)=m9 none [] .nil l (sure c) (fun hi=>m9 (some (.val (.int .i64 (.ofNat k)))) [] .nil 0 hi (fun lw=>bif T6 c then dM b o 1 lw hi c else Jn b o 1 lw hi c) none) none:=rfl;rw[e,Tu,IY,AIK,Iq,W8 hk,cond_true,e1,cond_false];unfold Jn;by_cases h:k=c
 ·simp_all
 ·rw[U4 h,cond_false,if_neg h];unfold Rd;rw[C1,C1,C1];simp
def ACo(v w:A0):Option A0:=Ii 1 (.val v) none (some (.val w)) none [] .nil
theorem AV4(x y:OD)(lo:List A0)(tm:T A0):Ii 1 x none (some y) none lo tm=ACo (G4 x lo tm) (G4 y lo tm):=rfl
theorem A9s{l L hi:Nat}(h1:hi≤L)(hL:L<1000000):ACo (F8 b o l (C4 1 L)) (.int .i64 (.ofNat hi))=some (F8 b o hi (C4 1 L)):=by obtain⟨s1,s2,s3⟩:=Hf 1 L (by unfold R8;omega);generalize C4 1 L=k at *;have e:ACo (F8 b o l k) (.int .i64 (.ofNat hi))=m9 (some (.val (.int .i64 (.ofNat hi)))) [] .nil l (sure k) (fun hi=>m9 none [] .nil 0 hi (fun lw=>bif T6 k then dM b o 1 lw hi k else Jn b o 1 lw hi k) none) none:=rfl;rw[e,IY,AIK,Iq,s1,W8 h1,cond_true,Tu,s2,cond_true];rfl
theorem Zm(x i:OD)(lo:List A0)(tm:T A0):Mv x i lo tm=Hw (G4 i lo tm) (fun i=>Hq (G4 x lo tm) (fun s=>R5 (YH (bl s) i) (fun b=>some (.int .u8 (.ofNat b.toNat))) none) none) none:=by unfold Mv;simp only[Aa];rfl
def cg(r:N3)(φ:List PanicEntry→Hp→Prop):Prop:=match r with|.panic c h=>φ c h|_=>False
theorem cg.get{φ:List PanicEntry→Hp→Prop}(h:cg r φ):∃c H,r=.panic c H∧φ c H:=by
 cases r with
 | val v h'=>exact h.elim
 | none=>exact h.elim
 | panic c h'=>exact⟨c,h',rfl,h⟩
def AUv(φ:List PanicEntry→Hp→Prop)(e:Ex)(tm:T A0)(df:Df)(h:Hp):Prop:=df=[]∧∃c,e=.panic c∧φ c h
theorem AUv.mk{φ:List PanicEntry→Hp→Prop}{c:List PanicEntry}{tm:T A0}(hy:φ c h):AUv φ (.panic c) tm [] h:=⟨rfl,c,rfl,hy⟩
theorem gn{nt na:Nat}{b:CC}{φ:List PanicEntry→Hp→Prop}(hn:(Nat.beq (len args) na&&Nat.ble na nt)=true)(hb:D9 (Dx b A7 (C7 args 0 .nil fun t=>t) [] h) (AUv φ)):cg (G8 (.mk nt na b rs) A7 cd args h) φ:=by
 show cg (bif Nat.beq (len args) na&&Nat.ble na nt then WT args 0 .nil fun tm=>N7.rec (motive:=fun _=>N3) .none (fun e tm df h=>Ex.rec (motive:=fun _=>N3) (leave cd rs df tm .ret h) (fun _=>.none) (leave cd rs df tm .ret h) (fun c=>leave cd rs df tm (.Jj c) h) e) (Dx b A7 tm [] h) else .none) φ;rw[hn,cond_true,Kr,AK];revert hb;cases Dx b A7 (C7 args 0 .nil fun t=>t) [] h with
 | none=>intro h;exact h.elim
 | ok e tm df h' =>
  rintro⟨rfl,c,rfl,hy⟩;exact hy
theorem ASd(tm:T A0)(df:Df)(k:A0→Hp→N7)(c:List PanicEntry)(h:Hp):A5J tm df k (.panic c h)=.ok (.panic c) tm df h:=rfl
theorem AW5(c:List PanicEntry)(tm:T A0)(df:Df)(h:Hp)(kn:T A0→Df→Hp→N7)(ke:Nat→T A0→Df→Hp→N7):Lt (.ok (.panic c) tm df h) kn ke=.ok (.panic c) tm df h:=rfl
theorem AVx(x:OD)(A7:Call)(lo:List A0)(tm:T A0)(h:Hp):A5p x A7 lo tm h=El (G4 x lo tm) (fun t v=>.panic [{ v:=.iface t v,recovered:=false }] h) .none .none:=rfl
def FH(r:Ee)(φ:Ex→T A0→Md→Hp→Prop):Prop:=match r with|.none=>False|.ok e tm m h=>φ e tm m h
theorem FH.plain{c:CC}{tm:T A0}{m:Md}{H:Hp}(h:D9 (Dx c A7 tm [] H) (fun e tm df H=>df=[]∧φ e tm m H)):FH (Rz (.plain c) A7 tm m H) φ:=by
 show FH (N7.rec (motive:=fun _=>Ee) .none (fun e tm df h=>List.rec (motive:=fun _=>Ee) (.ok e tm m h) (fun _ _ _=>.none) df) (Dx c A7 tm [] H)) φ;revert h;cases Dx c A7 tm [] H with
 | none=>intro h;exact h.elim
 | ok e tm df h=>rintro⟨rfl,h⟩;exact h
theorem FH.seq{a b:CS}{tm:T A0}{m:Md}{H:Hp}{φ:T A0→Md→Hp→Prop}{ψ:Ex→T A0→Md→Hp→Prop}(h:FH (Rz a A7 tm m H) (fun e tm m H=>e=.normal∧φ tm m H))(hb:∀tm m H,φ tm m H→FH (Rz b A7 tm m H) ψ):FH (Rz (.seq a b) A7 tm m H) ψ:=by
 show FH (Ee.rec (motive:=fun _=>Ee) .none (fun e tm m h=>Ex.rec (motive:=fun _=>Ee) (Rz b A7 tm m h) (fun i=>.ok (.exit i) tm m h) (.ok .ret tm m h) (fun c=>.ok (.panic c) tm m h) e) (Rz a A7 tm m H)) ψ;revert h;cases Rz a A7 tm m H with
 | none=>intro h;exact h.elim
 | ok e tm m h=>rintro⟨rfl,h⟩;exact hb _ _ _ h
theorem FH.iu{p:List Bool}{tm:T A0}{m:Md}{H:Hp}(h:φ .normal (tm.set p (some (UF m).1)) (UF m).2 H):FH (Rz (.iu (some p)) A7 tm m H) φ:=by show FH (T.Gy p tm (some (UF m).1) fun tm=>.ok .normal tm (UF m).2 H) φ;rw[T.X9];exact h
theorem FH.AWk{c:OD}{a b:CS}{tm:T A0}{m:Md}{H:Hp}(hc:G4 c [] tm=.bool true)(h:FH (Rz a A7 tm m H) φ):FH (Rz (.cond c a b) A7 tm m H) φ:=by show FH (Cq (G4 c [] tm) (fun t=>Bool.rec (motive:=fun _=>Ee) (Rz b A7 tm m H) (Rz a A7 tm m H) t) .none) φ;rw[hc];exact h
theorem FH.AWG{c:OD}{a b:CS}{tm:T A0}{m:Md}{H:Hp}(hc:G4 c [] tm=.bool false)(h:FH (Rz b A7 tm m H) φ):FH (Rz (.cond c a b) A7 tm m H) φ:=by show FH (Cq (G4 c [] tm) (fun t=>Bool.rec (motive:=fun _=>Ee) (Rz b A7 tm m H) (Rz a A7 tm m H) t) .none) φ;rw[hc];exact h
theorem A6W{nt na:Nat}{b:CS}{m:Md}{φ:Md→Hp→Prop}(hn:(Nat.beq (len args) na&&Nat.ble na nt)=true)(hb:FH (Rz b A7 (C7 args 0 .nil fun t=>t) m h) (fun e tm m' H=>e=.normal∧φ (MF m') H)):∃m' H,Xu (.mk nt na b) A7 args m h=.ok m' H∧φ m' H:=by
 have e0:Xu (.mk nt na b) A7 args m h=bif Nat.beq (len args) na&&Nat.ble na nt then WT args 0 .nil fun tm=>Ee.rec .none (fun e _ m h=>Ex.rec (.ok (MF m) h) (fun _=>.none) (.ok (MF m) h) (fun c=>.ok (kz m c) h) e) (Rz b A7 tm m h) else .none:=rfl
 rw[e0,hn,cond_true,Kr,AK];revert hb;cases Rz b A7 (C7 args 0 .nil fun t=>t) m h with
 | none=>intro h;exact h.elim
 | ok e tm m h=>rintro⟨rfl,h1⟩;exact⟨_,_,rfl,h1⟩
theorem ATX(t:TypeId)(z v:A0):AXc t true z (.iface t v)=some (.tuple ⟨[v,.bool true]⟩):=by unfold AXc;simp only[ANj,Dg];rfl
theorem AXt(t:TypeId)(ok:Bool)(z:A0)(x:OD)(lo:List A0)(tm:T A0):ADL t ok z x lo tm=AXc t ok z (G4 x lo tm):=rfl
theorem xC{nt na:Nat}{b:CC}{g:FuncId}{a:List A0}{φ:A0→Hp→Prop}(hn:(Nat.beq (len args) na&&Nat.ble na nt)=true)(hb:D9 (Dx b A7 (C7 args 0 .nil fun t=>t) [] h) (fun e tm df h'=>df=[(g,a)]∧∃c H',e=.panic c∧cd g a (.Jj c) h'=.ok .ret H'∧C0 (ud rs tm H') φ)):C0 (G8 (.mk nt na b rs) A7 cd args h) φ:=by
 show C0 (bif Nat.beq (len args) na&&Nat.ble na nt then WT args 0 .nil fun tm=>N7.rec (motive:=fun _=>N3) .none (fun e tm df h=>Ex.rec (motive:=fun _=>N3) (leave cd rs df tm .ret h) (fun _=>.none) (leave cd rs df tm .ret h) (fun c=>leave cd rs df tm (.Jj c) h) e) (Dx b A7 tm [] h) else .none) φ;rw[hn,cond_true,Kr,AK];revert hb;cases Dx b A7 (C7 args 0 .nil fun t=>t) [] h with
 | none=>intro h;exact h.elim
 | ok e tm df h' =>
  rintro⟨rfl,c,H',rfl,hc,hy⟩;have key:leave cd rs [(g,a)] tm (.Jj c) h'=ud rs tm H':=by show uW.rec (motive:=fun _=>N3) .none (fun m h=>Md.rec (motive:=fun _=>N3) (ud rs tm h) (fun c=>.panic c h) m) (cd g a (.Jj c) h')=_;rw[hc]
  grind
end
def sB(v:A0):Nat:=match v with|.slice (some a) _ _=>a.block|_=>0
def sO(v:A0):Nat:=match v with|.slice (some a) _ _=>a.off|_=>0
def sC(v:A0):Nat:=match v with|.slice _ _ c=>c|_=>0
def cT(H:Hp)(b:Nat):T A0:=match H.at b with|some (.row c _ _ _ _)=>c|_=>.nil
def cM(H:Hp)(b:Nat):Nat:=match H.at b with|some (.row _ m _ _ _)=>m|_=>0
def cE(H:Hp)(b:Nat):TypeId:=match H.at b with|some (.row _ _ e _ _)=>e|_=>0
def cL(H:Hp)(b:Nat):Bool:=match H.at b with|some (.row _ _ _ l _)=>l|_=>false
def cR(H:Hp)(b:Nat):Bool:=match H.at b with|some (.row _ _ _ _ r)=>r|_=>false
theorem Has.row{vs:List A0}(hb:Has h b o vs):h.at b=some (.row (cT h b) (cM h b) (cE h b) (cL h b) (cR h b))∧o+vs.length≤cM h b∧∀k,k<vs.length→(cT h b).get (path (o+k))=vs[k]?:=by obtain⟨c,m,e,cl,ro,hat,h1,h2⟩:=hb;unfold cT cM cE cL cR;grind
theorem Sl.eqv{s:Nat}{v:A0}{n:Nat}{vs:List A0}(ho:Sl s h v n vs)(hn:0<n):v=F8 (sB v) (sO v) n (sC v)∧Has h (sB v) (sO v) vs:=by obtain⟨b,o,c,rfl,hh⟩:=ho.pos hn;exact⟨rfl,hh⟩
structure Cell(v:A0):Prop where
 na:Bc v=false
 nt:TK v=false
 c1:c7 v=[v]
theorem Sl.cell{s:Nat}{v:A0}{n:Nat}{vs:List A0}(ho:Sl s h v n vs):Cell v:=by obtain⟨_,⟨_,rfl|⟨b,o,c,rfl⟩⟩|⟨b,o,c,rfl,_⟩⟩:=ho<;>exact⟨rfl,rfl,rfl⟩
theorem U6{k:IntKind}{x:Int}:Cell (.int k x):=⟨rfl,rfl,rfl⟩
theorem yz{b:Bool}:Cell (.bool b):=⟨rfl,rfl,rfl⟩
theorem VO{l:Nat}:Cell (F8 b o l c):=⟨rfl,rfl,rfl⟩
theorem DF{l:Nat}:Cell (.slice none l c):=⟨rfl,rfl,rfl⟩
structure Aa5(s:Nat)(h:Hp)(v:A0)(n:Nat)(vs:List A0):Prop where
 sl:∀ {R:Type} (k:Nat→Nat→Nat→Nat→R) (kn:Nat→Nat→R) (z:R),Np v k kn z=k (sB v) (sO v) n (sC v)
 M5:h.at (sB v)=some (.row (cT h (sB v)) (cM h (sB v)) (cE h (sB v)) (cL h (sB v)) (cR h (sB v)))
 lt:∀i,i<n*s→Nat.blt (sO v+i) (cM h (sB v))=true
 AY8:∀i j,i+j<n*s→Nat.blt (sO v+i+j) (cM h (sB v))=true
 le:∀i m,i+m≤n*s→Nat.ble (sO v+i+m) (cM h (sB v))=true
 get:∀i,i<n*s→(cT h (sB v)).get (path (sO v+i))=vs[i]?
 AYS:∀i j,i+j<n*s→(cT h (sB v)).get (path (sO v+i+j))=vs[i+j]?
 ld:∀i m,i+m≤n*s→V6 (cT h (sB v)) (sO v+i) m []=some ((vs.drop i).take m)
 A2z:Wf h→sB v<h.A6
theorem Sl.S{s:Nat}{v:A0}{n:Nat}{vs:List A0}(ho:Sl s h v n vs)(hn:0<n):Aa5 s h v n vs:=by
 obtain⟨hv,hh⟩:=ho.eqv hn;obtain⟨h1,h2,h3⟩:=hh.row;have hl:=ho.1;refine⟨fun k kn z=>?_,h1,fun i hi=>BW (by omega),fun i j hi=>BW (by omega),fun i m hi=>W8 (by omega),fun i hi=>h3 i (by omega),fun i j hi=>?_,fun i m hi=>?_,fun hw=>hw.lt h1⟩
 ·rw[hv];rfl
 ·grind
 · have hlen:((vs.drop i).take m).length=m:=by grind
   have:=FO (c:=cT h (sB v)) (o:=sO v+i) (vs:=(vs.drop i).take m) fun k hk=>by grind
   grind
theorem Sl.A{s:Nat}{v:A0}{n:Nat}{vs:List A0}(ho:Sl s h v n vs)(hn:0<n):(∀ {R:Type} (k:Nat→Nat→Nat→Nat→R) (kn:Nat→Nat→R) (z:R),Np v k kn z=k (sB v) (sO v) n (sC v))∧h.at (sB v)=some (.row (cT h (sB v)) (cM h (sB v)) (cE h (sB v)) (cL h (sB v)) (cR h (sB v)))∧(∀i,i<n*s→Nat.blt (sO v+i) (cM h (sB v))=true)∧(∀i j,i+j<n*s→Nat.blt (sO v+i+j) (cM h (sB v))=true)∧(∀i m,i+m≤n*s→Nat.ble (sO v+i+m) (cM h (sB v))=true)∧(∀i,i<n*s→(cT h (sB v)).get (path (sO v+i))=vs[i]?)∧(∀i j,i+j<n*s→(cT h (sB v)).get (path (sO v+i+j))=vs[i+j]?)∧∀i m,i+m≤n*s→V6 (cT h (sB v)) (sO v+i) m []=some ((vs.drop i).take m) :=
 have q:=ho.S hn
 ⟨q.sl,q.M5,q.lt,q.AY8,q.le,q.get,q.AYS,q.ld⟩
theorem zM{l:List A0}(h:∀v∈l,Cell v):K9 l=true:=by
 induction l with
 | nil=>rfl
 | cons a l ih =>
  show(bif Bc a then false else K9 l)=true;rw[(h a Ct).na,cond_false];grind
theorem T.aP(a:Option α):T.set [] (.nil:T α) a=.node a .nil .nil:=rfl
theorem T.Ai(a v:Option α)(l r:T α):T.set [] (.node v l r) a=.node a l r:=rfl
theorem T.IA(p:List Bool)(a:Option α):T.set (true::p) (.nil:T α) a=.node none (T.set p .nil a) .nil:=by show T.Gy p .nil a (fun l=>T.node none l .nil)=_;rw[T.X9]
theorem T.Hn(p:List Bool)(a:Option α):T.set (false::p) (.nil:T α) a=.node none .nil (T.set p .nil a):=by show T.Gy p .nil a (fun r=>T.node none .nil r)=_;rw[T.X9]
theorem T.S3(p:List Bool)(a v:Option α)(l r:T α):T.set (true::p) (.node v l r) a=.node v (T.set p l a) r:=by show T.Gy p l a (fun l=>T.node v l r)=_;rw[T.X9]
theorem T.S2(p:List Bool)(a v:Option α)(l r:T α):T.set (false::p) (.node v l r) a=.node v l (T.set p r a):=by show T.Gy p r a (fun r=>T.node v l r)=_;rw[T.X9]
theorem T.set_set:∀(p:List Bool) (t:T α) (a b:Option α),T.set p (T.set p t a) b=T.set p t b
 | [],.nil,a,b=>rfl
 | [],.node v l r,a,b=>rfl
 | true::p,.nil,a,b=>by rw[T.IA,T.IA,T.S3,T.set_set p]
 | false::p,.nil,a,b=>by rw[T.Hn,T.Hn,T.S2,T.set_set p]
 | true::p,.node v l r,a,b=>by rw[T.S3,T.S3,T.S3,T.set_set p]
 | false::p,.node v l r,a,b=>by rw[T.S2,T.S2,T.S2,T.set_set p]
theorem T.set_comm:∀(p q:List Bool) (t:T α) (a b:Option α),p≠q→T.set p (T.set q t a) b=T.set q (T.set p t b) a
 | [],[],t,a,b,h=>absurd rfl h
 | [],true::q,.nil,a,b,h=>by rw[T.IA,T.Ai,T.aP,T.S3]
 | [],false::q,.nil,a,b,h=>by rw[T.Hn,T.Ai,T.aP,T.S2]
 | [],true::q,.node v l r,a,b,h=>by rw[T.S3,T.Ai,T.Ai,T.S3]
 | [],false::q,.node v l r,a,b,h=>by rw[T.S2,T.Ai,T.Ai,T.S2]
 | true::p,[],.nil,a,b,h=>by rw[T.IA,T.Ai,T.aP,T.S3]
 | false::p,[],.nil,a,b,h=>by rw[T.Hn,T.Ai,T.aP,T.S2]
 | true::p,[],.node v l r,a,b,h=>by rw[T.S3,T.Ai,T.Ai,T.S3]
 | false::p,[],.node v l r,a,b,h=>by rw[T.S2,T.Ai,T.Ai,T.S2]
 | true::p,true::q,.nil,a,b,h=>by rw[T.IA,T.IA,T.S3,T.S3,T.set_comm p q _ _ _ (fun e=>h (by rw[e]))]
 | false::p,false::q,.nil,a,b,h=>by rw[T.Hn,T.Hn,T.S2,T.S2,T.set_comm p q _ _ _ (fun e=>h (by rw[e]))]
 | true::p,false::q,.nil,a,b,h=>by rw[T.Hn,T.IA,T.S3,T.S2]
 | false::p,true::q,.nil,a,b,h=>by rw[T.IA,T.Hn,T.S3,T.S2]
 | true::p,true::q,.node v l r,a,b,h=>by rw[T.S3,T.S3,T.S3,T.S3,T.set_comm p q _ _ _ (fun e=>h (by rw[e]))]
 | false::p,false::q,.node v l r,a,b,h=>by rw[T.S2,T.S2,T.S2,T.S2,T.set_comm p q _ _ _ (fun e=>h (by rw[e]))]
 | true::p,false::q,.node v l r,a,b,h=>by rw[T.S2,T.S3,T.S3,T.S2]
 | false::p,true::q,.node v l r,a,b,h=>by rw[T.S3,T.S2,T.S2,T.S3]
theorem FX(v:A0)(l:List A0)(i:Nat)(c:T A0):(C7 (v::l) i c fun t=>t)=C7 l (i+1) (T.set (path i) c (some v)) fun t=>t:=by show T.Gy (path i) c (some v) (fun c=>C7 l (Nat.succ i) c fun t=>t)=_;rw[T.X9]
theorem AMu(v:A0)(i:Nat)(c:T A0):(C7 [v] i c fun t=>t)=T.set (path i) c (some v):=by rw[FX];rfl
theorem ACW{j:Nat}{a:Option A0}:∀(l:List A0) (i:Nat) (c:T A0),j<i→T.set (path j) (C7 l i c fun t=>t) a=C7 l i (T.set (path j) c a) fun t=>t
 | [],i,c,h=>rfl
 | v::l,i,c,h=>by rw[FX,FX,ACW l (i+1) _ (by omega),T.set_comm _ _ _ _ _ fun e=>by have:=bP e;omega]
theorem AIS{w:A0}{j:Nat}:∀(l:List A0) (i:Nat) (c:T A0),i≤j→j<i+l.length→(C7 [w] j (C7 l i c fun t=>t) fun t=>t)=C7 (l.set (j-i) w) i c fun t=>t
 | [],i,c,h1,h2=>by simp at h2;omega
 | v::l,i,c,h1,h2=>by
  by_cases e:j=i
  ·subst e;rw[AMu,FX v l,ACW l _ _ (by omega),T.set_set,Wj,A3o,FX w l]
  · rw[FX v l,AIS l (i+1) _ (by omega) (by grind)];obtain⟨d,hd⟩:∃d,j-i=d+1:=⟨j-i-1,by omega⟩
    rw[hd,ADY,FX,show j-(i+1)=d by omega]
theorem AM0:∀(V Z:List A0) (i:Nat) (c:T A0),V.length=Z.length→(C7 V i (C7 Z i c fun t=>t) fun t=>t)=C7 V i c fun t=>t
 | [],[],i,c,h=>rfl
 | v::V,z::Z,i,c,h=>by rw[FX v V,FX z Z,ACW Z (i+1) _ (by omega),T.set_set,AM0 V Z (i+1) _ (Nat.succ.inj h),FX v V]
theorem ARH{l:List A0}{c:T A0}(h:j<l.length):(C7 [w] j (C7 l 0 c fun t=>t) fun t=>t)=C7 (l.set j w) 0 c fun t=>t:=AIS l 0 c (BB _) (by omega)
theorem AWI{v:A0}{l:List A0}{c:T A0}(h:j<l.length):(C7 (v::w::V) j (C7 l 0 c fun t=>t) fun t=>t)=C7 (w::V) (j+1) (C7 (l.set j v) 0 c fun t=>t) fun t=>t:=by rw[FX,←AMu,ARH h]
theorem AV8{Z:List A0}{c:T A0}(h:V.length=Z.length):(C7 V 0 (C7 Z 0 c fun t=>t) fun t=>t)=C7 V 0 c fun t=>t:=AM0 V Z 0 c h
theorem ASj{o o':Option N2}(hb:h.base≤b):(h.put b o).put b o'=h.put b o':=by
 have e:Jk h.base (Jk h.base h.log b) b=Jk h.base h.log b:=by unfold Jk;rw[GH hb];rfl
 show Hp.mk (T.set (path b) (T.set (path b) h.bl o) o') h.A6 h.base (Jk h.base (Jk h.base h.log b) b)=Hp.mk (T.set (path b) h.bl o') h.A6 h.base (Jk h.base h.log b);rw[T.set_set,e]
theorem AV9(a j:Nat)(u:Bool)(r:List (Nat×Bool)):TI ((a,u)::r) j=bif Nat.beq a j then u else TI r j:=rfl
theorem AVl(h:Hp)(o:N2):(h.new o).log=h.log:=by rw[A0p]
theorem AYs(h:Hp)(n:Nat)(l:List Nat):(B8 h n l).log=l:=by rw[A7E]
theorem A4C{n:Nat}(hn:n=h.base)(hl:l=h.log):B8 h n l=h:=by subst hn hl;rfl
theorem ANP{n:Nat}{o:Option N2}(hb:b<n):(B8 h n l).put b o=B8 (h.put b o) n (Jk n l b):=rfl
theorem AFf{n:Nat}{o:Option N2}(hb:n≤b):B8 (h.put b o) n l=(B8 h n l).put b o:=by show B8 (h.put b o) n l=B8 (h.put b o) n (Jk n l b);unfold Jk;rw[GH hb];rfl
theorem AUa{a:Nat}(h:a=b):Nat.beq a b=true:=by subst h;exact Dg _
theorem E9{o:Option N2}(hn:b≠c):(h.put b o).at c=h.at c:=by rw[IJ,if_neg hn]
theorem K0{o:Option N2}:(h.put b o).at b=o:=by rw[IJ,if_pos rfl]
theorem AWf(h:Hp)(o:N2):(h.new o).A6=h.A6+1:=by rw[Q6]
theorem zh(h:Hp)(b:Nat)(o:Option N2):(h.put b o).A6=h.A6:=by rw[Kp]
theorem AZf(h:Hp)(n:Nat)(l:List Nat):(B8 h n l).A6=h.A6:=by rw[zR]
theorem AWQ(h:Hp)(o:N2):(h.new o).base=h.base:=by rw[Xl]
theorem AWp(h:Hp)(b:Nat)(o:Option N2):(h.put b o).base=h.base:=by rw[XF]
theorem AY9(h:Hp)(n:Nat)(l:List Nat):(B8 h n l).base=n:=by rw[yq]
theorem CN{o:N2}(hn:c≠h.A6):(h.new o).at c=h.at c:=by rw[Cz,if_neg (Ne.symm hn)]
theorem Dm{o:N2}:(h.new o).at h.A6=some o:=by rw[Cz,if_pos rfl]
theorem lC{o:N2}(hn:c=h.A6):(h.new o).at c=some o:=by rw[Cz,if_pos hn.symm]
theorem AFO{l:List A0}{k:Nat}(hk:k<l.length):(C7 l 0 t fun t=>t).get (path k)=l[k]?:=by rw[V3,if_pos ⟨BB _,by omega⟩,EC]
theorem ARE{v:A0}{k:Nat}:(C7 [v] k t fun t=>t).get (path k)=some v:=by rw[V3,if_pos ⟨M8 _,by simp⟩];simp
theorem AQJ{v:A0}{k:Nat}(h:j≠k):(C7 [v] j t fun t=>t).get (path k)=t.get (path k):=by rw[V3,if_neg (by simp;omega)]
theorem AWb{l:List A0}{n:Nat}(hn:l.length=n):V6 (C7 l 0 t fun t=>t) 0 n []=some l:=by subst hn;exact FO fun k hk=>by rw[Ag,V3,if_pos ⟨BB _,by omega⟩,EC]
theorem AW3{l:List A0}(h:o+m≤l.length):V6 (C7 l 0 t fun t=>t) o m []=some ((l.drop o).take m):=by
 have hl:((l.drop o).take m).length=m:=by grind
 have:=FO (c:=C7 l 0 t fun t=>t) (o:=o) (vs:=(l.drop o).take m) fun k hk=>by rw[hl] at hk;rw[V3,if_pos ⟨BB _,by omega⟩,EC,jU,if_pos hk,AEW]
 rw[hl] at this;exact this
theorem pH{v:A0}{r:List A0}(h:Cell v):K9 (v::r)=K9 r:=by show(bif Bc v then false else K9 r)=_;rw[h.na];rfl
theorem AP7{R:Type}{v:A0}{z:List A0}{k:List A0→R}{no:R}(h:Cell v):WG o 1 v z k no=bif Nat.ble (o+1) z.length then k (over z o [v]) else no:=by unfold WG;rw[h.nt,h.c1];show(bif Nat.beq (len [v]) 1 then bif Nat.ble (Nat.add o 1) (len z) then k (over z o [v]) else no else no)=_;rw[R4,R4];rfl
theorem AXv(z:List A0):over z 0 []=z:=rfl
theorem AXs(x v:A0)(z l:List A0):over (x::z) 0 (v::l)=v::over z 0 l:=rfl
theorem AVy(x:A0)(z l:List A0)(k:Nat):over (x::z) (k+1) l=x::over z k l:=rfl
theorem AV1{e:TypeId}{v:A0}(hv:Cell v):AHT e v h=.val (C2 h.A6 0) (h.new (B6 [v] 1 e true)):=by unfold AHT;rw[hv.nt,hv.c1,cond_false];show AA h e [v] (len [v]) true (fun b h=>N3.val (C2 b 0) h)=_;rw[W6,R4];rfl
theorem AXj(p:List Bool)(tm:T A0)(h:Hp):Jh (.tmp p) tm h=some (Qd (tm.get p)):=rfl
theorem AUH(n:Nat)(p:List Bool)(tm:T A0)(h:Hp):Jh (.cell true n p) tm h=FE (Qd (tm.get p)) (fun b o=>R5 (h.at b) (fun ob=>Jc ob (fun c m _ _ _=>bif Nat.ble (o+n) m then R5 (V6 c o n []) (fun l=>some (.agg ⟨l⟩)) none else none) none) none) none:=rfl
theorem ASr(n:Nat)(p:List Bool)(tm:T A0)(h:Hp):Jh (.cell false n p) tm h=FE (Qd (tm.get p)) (fun b o=>R5 (h.at b) (fun ob=>Jc ob (fun c m _ _ _=>bif Nat.blt o m then c.get (path o) else none) none) none) none:=rfl
theorem APH(tm:T A0)(h:Hp):ud [] tm h=.val (.tuple ⟨[]⟩) h:=rfl
theorem AQ6(a:CR)(tm:T A0)(h:Hp):ud [a] tm h=R5 (Jh a tm h) (fun v=>.val v h) .none:=by show R5 (R5 (Jh a tm h) (fun v=>some [v]) none) _ _=_;cases Jh a tm h<;>rfl
theorem AOb(a b:CR)(tm:T A0)(h:Hp):ud [a,b] tm h=R5 (Jh a tm h) (fun v=>R5 (Jh b tm h) (fun w=>.val (.tuple ⟨[v,w]⟩) h) .none) .none:=by
 show R5 (R5 (Jh a tm h) (fun v=>R5 (R5 (Jh b tm h) (fun w=>some [w]) none) (fun l=>some (v::l)) none) none) _ _=_;cases Jh a tm h with
 | none=>rfl
 | some v=>cases Jh b tm h<;>rfl
theorem AOk(a b c:CR)(tm:T A0)(h:Hp):ud [a,b,c] tm h=R5 (Jh a tm h) (fun v=>R5 (Jh b tm h) (fun w=>R5 (Jh c tm h) (fun x=>.val (.tuple ⟨[v,w,x]⟩) h) .none) .none) .none:=by
 show R5 (R5 (Jh a tm h) (fun v=>R5 (R5 (Jh b tm h) (fun w=>R5 (R5 (Jh c tm h) (fun x=>some [x]) none) (fun l=>some (w::l)) none) none) (fun l=>some (v::l)) none) none) _ _=_;cases Jh a tm h with
 | none=>rfl
 | some v=>cases Jh b tm h with
  | none=>rfl
  | some w=>cases Jh c tm h<;>rfl
theorem ASB(v:A0)(l:List A0):JZ 0 (v::l)=some v:=by rfl
theorem ARS(v w:A0)(l:List A0):JZ 1 (v::w::l)=some w:=by rfl
theorem ASe(v w x:A0)(l:List A0):JZ 2 (v::w::x::l)=some x:=by rfl
@[congr] theorem AXL{R:Type}{v:A0}{k:List A0→R}{z:R}(h:v=v'):ACm v k z=ACm v' k z:=by rw[h]
theorem Jo(k:IntKind){a:Nat}(h:Nat.land a b<half k):nn Nat.land k (.ofNat a) (.ofNat b)=some (.int k (.ofNat (Nat.land a b))):=by show C8 (Nat.land a b) (fun c=>bif Nat.blt c (half k) then some (Value.int k (.ofNat c)) else none)=_;rw[C1,BW h];rfl
theorem A2c(k:IntKind){a:Nat}(h:Nat.lor a b<half k):nn Nat.lor k (.ofNat a) (.ofNat b)=some (.int k (.ofNat (Nat.lor a b))):=by show C8 (Nat.lor a b) (fun c=>bif Nat.blt c (half k) then some (Value.int k (.ofNat c)) else none)=_;rw[C1,BW h];rfl
theorem AQo(k:IntKind){a:Nat}(h:Nat.xor a b<half k):nn Nat.xor k (.ofNat a) (.ofNat b)=some (.int k (.ofNat (Nat.xor a b))):=by show C8 (Nat.xor a b) (fun c=>bif Nat.blt c (half k) then some (Value.int k (.ofNat c)) else none)=_;rw[C1,BW h];rfl
theorem ASy(k:IntKind)(x:Int)(b:Nat):fE k x (.ofNat b)=nn Nat.land k x (.ofNat b):=rfl
def AaG:=L0 @ASy<|L0 @AWr<|L0 @ANT<|L0 @AVS<|L0 @ANp<|L0 @AVL<|L0 @APg<|L0 @AXh<|L0 @ANX<|L0 @AMT<|L0 @AOV<|L0 @AOT<|L0 @APU<|L0 @AU8<|L0 @Aa6<|L0 @Aah<|L0 @AIK<|L0 @Aap<|L0 @AUe<|L0 @ARR<|L0 @AYM<|L0 @AYQ<|L0 @AQd<|L0 @AVk<|L0 @AYJ<|L0 @AZh<|L0 @AZj<|L0 @AYC<|L0 @AZr<|L0 @AYY<|L0 @ATy<|L0 @ASb<|L0 @T.A9<|L0 @AUx<|L0 @ASQ<|L0 @AQp<|L0 @ANM<|L0 @AOI<|L0 @ASk<|L0 @ASU<|L0 @ASg<|L0 @AU2<|L0 @AWu<|L0 @ANI<|L0 @AU9<|L0 @AVd<|L0 @APP<|L0 @ASC<|L0 @ASz<|L0 @ANu<|L0 @Q6<|L0 @Xl<|L0 @A0p<|L0 @Kp<|L0 @XF<|L0 @A2J<|L0 @zR<|L0 @yq<|L0 @A7E<|L0 @AQm<|L0 @yI<|L0 @ANa<|L0 @we<|L0 @AX8<|L0 @AUw<|L0 @APJ<|L0 @AIU<|L0 @ALx<|L0 @ZN<|L0 @It<|L0 @Fy<|L0 @PY<|L0 @qE<|L0 @Nj<|L0 @Pa<|L0 @AVU<|L0 @AOm<|L0 @AKJ<|L0 @ATh<|L0 @APN<|L0 @APh<|L0 @ABn<|L0 @ATc<|L0 @APE<|L0 @ANQ<|L0 @ATa<|L0 @AT5<|L0 @ASh<|L0 @ATf<|L0 @AOH<|L0 @AU1<|L0 @ATL<|L0 @AVJ<|L0 @AWK<|L0 @AVj<|L0 @AX9<|L0 @AXw<|L0 @AT4<|L0 @APl<|L0 @IY<|L0 @Tu<|L0 @AWo<|L0 @AOX<|L0 @AQ4<|L0 @ANb<|L0 @AV9<|L0 @AXv<|L0 @AXs<|L0 @AVy<|L0 @AXj<|L0 @AUH<|L0 @ASr<|L0 @APH<|L0 @AQ6<|L0 @AOb<|L0 @AOk<|L0 @AVh<|L0 @ASB<|L0 @ARS<|L0 @ASe<|L0 @ALJ<|L0 @AY5<|L0 @ATM<|@AUG
def Aaw:=L0 @BW<|L0 @GH<|L0 @W8<|L0 @GD<|L0 @AUa<|L0 @U4<|L0 @GC<|L0 @AYn<|L0 @Aa4<|L0 @w8<|L0 @Fh<|L0 @AMf<|L0 @ASV<|L0 @AUp<|L0 @K0<|L0 @E9<|L0 @Dm<|L0 @lC<|L0 @CN<|L0 @AFO<|L0 @ARH<|L0 @AWI<|L0 @AV8<|L0 @ASj<|L0 @A3o<|L0 @ADY<|L0 @ARE<|L0 @AQJ<|L0 @AWb<|L0 @AW3<|L0 @A3A<|L0 @List.take_zero.{0}<|L0 @List.take_succ_cons.{0}<|L0 @List.drop_succ_cons.{0} <|  L0 @pH<|L0 @AP7<|L0 @AV1<|L0 @AAS<|L0 @ARX<|L0 @ANP<|L0 @AFf<|L0 @A4C<|L0 @Jv<|L0 @List.getElem?_cons_zero.{0}<|@A11
def B0:=And.intro CG<|And.intro AaG<|And.intro Aaw<|And.intro AaI<|L0 @EC<|L0 @jH<|L0 @Gn @jf
def C6:=L0 @Gn<|L0 @jf<|L0 @AWf<|L0 @zh<|L0 @AZf<|L0 @AWQ<|L0 @AWp<|L0 @AY9<|L0 @AVl @AYs
def D0(tm:T A0):List (List Bool×A0)→Prop
 | []=>True
 | x::r=>tm.get x.1=some x.2∧D0 tm r
theorem J7(hw:Wf h)(a:N2):∃J,h.new a=J∧Wf J∧Fr N5 h J∧J.A6=h.A6+1∧J.at h.A6=some a:=⟨_,rfl,hw.new _,Fr.new _,rfl,Dm⟩
theorem U7(hw:Wf h)(a b:N2):∃J,(h.new a).new b=J∧Wf J∧Fr N5 h J∧J.A6=h.A6+2∧J.at h.A6=some a∧J.at (h.A6+1)=some b:=⟨_,rfl,(hw.new _).new _,(Fr.new _).CJ _,rfl,by rw[CN (by rw[Q6];omega),Dm],lC rfl⟩
theorem PB(hw:Wf h)(a b c:N2):∃J,((h.new a).new b).new c=J∧Wf J∧Fr N5 h J∧J.A6=h.A6+3∧J.at h.A6=some a∧J.at (h.A6+1)=some b∧J.at (h.A6+1+1)=some c:=by obtain⟨J,hJ,w,f,n,x,y⟩:=U7 hw a b;rw[hJ];refine⟨_,rfl,w.new _,f.CJ _,by rw[Q6];omega,by rw[CN (by omega)];exact x,by rw[CN (by omega)];exact y,lC (by omega)⟩
theorem A8k(hw:Wf h)(a b c d:N2):∃J,(((h.new a).new b).new c).new d=J∧Wf J∧Fr N5 h J∧J.A6=h.A6+4∧J.at h.A6=some a∧J.at (h.A6+1)=some b∧J.at (h.A6+1+1)=some c∧J.at (h.A6+1+1+1)=some d:=by obtain⟨J,hJ,w,f,n,x,y,z⟩:=PB hw a b c;rw[hJ];refine⟨_,rfl,w.new _,f.CJ _,by rw[Q6];omega,by rw[CN (by omega)];exact x,by rw[CN (by omega)];exact y,by rw[CN (by omega)];exact z,lC (by omega)⟩
structure Bd(e:TypeId)(s:Nat)(K:Hp)(Q:Nat→Prop)(H:Hp)(v:A0)(n:Nat)(vs:List A0):Prop where
 out:Out e s (fun c=>K.A6≤c) H v n vs
 wf:Wf H
 fr:Fr Q K H
section
variable {e:TypeId} {s:Nat} {K H H':Hp} {Q:Nat→Prop} {v:A0} {n:Nat} {vs:List A0}
theorem Bd.nil(hw:Wf H)(hf:Fr Q K H):Bd e s K Q H (.slice none 0 0) 0 []:=⟨Out.nil,hw,hf⟩
theorem Bd.OX(hw:Wf H)(hf:Fr Q K H):Bd e s K Q H (F8 b 0 0 0) 0 []:=⟨⟨by simp,rfl,.inl ⟨rfl,.inl ⟨_,rfl⟩⟩⟩,hw,hf⟩
theorem Bd.K7(hb:Bd e s K Q H v n vs)(hw:Wf H')(hf:Fr Q K H')(hk:∀c,K.A6≤c→c<H.A6→H'.at c=H.at c):Bd e s K Q H' v n vs:=by
 obtain⟨⟨hl,h1,h2⟩,w,f⟩:=hb;refine⟨⟨hl,h1,?_⟩,hw,hf⟩;rcases h2 with h2|⟨b,rfl,h3,h4,h5⟩
 ·exact .inl h2
 ·exact .inr ⟨b,rfl,h3,h4.K7 (hk b h5 (h4.lt w)),h5⟩
theorem Bd.step(hb:Bd e s K Q H v n vs)(hw:Wf H')(hf:Fr N5 H H'):Bd e s K Q H' v n vs:=hb.K7 hw (hb.fr.trans hf fun _ _ h=>h.elim) fun c _ hc=>hf.M5 c hc fun h=>h
theorem Bd.put(hb:Bd e s K Q H v n vs)(hK:Wf K)(hq:Q b)(hlt:b<K.A6)(hbb:K.base≤b)(o:Option N2):Bd e s K Q (H.put b o) v n vs:=hb.K7 (hb.wf.put (by have:=hb.fr.A6;omega) o) (hb.fr.O6 o (fun _=>hq) hbb) fun c h1 _=>E9 (by omega)
theorem Bd.sl(hb:Bd e s K Q H v n vs):Sl s H v n vs:=hb.out.sl
theorem Bd.cell(hb:Bd e s K Q H v n vs):Cell v:=hb.sl.cell
theorem Bd.app{new:List A0}(hb:Bd e s K Q H v n vs)(hK:Wf K)(hy:Sl s H y m new)(hone:K9 new=true)(hm:0<m)(hnm:n+m≤100000):
 ∃v' H',DJ e s v y H=.val v' H'∧Bd e s K Q H' v' (n+m) (vs++new)∧(∃k,v'=F8 H.A6 0 (n+m) k)∧H'.A6=H.A6+1∧Fr (fun c=>0<n∧Ch v c) H H':=by
 have hKb:=hK.base;have hn:=hb.fr.A6;obtain⟨v',H',h1,h2,h3,h4,h5,h6⟩:=ANV hb.wf hb.out hy hone hm hnm (fun b h=>by rw[hb.fr.base];omega) (by omega);exact⟨v',H',h1,⟨h2,h3,hb.fr.trans h5 fun k hk hq=>by have:=hb.out.S6 hq.1 hq.2;omega⟩,h6,h4,h5⟩
theorem Bd.AKa{new:List A0}(hb:Bd e s K Q H0 v n vs)(hw:Wf H)(hf:Fr N5 H0 H)(hK:Wf K)(hy:Sl s H y m new)(hone:K9 new=true)(hm:0<m)(hnm:n+m≤100000):
 ∃v' Z Z',DJ e s v y (B8 H H.A6 [])=.val v' Z'∧B8 Z' H.base H.log=Z∧Z'.A6=Z.A6∧((n=0∧Z'.log=[])∨∃b,Z'.log=[b]∧K.A6≤b∧b<H0.A6∧H0.base≤b)∧Bd e s K Q Z v' (n+m) (vs++new)∧Z.A6=H.A6+1∧(∀c,c<K.A6→Z'.at c=H.at c)∧Fr (fun c=>0<n∧Ch v c) H Z:=by
 have hKb:=hK.base;have hn:=hb.fr.A6;have hbb:=hb.fr.base;have hb2:=hf.base;have hn2:=hf.A6;obtain⟨⟨hl,h1,h2⟩,w,f⟩:=hb.step hw hf;obtain⟨yb,yo,yc,rfl,hhas⟩:=hy.pos hm;have hln:=hy.1;have hc:cellsOf (B8 H H.A6 []) yb yo (m*s)=some new:=hhas.cells hln.symm;have hlen:(vs++new).length=(n+m)*s:=by grind
 have hall:=XO hone vs h1;rcases h2 with⟨rfl,hx⟩|⟨b,rfl,h3,h4,h5⟩
 · have hv:=IU (by rw[hl,UM]);subst hv;have e1:=Jr (e:=e) (yc:=yc) hx hm (by omega) hc;refine⟨_,H.new (B6 new new.length e false),_,e1,rfl,rfl,.inl ⟨rfl,rfl⟩,⟨⟨hlen,hall,.inr ⟨H.A6,by rw[Ag];rfl,by omega,?_,JJ hn hn2⟩⟩,w.new _,f.CJ _⟩,rfl,fun c hc=>?_,Fr.new _⟩
   ·exact Dy rfl
   ·exact CN (by show c≠H.A6;omega)
 · have hlt0:b<H0.A6:=by
    obtain⟨_,_,⟨h6,_⟩|⟨b',h6,_,h7,_⟩⟩:=hb.out
    ·omega
    ·cases h6;exact h7.lt hb.wf
   have hlt:=h4.lt w;obtain⟨c2,e1,hc2⟩:=tp (yc:=yc) hm hnm h3 hl hln hone hc h4;refine⟨_,(H.put b (none:Option N2)).new (.row c2 (vs++new).length e false false),_,e1,?_,rfl,.inr ⟨b,?_,h5,hlt0,by omega⟩,⟨⟨hlen,hall,.inr ⟨_,rfl,by omega,?_,JJ hn hn2⟩⟩,(w.put hlt _).new _,(f.O6 (none:Option N2) (fun hk=>by omega) (by omega)).CJ _⟩,rfl,fun c hc=>?_,((Fr.refl _ _).O6 (none:Option N2) (fun _=>⟨h3,_,_,_,rfl⟩) (by omega)).CJ _⟩
   ·show B8 ((H.put b (none:Option N2)).new _) H.base H.log=_;have:((H.put b (none:Option N2)).new (.row c2 (vs++new).length e false false)).log=H.log:=Jv (o:=none) (by omega);rw[←this];rfl
   · show Jk H.A6 [] b=[b]
     exact AAS hlt
   ·exact⟨c2,by show(((H.put b (none:Option N2)).new _).at H.A6)=_;rw[Cz];exact if_pos rfl,hc2⟩
   ·exact(CN (by show c≠H.A6;omega)).trans (E9 (by omega))
theorem fV{x:A0}{k:Nat}(b:Nat)(hs:Sl 1 X x k ws)(h0:0<k)(hk:k≤100000):DJ E 1 (F8 b 0 0 0) x (B8 X X.A6 [])=.val (F8 X.A6 0 k (C4 1 k)) (B8 (X.new (B6 ws ws.length E false)) X.A6 []):=by obtain⟨yb,yo,yc,rfl,hhas⟩:=hs.pos h0;exact Jr (.inl ⟨b,rfl⟩) h0 hk (hhas.cells hs.1.symm)
theorem AMx{x:A0}{k:Nat}(b:Nat)(hs:Sl 1 X x k ws)(h0:0<k)(hk:k≤100000):DJ E 1 (F8 b 0 0 0) x X=.val (F8 X.A6 0 k (C4 1 k)) (X.new (B6 ws ws.length E false)):=by obtain⟨yb,yo,yc,rfl,hhas⟩:=hs.pos h0;exact Jr (.inl ⟨b,rfl⟩) h0 hk (hhas.cells hs.1.symm)
theorem pw{k:Nat}{new:List A0}(ho:Has X b 0 ws)(hl:ws.length=k)(h0:0<k)(hy:Sl 1 X y m new)(hm:0<m)(hk:k+m≤100000):DJ E 1 (F8 b 0 k k) y X=.val (F8 X.A6 0 (k+m) (C4 1 (k+m))) (X.new (B6 (ws++new) (ws++new).length E false)):=by
 obtain⟨yb,yo,yc,rfl,hhas⟩:=hy.pos hm;have hc:=hhas.cells hy.1.symm;have hold:cellsOf X b 0 (k*1)=some ws:=ho.cells (by omega);have io:T6 k=false:=GD (by unfold R8;omega);have sk:sure k=k:=by unfold sure;rw[io,cond_false]
 unfold DJ;rw[mB,U4 (by omega),cond_false,hc];show Np (F8 b 0 k k) (HI E 1 X m new) (Nu E 1 X m new) .none=_;rw[LM];unfold HI;rw[C1,show Nat.add k m=k+m from rfl,sk,GD (by omega),cond_false,W8 (by omega),cond_true,U4 (by omega),cond_false,show Nat.mul k 1=k*1 from rfl,hold,FL,io,cond_false];exact VA E 1 (ws++new) (k+m) X
theorem Bd.one(hb:Bd e 1 K Q H v n vs)(hK:Wf K)(x:A0)(hx:Cell x)(hn:n≤90000):
 ∃v' H',DJ e 1 v (F8 H.A6 0 1 1) (H.new (B6 [x] 1 e true))=.val v' H'∧Bd e 1 K Q H' v' (n+1) (vs++[x]):=by
 obtain⟨v',H',h1,h2,_⟩:=(hb.step (hb.wf.new _) (Fr.new (B6 [x] 1 e true))).app hK (y:=F8 H.A6 0 1 1) ⟨rfl,.inr ⟨_,_,_,rfl,by omega,O3 Dm (by simp)⟩⟩ (by rw[pH hx];rfl) (by omega) (by omega);exact⟨v',H',h1,h2⟩
end
def AHK(s:Nat)(x y:A0)(h:Hp):N3:=wq h s y (fun n new=>Np x
 (fun b o l _=>C8 (Xx n l) fun m=>bif Nat.beq m 0 then YP (AD .i64 0) h else Ar h b o (KK (Nat.mul m s) new) (fun h=>YP (AD .i64 m) h) .none) (fun l _=>bif Nat.beq l 0 then YP (AD .i64 0) h else .none) .none) .none
theorem AR6(s:Nat)(x y:OD)(A7:Call)(lo:List A0)(tm:T A0)(h:Hp):AHV s x y A7 lo tm h=AHK s (G4 x lo tm) (G4 y lo tm) h:=rfl
theorem A7r(a b:Nat):Xx a b=min a b:=by
 unfold Xx;by_cases h:a≤b
 ·rw[W8 h,cond_true,A1v h]
 ·rw[GD (by omega),cond_false,Nat.min_eq_right (by omega)]
theorem A81{l:List A0}(h:K9 l=true)(k:Nat):K9 (l.take k)=true:=by
 induction l generalizing k with
 | nil=>simp;rfl
 | cons a l ih =>
  cases k with
  | zero=>rfl
  | succ k =>
   have h':(bif Bc a then false else K9 l)=true:=h;show(bif Bc a then false else K9 (l.take k))=true;grind
theorem VQ{s:Nat}{n cc N k:Nat}{yv:A0}{vs:List A0}{c:T A0}{e:TypeId}{cl:Bool}(hy:Sl s h yv m vs)(hone:K9 vs=true)(hat:h.at b=some (.row c N e cl false))(hk:k=min m n)(h0:0<k)(hN:o+k*s≤N):
 AHK s (F8 b o n cc) yv h=.val (.int .i64 (.ofNat k)) (h.put b (some (.row (C7 (vs.take (k*s)) o c fun t=>t) N e cl false))):=by
 obtain⟨yb,yo,yc,rfl,hh⟩:=hy.pos (by omega);have hl:=hy.1;have hlen:(vs.take (k*s)).length=k*s:=by simp_all
 unfold AHK;rw[mB,U4 (by omega),cond_false,hh.cells hl.symm,FL,LM,C1,A7r,←hk,U4 (by omega),cond_false,OF,ZN,hat,FL,XK,cond_false];rw[show Nat.mul k s=k*s from rfl,A81 hone,cond_true,hlen,W8 hN,cond_true];unfold YP;rw[Aa];rfl
theorem Sl.sb{s:Nat}{v:A0}{n:Nat}{vs:List A0}(ho:Sl s h v n vs)(a:Nat)(l:List Nat):Sl s (B8 h a l) v n vs:=ho
theorem Fr.e{a b:Hp}(f:Fr N5 a b):∀c,c<a.A6→b.at c=a.at c:=fun c hc=>f.M5 c hc fun h=>h
theorem Fr.no{P:Nat→Prop}{K H:Hp}(f:Fr P K H)(h:∀k,k<K.A6→P k→False):Fr N5 K H:=f.mono fun k hk hp=>h k hk hp
theorem D9.A9C{r:N7}{P R:T A0→Df→Hp→Prop}(h:D9 r (fun ex tm df H=>(ex=.exit id∧P tm df H)∨(ex=.ret∧R tm df H)))(hk:∀tm df H,P tm df H→D9 (k2 tm df H) ψ)(hr:∀tm df H,R tm df H→ψ .ret tm df H):D9 (Abs.Lt (Abs.Lt r (fun tm df h=>N7.ok Ex.normal tm df h) fun i tm df h=>bif Nat.beq i id then N7.ok Ex.normal tm df h else N7.ok (Ex.exit i) tm df h) k2 e2) ψ:=by
 refine D9.Lt (φ:=fun ex tm df H=>(ex=.normal∧P tm df H)∨(ex=.ret∧R tm df H)) (D9.Lt h ?_) ?_
 · rintro ex tm df H (⟨rfl,hp⟩|⟨rfl,hp⟩)
   ·show D9 (bif Nat.beq id id then _ else _) _;rw[Dg];exact .inl ⟨rfl,hp⟩
   ·exact .inr ⟨rfl,hp⟩
 · rintro ex tm df H (⟨rfl,hp⟩|⟨rfl,hp⟩)
   ·exact hk _ _ _ hp
   ·exact hr _ _ _ hp
structure Ky(h H:Hp)(m:Nat):Prop where
 wf:Wf H
 fr:Fr N5 h H
 nx:H.A6=m
theorem Ky.put{H:Hp}(k:Ky h H m)(hb:h.A6≤b)(hb2:b<m)(hw:Wf h)(o:Option N2):Ky h (H.put b o) m:=⟨k.wf.put (by rw[k.nx];exact hb2) o,k.fr.O6 o (fun h1=>by omega) (by have:=hw.base;omega),k.nx⟩
theorem drawn{P:A0→Hp→Prop}(hw:Wf h)(hP:∀v H n l,P v H→P v (B8 H n l))(hy:C0 r (fun v H=>P v H∧Wf H∧Fr N5 (B8 h h.A6 []) H)):
 ∃v H' H,r=.val v H'∧H'.log=[]∧B8 H' h.base h.log=H∧H'.A6=H.A6∧P v H∧Wf H∧Fr N5 h H:=by
 obtain⟨v,H',e,p,w,f⟩:=hy.get;have hn:h.A6≤H'.A6:=f.A6;exact⟨v,H',_,e,f.log,rfl,rfl,hP _ _ _ _ p,w.AHk (by have:=hw.base;omega) _,rfl,rfl,hn,fun b hb hk=>f.M5 b hb hk⟩
def LS(I:Nat→T A0→Hp→Prop)(φ:Ex→T A0→Df→Hp→Prop)(i:Nat)(e:Ex)(tm:T A0)(df:Df)(h:Hp):Prop:=(e=.normal∧df=[]∧I (i+1) tm h)∨(e≠.normal∧φ e tm df h)
theorem LS.go{φ:Ex→T A0→Df→Hp→Prop}{tm:T A0}(hI:I (i+1) tm h):LS I φ i .normal tm [] h:=.inl ⟨rfl,rfl,hI⟩
theorem LS.ex{φ:Ex→T A0→Df→Hp→Prop}{k:Nat}{tm:T A0}(hI:φ (.exit k) tm df h):LS I φ i (.exit k) tm df h:=.inr ⟨by simp,hI⟩
theorem LS.ret{φ:Ex→T A0→Df→Hp→Prop}{tm:T A0}(hI:φ .ret tm df h):LS I φ i .ret tm df h:=.inr ⟨by simp,hI⟩
theorem K6{b:CC}{n:Nat}(hn:n<1000000)(I:Nat→T A0→Hp→Prop){φ:Ex→T A0→Df→Hp→Prop}{tm:T A0}(h0:I 0 tm h)(hstep:∀i tm h,i<n→I i tm h→D9 (Dx b A7 tm [] h) (LS I φ i))(hend:∀tm h,I n tm h→D9 (Dx b A7 tm [] h) (AGo φ)):D9 (Dx (.loop b) A7 tm [] h) φ:=by
 refine A6E hn (fun i tm df h=>df=[]∧I i tm h) (fun i tm df h hi hI=>?_) (fun tm df h hI=>?_) ⟨rfl,h0⟩
 ·obtain⟨rfl,hI⟩:=hI;exact hstep i tm h hi hI
 grind
def LB(I:Nat→T A0→Hp→Prop)(R:T A0→Hp→Prop)(n i:Nat)(e:Ex)(tm:T A0)(df:Df)(h:Hp):Prop:=df=[]∧((e=.normal∧i<n∧I (i+1) tm h)∨(e=.ret∧R tm h))
theorem LB.go{n:Nat}{tm:T A0}(hi:i<n)(hI:I (i+1) tm h):LB I R n i .normal tm [] h:=⟨rfl,.inl ⟨rfl,hi,hI⟩⟩
theorem LB.ret{n:Nat}{tm:T A0}(hR:R tm h):LB I R n i .ret tm [] h:=⟨rfl,.inr ⟨rfl,hR⟩⟩
theorem AFe{b:CC}{n:Nat}(hn:n<1000000)(I:Nat→T A0→Hp→Prop){tm:T A0}(h0:I 0 tm h)(round:∀i tm h,i≤n→I i tm h→D9 (Dx b A7 tm [] h) (LB I R n i)):D9 (Dx (.loop b) A7 tm [] h) (fun e tm df h=>e=.ret∧df=[]∧R tm h):=by
 refine K6 hn I h0 (fun i tm h hi hI=>?_) (fun tm h hI=>?_)
 · refine(round i tm h (by omega) hI).mono ?_;rintro e tm df h ⟨rfl,⟨rfl,_,hI⟩|⟨rfl,hR⟩⟩
   ·exact .go hI
   ·exact .ret ⟨rfl,rfl,hR⟩
 · refine(round n tm h (M8 _) hI).mono ?_;rintro e tm df h ⟨rfl,⟨rfl,hi,hI⟩|⟨rfl,hR⟩⟩
   ·omega
   constructor<;>grind
theorem D9.S6{r:N7}(h:D9 r (fun e tm df h=>e=.ret∧df=[]∧R tm h))(hr:∀tm h,R tm h→ψ .ret tm [] h):D9 (Abs.Lt r (fun tm df h=>N7.ok Ex.normal tm df h) fun i tm df h=>bif Nat.beq i id then N7.ok Ex.normal tm df h else N7.ok (Ex.exit i) tm df h) ψ:=by refine D9.Lt h ?_;rintro e tm df H ⟨rfl,rfl,hR⟩;exact hr _ _ hR
structure FM where
 size:Nat
 K4:Nat
 data:List (List Nat)
 I0:List Nat
 dead:List Bool
variable {f0:FM}
structure FM.Ok(f:FM):Prop where
 AZH:1≤f.size
 AUZ:f.size≤4096
 Aay:1≤f.K4
 Aad:f.K4≤100000
 n0:1≤f.data.length
 n1:f.data.length≤64
 wl:f.I0.length=f.data.length
 dl:f.dead.length=f.data.length
 row:∀r∈f.data,r.length=f.size∧∀x∈r,x<256
 AZL:∀w∈f.I0,w≤f.K4
def GU(want AM:Nat):Bool:=!(Nat.land want AM == want)
def AR:List Nat→List Nat→Bool
 | w::ws,o::os=>GU w o||AR ws os
 | _,_=>false
theorem ABa(x:Nat):GU x x=false:=by unfold GU;simp
theorem Xb:∀l:List Nat,AR l l=false
 | []=>rfl
 | x::l=>by unfold AR;rw[ABa,Xb l];rfl
def dt:List Nat→List Nat→List Nat
 | o::os,w::ws=>Nat.land o w::dt os ws
 | os,[]=>os
 | [],_=>[]
theorem VV:∀ {w o:List Nat},w.length=o.length→AR w o=false→dt o w=w
 | [],[],_,_=>rfl
 | x::w,y::o,hl,h=>by
  have h':(GU x y||AR w o)=false:=h;rw[A6r] at h';have h1:Nat.land x y=x:=by have:=h'.1;unfold GU at this;simpa using this
  have h2:Nat.land y x=x:=(Nat.and_comm y x).trans h1;show Nat.land y x::dt o w=x::w;rw[h2,VV (Nat.succ.inj hl) h'.2]
def FM.M5(f:FM)(s:Nat):List Nat:=f.data.getD s []
def FM.erase(f:FM)(s:Nat):FM:={ f with data:=f.data.set s (List.replicate f.size 255),I0:=f.I0.set s (f.I0.getD s 0+1) }
def FM.prog(f:FM)(s:Nat)(b:List Nat):FM:={ f with data:=f.data.set s (dt (f.M5 s) b) }
def FM.N6(f:FM)(s:Nat)(want:List Nat):FM:={ f with data:=f.data.set s want,I0:=if AR want (f.M5 s) then f.I0.set s (f.I0.getD s 0+1) else f.I0 }
theorem FM.og{f:FM}{s:Nat}(hs:s<f.data.length)(h:f.M5 s=want):f.N6 s want=f:=by
 subst h;have e1:f.data.set s (f.M5 s)=f.data:=by unfold FM.M5;simp_all
 unfold FM.N6;rw[Xb,e1];rfl
theorem FM.pW{f:FM}{s:Nat}(hl:want.length=(f.M5 s).length)(h:AR want (f.M5 s)=false):f.prog s want=f.N6 s want:=by unfold FM.prog FM.N6;rw[VV hl h,h];rfl
theorem Ml:∀(w:List Nat) (n:Nat),(∀x∈w,x<256)→AR w (List.replicate n 255)=false
 | [],n,_=>by cases n<;>rfl
 | x::w,0,_=>rfl
 | x::w,n+1,h=>by
  show(GU x 255||AR w (List.replicate n 255))=false;rw[Ml w n fun y hy=>h y (EM _ hy),Bool.or_false];have hx:x<2^8:=h x Ct;have e:Nat.land x 255=x:=by have:=A1Y x 8;simp_all
  unfold GU;rw[e];simp
theorem FM.YX{f:FM}{s:Nat}(hs:s<f.data.length):(f.erase s).M5 s=List.replicate f.size 255:=by unfold FM.M5 FM.erase;grind
theorem FM.A5a{f:FM}{s:Nat}(hs:s<f.data.length)(hl:want.length=f.size)(hb:∀x∈want,x<256)(h:AR want (f.M5 s)=true):(f.erase s).prog s want=f.N6 s want:=by have e1:=FM.YX hs;have e2:=VV (by rw[hl,Ad]) (Ml _ _ hb);unfold FM.prog FM.N6;rw[e1,e2,h];unfold FM.erase;simp
def J8(l:List Nat):List A0:=l.map fun x=>.int .i64 (.ofNat x)
def AI3(l:List Bool):List A0:=l.map fun x=>.bool x
def RE(h:Hp)(v:A0)(rows:List (List Nat)):Prop:=∃vs,vs.length=rows.length∧Sl 1 h v rows.length vs∧∀(i:Nat) (r:List Nat),rows[i]?=some r→∃w,vs[i]?=some w∧Sl 1 h w r.length (M4 r)
theorem Sl.fr{s:Nat}{h H:Hp}{v:A0}{n:Nat}{vs:List A0}(ho:Sl s h v n vs)(hw:Wf h)(fr:Fr N5 h H):Sl s H v n vs:=ho.K7 fun c hn hc=>fr.M5 c (ho.lt hw hn hc) fun h=>h
theorem RE.fr{h H:Hp}{v:A0}{rows:List (List Nat)}(hr:RE h v rows)(hw:Wf h)(fr:Fr N5 h H):RE H v rows:=by obtain⟨vs,hl,h1,h2⟩:=hr;exact⟨vs,hl,h1.fr hw fr,fun i r hi=>by obtain⟨w,h3,h4⟩:=h2 i r hi;exact⟨w,h3,h4.fr hw fr⟩⟩
theorem M6{H:Hp}{c:T A0}{e:TypeId}{cl ro:Bool}(h:H.at b=some (.row c m e cl ro)):cE H b=e:=by unfold cE;rw[h]
theorem Y9{H:Hp}(e:H.at b=h.at b):cE H b=cE h b:=by unfold cE;rw[e]
theorem u0.cE{e:TypeId}{H:Hp}{b:Nat}{vs:List A0}(ho:u0 e H b vs):cE H b=e:=by obtain⟨c,h1,_⟩:=ho;exact M6 h1
def YB(e:TypeId)(h:Hp)(v:A0):Prop:=∀c,Ch v c→c<h.A6∧Abs.cE h c=e
theorem YB.fr{e:TypeId}{h H:Hp}{v:A0}(x:YB e h v)(fr:Fr N5 h H):YB e H v:=fun c hc=>by obtain⟨h1,h2⟩:=x c hc;have:=fr.A6;exact⟨by omega,by rw[Y9 (fr.M5 c h1 fun h=>h)];exact h2⟩
theorem YB.put{e:TypeId}{v:A0}(x:YB e h v)(o:Option N2)(hb:Abs.cE h b≠e):YB e (h.put b o) v:=fun c hc=>by obtain⟨h1,h2⟩:=x c hc;exact⟨h1,by rw[Y9 (E9 fun e1=>hb (by rw[e1];exact h2))];exact h2⟩
theorem YB.own{e:TypeId}{l k:Nat}{vs:List A0}(ho:u0 e h b vs)(hw:Wf h):YB e h (F8 b 0 l k):=fun c hc=>by rw[X3 hc];exact⟨ho.lt hw,ho.cE⟩
theorem AMo{H:Hp}{v:A0}{n:Nat}{vs:List A0}(x:Sl 1 H v n vs)(y:Sl 1 H v n ws):vs=ws:=by
 have l1:=x.1;have l2:=y.1;rcases Br n with rfl|hn
 ·grind
 · obtain⟨_,h1⟩:=x.eqv hn;obtain⟨_,h2⟩:=y.eqv hn;refine xw fun i=>?_;rcases DX i n with hi|hi
   ·rw[←h1.row.2.2 i (by omega),←h2.row.2.2 i (by omega)]
   grind
def MB(v:A0):Prop:=∀b o l c,v=F8 b o l c→(l≤c∧c<R8)∨∃m,c=C4 1 m∧l≤m∧m≤100000
theorem MB.cl{l:Nat}(h:l≤c)(h2:c<R8):MB (F8 b o l c):=fun _ _ _ _ e=>by cases e;exact .inl ⟨h,h2⟩
theorem MB.op{l:Nat}(h:l≤m)(h2:m≤100000):MB (F8 b o l (C4 1 m)):=fun _ _ _ _ e=>by cases e;exact .inr ⟨m,rfl,h,h2⟩
theorem ALf{H:Hp}{n:Nat}(hd:Sl 1 H dv n ds)(ht:∀w∈ds,YB 5 H w∧MB w):∀vs,Sl 1 H dv n vs→∀w∈vs,YB 5 H w∧MB w:=fun vs hv=>by rw[AMo hv hd];exact ht
structure DT(h:Hp)(f:FM)(dv wv ev:A0):Prop where
 data:RE h dv f.data
 I0:Sl 1 h wv f.I0.length (J8 f.I0)
 dead:Sl 1 h ev f.dead.length (AI3 f.dead)
 t1:YB 24 h dv
 t2:YB 3 h wv
 t3:YB 4 h ev
 t4:∀vs,Sl 1 h dv f.data.length vs→∀w∈vs,YB 5 h w∧MB w
 t5:MB dv
theorem DT.fr{h H:Hp}{f:FM}{dv wv ev:A0}(x:DT h f dv wv ev)(hw:Wf h)(fr:Fr N5 h H):DT H f dv wv ev:=⟨x.data.fr hw fr,x.I0.fr hw fr,x.dead.fr hw fr,x.t1.fr fr,x.t2.fr fr,x.t3.fr fr,fun vs hv w hm=>(x.t4 vs (hv.K7 fun c _ hc=>(fr.M5 c (x.t1 c hc).1 fun h=>h).symm) w hm).imp (·.fr fr) id,x.t5⟩
def AZT(e:TypeId):Bool:=!(Nat.beq e 24||Nat.beq e 3||Nat.beq e 4||Nat.beq e 5)
theorem ASq{e:TypeId}(h:AZT e=true):e≠24∧e≠3∧e≠4∧e≠5:=by refine⟨?_,?_,?_,?_⟩<;>(rintro rfl;exact absurd h (by decide))
theorem DT.put{H:Hp}{f:FM}(x:DT H f dv wv ev)(o:Option N2){e:TypeId}(he:Abs.cE H b=e)(hn:AZT e=true):DT (H.put b o) f dv wv ev:=by obtain⟨n1,n2,n3,n4⟩:=ASq hn;rw[←he] at n1 n2 n3 n4;have k1:∀ {v:A0} {t:TypeId},YB t H v→Abs.cE H b≠t→∀c,Ch v c→(H.put b o).at c=H.at c:=fun x h c hc=>E9 fun e1=>h (by rw[e1];exact(x c hc).2);refine⟨?_,x.I0.K7 fun c _ hc=>k1 x.t2 n2 c hc,x.dead.K7 fun c _ hc=>k1 x.t3 n3 c hc,x.t1.put o n1,x.t2.put o n2,x.t3.put o n3,fun vs hv w hm=>(x.t4 vs (hv.K7 fun c _ hc=>(k1 x.t1 n1 c hc).symm) w hm).imp (·.put o n4) id,x.t5⟩;obtain⟨ds,h1,h2,h3⟩:=x.data;refine⟨ds,h1,h2.K7 fun c _ hc=>k1 x.t1 n1 c hc,fun i r hi=>?_⟩;obtain⟨w,h4,h5⟩:=h3 i r hi;exact⟨w,h4,h5.K7 fun c _ hc=>k1 (x.t4 ds h2 w (s6 h4)).1 n4 c hc⟩
def N9(f:FM)(dv wv ev:A0):List A0:=[.int .i64 (.ofNat f.size),dv,wv,.int .i64 (.ofNat f.K4),ev]
theorem FM.Ut{f:FM}{s t:Nat}(hs:s<f.data.length):(f.N6 s want).M5 t=if s=t then want else f.M5 t:=by unfold FM.M5 FM.N6;grind
theorem FM.U3(f:FM)(s:Nat)(want:List Nat):(f.N6 s want).data.length=f.data.length:=by unfold FM.N6;simp
theorem FM.T8(f:FM)(s:Nat)(want:List Nat):(f.N6 s want).size=f.size:=rfl
theorem FM.U1(f:FM)(s:Nat)(want:List Nat):(f.N6 s want).K4=f.K4:=rfl
theorem FM.KO(f:FM)(s t:Nat)(want:List Nat):(f.N6 s want).I0.getD t 0≤f.I0.getD t 0+(if s=t then 1 else 0):=by unfold FM.N6;grind
def AJ(S5:List Nat)(t size:Nat):List Nat:=(List.range size).map fun i=>S5.getD (t*size+i) 255
theorem Ah(S5:List Nat)(t size:Nat):(AJ S5 t size).length=size:=by simp[AJ]
theorem Bj{S5:List Nat}(h:∀x∈S5,x<256)(t size:Nat):∀x∈AJ S5 t size,x<256:=by
 intro x hx;obtain⟨i,_,rfl⟩:=FY.1 hx;rw[lj];cases e:S5[t*size+i]? with
 | none=>decide
 | some y=>exact h y (s6 e)
def YY(f:FM)(S5:List Nat):Nat→FM
 | 0=>f
 | t+1=>(YY f S5 t).N6 t (AJ S5 t f.size)
theorem DU(f:FM)(S5:List Nat):∀t,(YY f S5 t).size=f.size
 | 0=>rfl
 | t+1=>DU f S5 t
theorem CA(f:FM)(S5:List Nat):∀t,(YY f S5 t).data.length=f.data.length
 | 0=>rfl
 | t+1=>by show((YY f S5 t).N6 t _).data.length=_;rw[FM.U3,CA f S5 t]
theorem AFl{f:FM}{S5:List Nat}(k:Nat):∀t,t≤f.data.length→(YY f S5 t).M5 k=if k<t then AJ S5 k f.size else f.M5 k
 | 0,_=>by simp[YY]
 | t+1,h=>by show((YY f S5 t).N6 t _).M5 k=_;rw[FM.Ut (by rw[CA];omega),AFl k t (by omega)];grind
def CM(f:FM)(S5:List Nat)(n:Nat)(set jc:List Nat):FM:=(((YY f S5 n).N6 (n+2) set).N6 n jc).N6 (n+1) (List.replicate f.size 255)
theorem lG{f:FM}{S5:List Nat}{n:Nat}{set jc:List Nat}(hn:n+2<f.data.length)(k:Nat):
 (CM f S5 n set jc).M5 k=if k<n then AJ S5 k f.size else if k=n then jc else if k=n+1 then List.replicate f.size 255 else if k=n+2 then set else f.M5 k:=by
 unfold CM;rw[FM.Ut (by rw[FM.U3,FM.U3,CA];omega),FM.Ut (by rw[FM.U3,CA];omega),FM.Ut (by rw[CA];omega),AFl k n (by omega)];grind
def T5:List Nat:=[0,255,0,255,0,255,0,255,0,255,0,255,0,255,0,255,0,255,0,255,0,255,0,255,4,251,0,255,4,251]
def Q5(size:Nat):List Nat:=[0,255,0,255,0,255,1,254]++T5++List.replicate (size-38) 255
theorem FA{size:Nat}(h:38≤size):(Q5 size).length=size:=by simp[Q5,T5];omega
structure Wt(f:FM)(s:Nat)(want:List Nat):Prop where
 ok:f.Ok
 s1:s<f.data.length
 l1:want.length=f.size
 b1:∀x∈want,x<256
theorem FM.Ok.M5{f:FM}(h:f.Ok){s:Nat}(hs:s<f.data.length):f.data[s]?=some (f.M5 s)∧(f.M5 s).length=f.size∧∀x∈f.M5 s,x<256:=by
 have e:f.data[s]?=some (f.M5 s):=by unfold FM.M5;grind
 have:=h.row (f.M5 s) (s6 e);exact⟨e,this.1,this.2⟩
theorem lW:∀(o w:List Nat),(dt o w).length=o.length
 | [],[]=>rfl
 | [],_::_=>rfl
 | _::_,[]=>rfl
 | x::o,y::w=>by show(dt o w).length+1=o.length+1;rw[lW o w]
theorem QD{a n:Nat}(h:a<n):Nat.land a b<n:=AAo (Nat.and_le_left) h
theorem dH:∀(o w:List Nat),(∀x∈o,x<256)→∀x∈dt o w,x<256
 | [],[],h,x,hx=>by cases hx
 | [],_::_,h,x,hx=>by cases hx
 | _::_,[],h,x,hx=>h x hx
 | y::o,z::w,h,x,hx=>by
  rcases m8.1 hx with rfl|hx
  ·exact QD (h y Ct)
  ·exact dH o w (fun x hx=>h x (EM _ hx)) x hx
theorem mem_set{l:List α}{a x:α}(h:x∈l.set i a):x=a∨x∈l:=by grind
theorem FM.Ok.erase{f:FM}(h:f.Ok){s:Nat}(hs:s<f.data.length)(hw:f.I0.getD s 0<f.K4):(f.erase s).Ok:=by
 obtain⟨a,b,c,d,e,g,i,j,k,l⟩:=h;refine⟨a,b,c,d,?_,?_,?_,?_,?_,?_⟩
 ·show 1≤(f.data.set s _).length;rw[Bu];exact e
 ·show(f.data.set s _).length≤64;rw[Bu];exact g
 ·show(f.I0.set s _).length=(f.data.set s _).length;grind
 ·show f.dead.length=(f.data.set s _).length;rw[Bu];exact j
 · intro r hr;rcases mem_set hr with rfl|hr
   ·exact⟨Ad,fun x hx=>by grind⟩
   ·exact k r hr
 · intro w hw';rcases mem_set hw' with rfl|hw'
   ·trivial
   ·exact l w hw'
theorem FM.Ok.prog{f:FM}(h:f.Ok){s:Nat}(hs:s<f.data.length)(want:List Nat):(f.prog s want).Ok:=by
 obtain⟨_,q1,q2⟩:=h.M5 hs;obtain⟨a,b,c,d,e,g,i,j,k,l⟩:=h;refine⟨a,b,c,d,?_,?_,?_,?_,?_,l⟩
 ·show 1≤(f.data.set s _).length;rw[Bu];exact e
 ·show(f.data.set s _).length≤64;rw[Bu];exact g
 ·show f.I0.length=(f.data.set s _).length;rw[Bu];exact i
 ·show f.dead.length=(f.data.set s _).length;rw[Bu];exact j
 · intro r hr;rcases mem_set hr with rfl|hr
   ·exact⟨by rw[lW];exact q1,dH _ _ q2⟩
   ·exact k r hr
def FM.BG(f:FM)(s:Nat)(want:List Nat):FM:=if AR want (f.M5 s)=true then f.erase s else f.prog s want
def FM.Wp(f:FM)(s:Nat)(want:List Nat):Nat:=if f.M5 s=want then 0 else if AR want (f.M5 s)=true then 2 else 1
theorem AG5(f:FM)(s:Nat)(want:List Nat):f.Wp s want≤2:=by unfold FM.Wp;split<;>(try split)<;>omega
theorem AUk{f:FM}{s:Nat}(h:f.Wp s want=0):f.M5 s=want:=by unfold FM.Wp at h;grind
theorem FM.AOf{f:FM}{s:Nat}(hs:s<f.data.length)(want:List Nat):(f.prog s want).M5 s=dt (f.M5 s) want:=by show(f.data.set s (dt (f.M5 s) want)).getD s []=_;grind
theorem FM.AHJ(f:FM)(s:Nat):(f.erase s).data.length=f.data.length:=by unfold FM.erase;simp
theorem FM.AL6(f:FM)(s:Nat)(w:List Nat):(f.prog s w).data.length=f.data.length:=by unfold FM.prog;simp
theorem AHy{f:FM}{s:Nat}(h:Wt f s want)(hn:f.M5 s≠want):(f.BG s want).Wp s want<f.Wp s want:=by
 obtain⟨hok,hs,hl,hb⟩:=h;obtain⟨_,q1,q2⟩:=hok.M5 hs;unfold FM.BG;cases hk:AR want (f.M5 s) with
 | true =>
  rw[if_pos rfl];have e1:=FM.YX hs;have e2:f.Wp s want=2:=by unfold FM.Wp;rw[if_neg hn,if_pos hk]
  rw[e2];unfold FM.Wp;rw[e1,Ml _ _ hb];split<;>simp
 | false =>
  rw[if_neg (by simp)];have e1:=FM.AOf hs want;have e2:f.Wp s want=1:=by unfold FM.Wp;rw[if_neg hn,hk];simp
  rw[e2];have e3:=VV (by rw[hl,q1]) hk;unfold FM.Wp;rw[e1,e3];simp
theorem ADu{f:FM}{s:Nat}(h:Wt f s want)(hn:f.M5 s≠want):(f.BG s want).N6 s want=f.N6 s want:=by
 obtain⟨hok,hs,hl,hb⟩:=h;obtain⟨_,q1,q2⟩:=hok.M5 hs;unfold FM.BG;cases hk:AR want (f.M5 s) with
 | true =>
  rw[if_pos rfl,←FM.A5a hs hl hb hk];symm;exact FM.pW (by rw[FM.YX hs,Ad];exact hl) (by rw[FM.YX hs];exact Ml _ _ hb)
 | false =>
  rw[if_neg (by simp),FM.pW (by rw[hl,q1]) hk];have e1:(f.N6 s want).M5 s=want:=by rw[FM.Ut hs,if_pos rfl]
  exact FM.og (by rw[FM.U3];exact hs) e1
theorem A8l(f:FM)(s:Nat)(want:List Nat):(f.BG s want).data.length=f.data.length:=by
 unfold FM.BG;split
 ·exact FM.AHJ f s
 ·exact FM.AL6 f s want
theorem AIi(f:FM)(s:Nat)(want:List Nat):(f.BG s want).size=f.size∧(f.BG s want).K4=f.K4∧(f.BG s want).dead=f.dead:=by unfold FM.BG;split<;>exact⟨rfl,rfl,rfl⟩
structure A4g(f0:FM)(s:Nat)(want:List Nat)(i:Nat)(f:FM):Prop where
 wt:Wt f s want
 br:f.N6 s want=f0.N6 s want
 rk:f.Wp s want≤2-i
 wr:2≤f.Wp s want→f.I0.getD s 0<f.K4
 de:f.dead=f0.dead
 sz:f.size=f0.size∧f.K4=f0.K4∧f.data.length=f0.data.length
theorem A4g.start{f:FM}{s:Nat}(h:Wt f s want)(hw:f.I0.getD s 0<f.K4):A4g f s want 0 f:=⟨h,rfl,AG5 _ _ _,fun _=>hw,rfl,rfl,rfl,rfl⟩
theorem A4g.step{f:FM}{s:Nat}(h:A4g f0 s want i f)(hn:f.M5 s≠want)(hw:AR want (f.M5 s)=true→f.I0.getD s 0<f.K4):A4g f0 s want (i+1) (f.BG s want):=by
 have e1:=AHy h.wt hn;have e2:=h.rk;have e3:=AG5 f s want;obtain⟨z1,z2,z3⟩:=AIi f s want;have hwt:Wt (f.BG s want) s want:=by
  refine⟨?_,by rw[A8l];exact h.wt.s1,by rw[z1];exact h.wt.l1,h.wt.b1⟩;unfold FM.BG;split
  ·rename_i hk;exact h.wt.ok.erase h.wt.s1 (hw hk)
  ·exact h.wt.ok.prog h.wt.s1 want
 exact⟨hwt,by rw[ADu h.wt hn];exact h.br,by omega,fun h2=>by omega,by rw[z3];exact h.de,by rw[z1];exact h.sz.1,by rw[z2];exact h.sz.2.1,by rw[A8l];exact h.sz.2.2⟩
theorem A4g.I0{f:FM}{s:Nat}(h:A4g f0 s want i f)(hn:f.M5 s≠want)(hk:AR want (f.M5 s)=true):f.I0.getD s 0<f.K4:=by refine h.wr ?_;unfold FM.Wp;grind
theorem A4g.fin{f:FM}{s:Nat}(h:A4g f0 s want i f)(hd:f.M5 s=want):f=f0.N6 s want:=by rw[←h.br,FM.og h.wt.s1 hd]
theorem A4g.end_{f:FM}{s:Nat}(h:A4g f0 s want 2 f):f.M5 s=want:=AUk (by have:=h.rk;omega)
theorem nB:∀ {w o:List Nat} {i x y:Nat},w[i]?=some x→o[i]?=some y→GU x y=true→AR w o=true
 | [],_,i,x,y,h,_,_=>by simp at h
 | _::_,[],i,x,y,_,h,_=>by simp at h
 | a::w,b::o,0,x,y,h1,h2,h=>by
  simp at h1 h2;subst h1 h2;show(GU a b||AR w o)=true;rw[h];rfl
 | a::w,b::o,i+1,x,y,h1,h2,h=>by show(GU a b||AR w o)=true;rw[nB (w:=w) (o:=o) (i:=i) (by simpa using h1) (by simpa using h2) h,Bool.or_true]
theorem uG:∀ {w o:List Nat},(∀(i x y:Nat),w[i]?=some x→o[i]?=some y→GU x y=false)→AR w o=false
 | [],_,_=>by simp[AR]
 | _::_,[],_=>by simp[AR]
 | a::w,b::o,h=>by show(GU a b||AR w o)=false;rw[h 0 a b rfl rfl,uG (w:=w) (o:=o) fun i x y h1 h2=>h (i+1) x y (by simpa using h1) (by simpa using h2)];rfl
theorem ff{y:Nat}:GU x y=!(Nat.beq (Nat.land y x) x):=by
 unfold GU;rw[show Nat.land y x=Nat.land x y from Nat.and_comm y x];cases h:Nat.beq (Nat.land x y) x with
 | true=>simp_all
 | false =>
  have hn:Nat.land x y≠x:=fun e=>by simp_all
  grind
theorem tK:∀ {o w:List Nat} {i x y:Nat},o[i]?=some x→w[i]?=some y→(dt o w)[i]?=some (Nat.land x y)
 | [],_,i,x,y,h,_=>by simp at h
 | _::_,[],i,x,y,_,h=>by simp at h
 | a::o,b::w,0,x,y,h1,h2=>by
  simp at h1 h2;subst h1 h2;rfl
 | a::o,b::w,i+1,x,y,h1,h2=>by show(dt o w)[i]?=_;exact tK (by simpa using h1) (by simpa using h2)
def ai(f:FM)(k s:Nat)(xs:List Nat):FM:=if k=1 then f.erase s else f.prog s xs
def ZV(f:FM)(k s:Nat)(xs:List Nat):List Nat:=if k=1 then List.replicate f.size 255 else dt (f.M5 s) xs
theorem A1m{f:FM}{s:Nat}(hok:f.Ok)(hs:s<f.data.length)(k:Nat)(xs:List Nat):(ZV f k s xs).length=f.size:=by
 unfold ZV;split
 ·exact Ad
 ·rw[lW];exact(hok.M5 hs).2.1
theorem aI(f:FM)(k s:Nat)(xs:List Nat):(ai f k s xs).data=f.data.set s (ZV f k s xs):=by unfold ai ZV;split<;>rfl
theorem OW(f:FM)(k s:Nat)(xs:List Nat):(ai f k s xs).I0=if k=1 then f.I0.set s (f.I0.getD s 0+1) else f.I0:=by unfold ai;split<;>rfl
theorem A8A(f:FM)(k s:Nat)(xs:List Nat):(ai f k s xs).size=f.size∧(ai f k s xs).K4=f.K4∧(ai f k s xs).dead=f.dead:=by unfold ai;split<;>exact⟨rfl,rfl,rfl⟩
abbrev i0:A0:=.int .i64 (.ofNat 0)
noncomputable abbrev iN (n:Nat):A0:=.int .i64 (.ofNat n)
noncomputable abbrev B7:A0:=.slice none 0 0
theorem G6(h:i<l.length):l[i]?=some (l.getD i 0):=by grind
theorem VD(h:l[i]?=some x):l.getD i 0=x:=by grind
theorem EJ(l:List Nat):(J8 l).length=l.length:=by simp[J8]
theorem A27(l:List Bool):(AI3 l).length=l.length:=by simp[AI3]
theorem O7{k:Nat}(h:l[k]?=some x):(J8 l)[k]?=some (iN x):=by simp[J8,h]
theorem ZG{l:List Bool}{k:Nat}{x:Bool}(h:l[k]?=some x):(AI3 l)[k]?=some (.bool x):=by simp[AI3,h]
theorem BC(a b:List Nat):J8 (a++b)=J8 a++J8 b:=by simp[J8]
theorem Fu(l:List Nat):K9 (J8 l)=true:=by
 induction l with
 | nil=>rfl
 | cons x l ih=>exact ih
theorem APA(l:List Bool):K9 (AI3 l)=true:=by
 induction l with
 | nil=>rfl
 | cons x l ih=>exact ih
theorem A6B(l:List Nat)(k x:Nat):J8 (l.set k x)=(J8 l).set k (iN x):=by simp[J8,List.map_set];rfl
def l8(s k:Nat):List Nat:=(List.range k).map (s+·)
theorem AT(s k:Nat):(l8 s k).length=k:=by simp[l8]
theorem OP{s k:Nat}(h:i<k):(l8 s k)[i]?=some (s+i):=by simp[l8,h]
theorem Ju(s k:Nat):l8 s (k+1)=l8 s k++[s+k]:=by simp[l8,qp]
theorem LC(s a b:Nat):l8 s (a+b)=l8 s a++l8 (s+a) b:=by
 induction b with
 | zero=>simp[l8]
 | succ b ih=>rw[←Es,Ju,ih,Ju,iX,Es]
structure TW(H:Hp)(n a b c:Nat)(sv uv tv:A0):Prop where
 st:Sl 1 H sv a (J8 (l8 (n+4) a))
 un:Sl 1 H uv b (J8 (l8 (n+4+a) b))
 ta:Sl 1 H tv c (J8 (l8 (n+4+a+b) c))
def AX(n:Nat)(sv uv tv:A0):List A0:=[iN n,iN n,iN (n+1),iN (n+2),iN (n+3),sv,uv,tv]
theorem TW.fr{h H:Hp}{n a b c:Nat}{sv uv tv:A0}(x:TW h n a b c sv uv tv)(hw:Wf h)(fr:Fr N5 h H):TW H n a b c sv uv tv:=⟨x.st.fr hw fr,x.un.fr hw fr,x.ta.fr hw fr⟩
structure AOS(n a b c N:Nat):Prop where
 n0:1≤n
 n1:n≤3
 a0:1≤a
 a1:a≤2
 b1:b≤20
 c1:c≤3
 AZZ:N=n+4+a+b+c
def ALv:List A0:=[i0,i0,i0,i0,.bool false,i0,i0,B7,B7,B7,B7]
def YR:List A0:=[i0,i0,i0,i0,i0,i0,i0,i0,i0]
def BT:List A0:=[i0,i0,i0,i0,i0,i0,i0,iN 4,iN 4]
def Ci(f:FM)(n:Nat)(dv wv ev sv uv tv:A0)(up:Bool):List A0:=N9 f dv wv ev++AX n sv uv tv++ALv++[.bool false,.bool up,.bool false]++YR
theorem RE.set{H:Hp}{rows:List (List Nat)}{r:List Nat}{vs:List A0}(hi:i<rows.length)(hl:vs.length=rows.length)(hr:∀(j:Nat) (q:List Nat),rows[j]?=some q→∃u,vs[j]?=some u∧Sl 1 H u q.length (M4 q))(hs:Sl 1 H v' rows.length (vs.set i w))(hw:Sl 1 H w r.length (M4 r)):RE H v' (rows.set i r):=by refine⟨vs.set i w,by simp[hl],by rw[Bu];exact hs,fun j q hj=>?_⟩;grind
theorem Sl.AXi{s:Nat}{v:A0}{n:Nat}{vs:List A0}(ho:Sl s h v n vs)(hn:0<n):A4u v=some false:=by obtain⟨b,o,c,rfl,_⟩:=ho.pos hn;rfl
def AX7(E:TypeId):CF:=.mk 8 1 (.seq (.region (.E3 (R6 (.val (.slice .none 0 0))) (.flush 0 T1 .nil))) (.seq (.seq (.region (.E3 (R6 (.tmp [])) (.E3 (AB A4u false (.loc 0)) (.flush 0 V1 .nil)))) (.cond (.tmp V1) (.seq (.region (.E3 (R6 (.val (.slice .none 0 0))) (.flush 0 T1 .nil))) .ret) .skip)) (.seq (.region (.JX (21,[]) (V2 E 0 [] []) (.E3 (R6 (.tmp [])) (.JX (21,[(.some 6),(.some 5)]) (A3Z E 1 (.loc 1) (.loc 0)) (.E3 (R6 (.loc 0)) (.flush 0 T1 .nil)))))) .ret))) [.tmp T1]
theorem zo{v:A0}:∀ {n k:Nat},k<n→(U9 n [v])[k]?=some v
 | n+1,0,_=>rfl
 | n+1,k+1,h=>by show(v::U9 n [v])[k+1]?=_;rw[A11];exact zo (by omega)
def ATq(E:TypeId)(n:Nat)(vs:List A0)(h:Hp)(r:A0)(H:Hp):Prop:=∃b,r=F8 b 0 n (C4 1 n)∧u0 E H b vs∧h.A6≤b∧Wf H∧Fr N5 h H
theorem VK{v:A0}{n:Nat}{vs:List A0}(hw:Wf h)(hv:Sl 1 h v n vs)(hone:K9 vs=true)(h0:0<n)(hn:n≤90000):C0 (G8 (AX7 E) A7 cd [v] h) (ATq E n vs h):=by
 obtain⟨J,hJ,wJ,fJ,nJ,a1⟩:=J7 hw (B6 [] 0 E true);have hn0:=hv.AXi h0;obtain⟨v',H,e1,hb,-⟩:=(Bd.OX (e:=E) (b:=h.A6) wJ fJ).app hw (hv.fr hw fJ) hone h0 (by omega);refine B5 rfl ?_;simp only[B0,reduceCtorEq,hn0,hJ,e1];refine .ret ?_;simp only[B0];rw[Ag,BS] at hb;obtain⟨⟨hl,h1,⟨h2,_⟩|⟨b,rfl,h3,h4,h5⟩⟩,wf,fr⟩:=hb
 ·omega
 ·exact⟨b,rfl,h4,h5,wf,fr⟩
theorem AJr{rows:List (List Nat)}(hl:ds.length=rows.length)(hr:∀(i:Nat) (r:List Nat),rows[i]?=some r→∃w,ds[i]?=some w∧Sl 1 h w r.length (M4 r)):K9 ds=true:=zM fun v hv=>by obtain⟨i,hi⟩:=A1z hv;have h1:=(Fe.1 hi).1;obtain⟨w,h2,h3⟩:=hr i _ (X0 (by omega));rw[hi] at h2;cases h2;exact h3.cell
theorem RE.cell{v:A0}{rows:List (List Nat)}(x:RE h v rows):Cell v:=by obtain⟨_,_,hs,_⟩:=x;exact hs.cell
theorem Dw{e:TypeId}{H:Hp}{vs:List A0}{n:Nat}(ho:u0 e H b vs)(hn:vs.length=n)(h0:0<n):Sl 1 H (F8 b 0 n c) n vs:=⟨by omega,.inr ⟨b,0,c,rfl,h0,ho.has⟩⟩
theorem Jg{H:Hp}{vs:List A0}(hr:HW H b m f)(hn:vs.length=m)(hf:∀j,j<m→vs[j]?=some (f j))(h0:0<m):Sl 1 H (F8 b 0 m c) m vs:=by obtain⟨c',e,cl,hat,hc⟩:=hr;refine⟨by omega,.inr ⟨b,0,c,rfl,h0,c',m,e,cl,false,hat,by omega,fun k hk=>?_⟩⟩;grind
theorem APs{w:Nat}(hx:x<256)(hw:w<256):Nat.xor x (Nat.land (Nat.xor x w) 255)=w:=by
 have h1:Nat.xor x w<2^8:=ABy hx hw;have h2:Nat.land (Nat.xor x w) 255=Nat.xor x w:=by have:=A1Y (Nat.xor x w) 8;simp_all
 rw[h2];show x ^^^ (x ^^^ w)=w;grind
noncomputable abbrev bN (n:Nat):A0:=.int .u8 (.ofNat n)
def Vk(g:FuncId)(cap:List A0):A0:=.func (.func g) ⟨[]⟩ ⟨cap⟩
theorem AXg{R:Type}(g:FuncId)(cap:List A0)(k:FuncId→List A0→List A0→R)(z:R):AFi (Vk g cap) k z=k g [] cap:=rfl
structure AXP(g:FuncId)(cap:List A0)(b10 n p:Nat)(new AM:Nat→Nat)(J:Hp)(i:Nat)(tm:T A0)(H:Hp):Prop where
 tm:D0 tm [([true,false,true,true,true],F8 b10 0 n n),([false,false,true,true,true],iN n),([true,true,false,true,true],iN i),(DZ,Vk g cap),(MC,F8 b10 0 n n),(T1,Vk 126 []),(Q3,C2 p 0),(V1,C2 (p+1) 0),(Q8,C2 (p+1+1) 0)]
 wf:Wf H
 fr:Fr (fun k=>k=b10) J H
 row:HW H b10 n (fun j=>bN (if j<i then new j else AM j))
 ty:cE H b10=5
theorem AKU{g:FuncId}{cap:List A0}{b10 n p:Nat}{new AM:Nat→Nat}{J:Hp}(hn:n≤5000)(hold:∀i,i<n→AM i<256∧new i<256)(hb:J.base≤b10)(hw:∀(H:Hp) i,i<n→(∀c,c<J.A6→c≠b10→H.at c=J.at c)→A7 g ([]++([iN i,bN (AM i)]++cap)) H=.val (bN (new i)) H)(hm:∀(H:Hp) i,A7 126 ([]++([iN i]++[])) H=.val (bN 255) H){tm:T A0}{H:Hp}(h0:AXP g cap b10 n p new AM J 0 tm H):
 D9 (Dx (.loop Hc) A7 tm [] H) (fun ex tm df H=>ex=.exit 0∧df=[]∧AXP g cap b10 n p new AM J n tm H):=by
 refine K6 (n:=n) (by omega) (AXP g cap b10 n p new AM J) h0 (fun i tm H hi hI=>?_) (fun tm H hI=>?_)
 · obtain⟨htm,wf,fr,row,ty⟩:=hI;simp only[D0] at htm;obtain⟨t33,t34,t35,t9,t10,t2,t3,t4,t6,-⟩:=htm;obtain⟨c,e,cl,hat,hc⟩:=row;have hlt:=wf.lt hat;have hbH:=fr.base;obtain⟨ho,hne⟩:=hold i hi;have g1:c.get (path (0+i))=some (bN (AM i)):=by
    grind
   have c1:=hw (B8 H H.A6 []) i hi fun k hk hkn=>fr.M5 k hk hkn;have c2:=hm (B8 H H.A6 []) i;have x1:Nat.xor (AM i) (new i)<256:=ABy (n:=8) ho hne;have x2:Nat.land (Nat.xor (AM i) (new i)) 255<256:=QD x1;have x3:=APs ho hne;have x4:Nat.xor (AM i) (new i)<half .u8:=x1;have x5:Nat.land (Nat.xor (AM i) (new i)) 255<half .u8:=x2;have x6:Nat.xor (AM i) (Nat.land (Nat.xor (AM i) (new i)) 255)<half .u8:=by rw[x3];exact hne
   have m1:comp Zi 3 16=true:=rfl;unfold Hc;simp(disch:=omega) only[B0,reduceCtorEq,t33,t34,t35,t9,t10,t2,AXg,c1,c2,hat,g1,AQo,Jo,x3,m1];refine .go ⟨by simp[D0,T.A9,t33,t34,t9,t10,t2,t3,t4,t6],wf.put hlt _,fr.O6 _ (fun _=>rfl) hb,(Sv hc (0+i) (bN (new i))).congr fun j hj=>?_,(M6 K0).trans ((M6 hat).symm.trans ty)⟩;grind
 ·obtain⟨htm,wf,fr,row,ty⟩:=hI;simp only[D0] at htm;obtain⟨t33,t34,t35,t9,t10,t2,t3,t4,t6,-⟩:=htm;unfold Hc;simp(disch:=omega) only[B0,t34,t35];exact .ex ⟨rfl,rfl,by simp[D0,T.A9,t33,t34,t35,t9,t10,t2,t3,t4,t6],wf,fr,row,ty⟩
def Ce(k s:Nat)(xv:A0):List A0:=[iN k,iN s,i0,xv]
structure pO(H:Hp)(f:FM)(dv wv ev:A0)(k s:Nat)(xv:A0)(xs:List Nat):Prop where
 wf:Wf H
 fl:DT H f dv wv ev
 ok:f.Ok
 s1:s<f.data.length
 dead:f.dead[s]?=some false
 I0:k=1→f.I0.getD s 0<f.K4
 kk:(k=1∧xs=[])∨(k=2∧xs.length=f.size)
 xb:∀x∈xs,x<256
 xl:Sl 1 H xv xs.length (M4 xs)
theorem pO.fr{h H:Hp}{f:FM}{dv wv ev:A0}{k s:Nat}{xv:A0}{xs:List Nat}(q:pO h f dv wv ev k s xv xs)(hw:Wf H)(fr:Fr N5 h H):pO H f dv wv ev k s xv xs:=⟨hw,q.fl.fr q.wf fr,q.ok,q.s1,q.dead,q.I0,q.kk,q.xb,q.xl.fr q.wf fr⟩
theorem DT.sb{H:Hp}{f:FM}(x:DT H f dv wv ev)(n:Nat)(l:List Nat):DT (B8 H n l) f dv wv ev:=⟨x.data,x.I0,x.dead,x.t1,x.t2,x.t3,x.t4,x.t5⟩
theorem pO.sb{H:Hp}{f:FM}{k s:Nat}(q:pO H f dv wv ev k s xv xs):pO (B8 H H.A6 []) f dv wv ev k s xv xs:=⟨q.wf.sb [],q.fl.sb _ _,q.ok,q.s1,q.dead,q.I0,q.kk,q.xb,q.xl⟩
def YS(f':FM)(h:Hp)(r:A0)(H:Hp):Prop:=∃dv wv ev,r=.tuple ⟨[.agg ⟨N9 f' dv wv ev⟩,i0]⟩∧DT H f' dv wv ev∧Wf H∧Fr N5 h H
theorem YS.mk{f':FM}{Z:Hp}(kZ:Ky h Z m)(hf:DT Z f' dv wv ev):YS f' h (.tuple ⟨[.agg ⟨N9 f' dv wv ev⟩,i0]⟩) Z:=⟨dv,wv,ev,rfl,hf,kZ.wf,kZ.fr⟩
abbrev Yo(A7:Call):Prop:=∀H f dv wv ev k s xv xs,pO H f dv wv ev k s xv xs→A7 191 [.agg ⟨N9 f dv wv ev⟩,.agg ⟨Ce k s xv⟩] H=.val i0 H
abbrev A4M(A7:Call):Prop:=∀H k s xv,Cell xv→k=1∨k=2→A7 223 [.agg ⟨Ce k s xv⟩] H=.val (if k=1 then Vk 291 [] else Vk 292 [C2 H.A6 0]) (H.new (B6 (Ce k s xv) 4 127 true))
abbrev A33(A7:Call):Prop:=∀H i j,A7 291 [i,j] H=.val (bN 255) H
abbrev A0D(A7:Call):Prop:=∀H bx s xv xs i x AM,H.at bx=some (B6 (Ce 2 s xv) 4 127 true)→Sl 1 H xv xs.length (M4 xs)→xs[i]?=some x→xs.length≤5000→AM<256→A7 292 [iN i,bN AM,C2 bx 0] H=.val (bN (Nat.land AM x)) H
abbrev ATE(A7:Call):Prop:=∀H i,A7 126 [i] H=.val (bN 255) H
theorem A95{f:FM}{s k:Nat}(q:pO h f dv wv ev k s xv xs):
 C0 (G8 sN A7 cd [.agg ⟨N9 f dv wv ev⟩,.agg ⟨Ce k s xv⟩] h) (QR i0 h):=by
 obtain⟨hw,hf,hok,hs,hd,hwr,hk,hxb,hx⟩:=q;obtain⟨J,hJ,wJ,fJ,nJ,a1,a2⟩:=U7 hw (B6 (N9 f dv wv ev) 5 39 true) (B6 (Ce k s xv) 4 127 true);have hwb:=hw.base;obtain⟨q1,q2,q3,q4,q5,q6,q7,q8,q9,q10⟩:=hok;have ev1:=(hf.dead.fr hw fJ).A (by omega);have AXb:=(hf.I0.fr hw fJ).A (by omega);have xl:=hx.len;have hwg:f.I0[s]?=some (f.I0.getD s 0):=by grind
 have dl:Np dv (fun _ _ l _=>some (Value.int .i64 (.ofNat l))) (fun l _=>some (Value.int .i64 (.ofNat l))) none=some (.int .i64 (.ofNat f.data.length)):=by obtain⟨vs,h1,h2,_⟩:=hf.data;exact h2.len
 unfold N9 Ce at hJ ⊢;unfold N9 at a1;unfold Ce at a2;refine B5 rfl ?_;rcases hk with⟨rfl,rfl⟩|⟨rfl,hl⟩
 ·have:=hwr rfl;simp(disch:=first|omega|(simp only[C6]<;>omega)) only[B0,reduceCtorEq,Nat.reduceAdd,hJ,a1,a2,dl,ev1,AXb,ZG hd,O7 hwg];refine .ret ?_;simp only[B0];exact⟨rfl,fJ.log⟩
 ·simp(disch:=first|omega|(simp only[C6]<;>omega)) only[↓CG,B0,reduceCtorEq,Nat.reduceAdd,hJ,a1,a2,xl,dl,ev1,ZG hd];refine .ret ?_;simp only[B0];exact⟨rfl,fJ.log⟩
theorem A8W{s k:Nat}(hx:Cell xv)(hk:k=1∨k=2):G8 lz A7 cd [.agg ⟨Ce k s xv⟩] h=.val (if k=1 then Vk 291 [] else Vk 292 [C2 h.A6 0]) (h.new (B6 (Ce k s xv) 4 127 true)):=by
 refine VI.get ?_;unfold Ce;refine B5 rfl ?_;rcases hk with rfl|rfl
 ·simp(disch:=first|omega|(simp only[C6]<;>omega)) only[B0,Nat.reduceAdd];refine .ret ?_;simp only[B0];exact⟨rfl,rfl⟩
 ·simp(disch:=first|omega|(simp only[C6]<;>omega)) only[B0,reduceCtorEq,Nat.reduceAdd];refine .ret ?_;simp only[B0];exact⟨rfl,rfl⟩
theorem A10{bx s AM:Nat}(hat:h.at bx=some (B6 (Ce 2 s xv) 4 127 true))(hx:Sl 1 h xv xs.length (M4 xs))(hi:xs[i]?=some x)(hl:xs.length≤5000)(ho:AM<256):
 C0 (G8 gh A7 cd [iN i,bN AM,C2 bx 0] h) (QR (bN (Nat.land AM x)) h):=by
 have hil:=(Fe.1 hi).1;have x1:=hx.A (by omega);have x2:Nat.land AM x<half .u8:=QD ho;have xl:=hx.len;unfold Ce at hat;refine B5 rfl ?_;simp(disch:=first|omega|(simp only[C6]<;>omega)) only[B0,reduceCtorEq,hat,x1,Q1 hi,Jo];refine .ret ?_;simp only[B0];exact⟨rfl,rfl⟩
abbrev IW(F E:Nat)(A7:Call):Prop:=∀h v n vs,Wf h→Sl 1 h v n vs→K9 vs=true→0<n→n≤90000→C0 (A7 F [v] h) (ATq E n vs h)
theorem ATq.draw{n:Nat}{vs:List A0}(hw:Wf h)(hy:C0 r (ATq E n vs (B8 h h.A6 []))):∃b H' H,r=.val (F8 b 0 n (C4 1 n)) H'∧H'.log=[]∧B8 H' h.base h.log=H∧H'.A6=H.A6∧u0 E H b vs∧h.A6≤b∧Wf H∧Fr N5 h H:=by obtain⟨v,H',H,e,l,sb,nx,⟨b,rfl,o,hb⟩,w,f⟩:=drawn (P:=fun v H=>∃b,v=F8 b 0 n (C4 1 n)∧u0 E H b vs∧h.A6≤b) hw (fun _ _ _ _ p=>p) (hy.mono fun v H ⟨b,e,o,hb,w,f⟩=>⟨⟨b,e,o,hb⟩,w,f⟩);grind
abbrev FlApplyR(g:List A0→Hp→N3):Prop:=∀h f dv wv ev k s xv xs,pO h f dv wv ev k s xv xs→C0 (g [.agg ⟨N9 f dv wv ev⟩,.agg ⟨Ce k s xv⟩,Vk 126 []] h) (YS (ai f k s xs) h)
theorem A8w(hck:Yo A7)(has:A4M A7)(ha1:A33 A7)(ha2:A0D A7)(hd1:ATE A7)(hcR:IW 224 24 A7)(hcI:IW 225 3 A7)(hcF:IW 226 4 A7):FlApplyR (G8 sP A7 cd):=by
 intro h f dv wv ev k s xv xs q;obtain⟨hw,hf,hok,hs,hd,hwr,hk,hxb,hx⟩:=id q;have hwb:=hw.base;obtain⟨J,hJ,wJ,fJ,nJ,a1,a2,a3⟩:=PB hw (B6 (N9 f dv wv ev) 5 39 true) (B6 (Ce k s xv) 4 127 true) (B6 [i0,.slice .none 0 0,.slice .none 0 0,i0,.slice .none 0 0] 5 39 true);obtain⟨K,hK,wK,fK,nK,a4,a5⟩:=U7 wJ (B6 (Ce k s xv) 4 127 true) (B6 (U9 f.size [bN 0]) f.size 5 true);have c1:=hck J _ _ _ _ _ _ _ _ (q.fr wJ fJ);have c2:=has (B8 J J.A6 []) k s xv hx.cell (by omega);obtain⟨hat_,hsl,hsb⟩:=hok.M5 hs;have fhK:=fJ.trans fK fun _ _ h=>h;obtain⟨ds,dsl,dsv0,dsr0⟩:=hf.data;obtain⟨w,hws,hwv0⟩:=dsr0 s _ hat_;have dsv:=dsv0.fr hw fhK;have hwv:=hwv0.fr hw fhK;obtain⟨q1,q2,q3,q4,q5,q6,q7,q8,q9,q10⟩:=id hok;have dvA:=dsv.A (by omega);rw[hsl] at hwv;have rl:(U9 f.size [bN 0]).length=f.size:=QS _ _;have e3:=VQ (o:=0) (cc:=f.size) hwv (Kw _) (show K.at (J.A6+1)=some (.row _ _ _ _ false) from a5) (Nat.min_self _).symm (by omega) (by omega);have tk:(M4 (f.M5 s)).take (f.size*1)=M4 (f.M5 s):=TO (by rw[O4];omega);rw[tk] at e3;obtain⟨K2,hK2⟩:∃K2,K.put (J.A6+1) (some (.row (C7 (M4 (f.M5 s)) 0 (C7 (U9 f.size [bN 0]) 0 .nil fun t=>t) fun t=>t) f.size 5 true false))=K2:=⟨_,rfl⟩
 rw[hK2] at e3;have kK:Ky h K (h.A6+5):=⟨wK,fhK,by omega⟩
 have kK2:Ky h K2 (h.A6+5):=by rw[←hK2];exact kK.put (by omega) (by omega) hw _
 have aK:∀c,c≠J.A6+1→K2.at c=K.at c:=fun c hc=>by rw[←hK2,E9 (Ne.symm hc)]
 have row0:HW K2 (J.A6+1) f.size (fun j=>bN ((f.M5 s).getD j 0)):=by refine⟨_,_,_,by rw[←hK2,K0],fun j hj=>?_⟩;rw[AFO (by rw[O4];omega),Q1 (G6 (by omega))]
 have ty0:cE K2 (J.A6+1)=5:=by rw[←hK2];exact M6 K0
 obtain⟨g,cap,hg,hnb,hwant⟩:∃g cap,(if k=1 then Vk 291 [] else Vk 292 [C2 J.A6 0])=Vk g cap∧(∀i,i<f.size→(ZV f k s xs).getD i 0<256)∧∀(H:Hp) i,i<f.size→(∀c,c<K2.A6→c≠J.A6+1→H.at c=K2.at c)→A7 g ([]++([iN i,bN ((f.M5 s).getD i 0)]++cap)) H=.val (bN ((ZV f k s xs).getD i 0)) H:=by
  have hob:∀i,i<f.size→(f.M5 s).getD i 0<256:=fun i hi=>by simp_all
  rcases hk with⟨rfl,rfl⟩|⟨rfl,hl⟩
  · have e:∀i,i<f.size→(ZV f 1 s []).getD i 0=255:=fun i hi=>by
     show(List.replicate f.size 255).getD i 0=255;simp_all
    exact⟨291,[],rfl,fun i hi=>by rw[e i hi];omega,fun H i hi _=>by rw[e i hi];exact ha1 H _ _⟩
  · have e:∀i,i<f.size→(ZV f 2 s xs).getD i 0=Nat.land ((f.M5 s).getD i 0) (xs.getD i 0):=fun i hi=>by
     show(dt (f.M5 s) xs).getD i 0=_;exact VD (tK (G6 (by omega)) (G6 (by omega)))
    refine⟨292,[C2 J.A6 0],rfl,fun i hi=>by rw[e i hi];exact QD (hob i hi),fun H i hi hH=>?_⟩;rw[e i hi];have hxlt:∀c,Ch xv c→c<h.A6:=fun c hc=>hx.lt hw (by omega) hc;have hn2:=kK2.nx;refine ha2 H J.A6 s xv xs i _ _ ?_ (hx.K7 fun c h0 hc=>?_) ?_ (by omega) (hob i hi)
    ·rw[hH _ (by omega) (by omega),aK _ (by omega)];exact a4
    ·have:=hxlt c hc;rw[hH _ (by omega) (by omega),aK _ (by omega)];exact fhK.M5 c this fun h=>h
    ·exact G6 (by omega)
 rw[show(B8 J J.A6 []).A6=J.A6 from rfl,hg] at c2;have dvK2:∀c,c<J.A6→K2.at c=K.at c:=fun c hc=>aK c (by omega);have sdv:=(dsv.S (by omega)).A2z wK;unfold N9 Ce at hJ c1;unfold N9 at a1;unfold Ce at a2 a4 hK c2;refine B5 rfl ?_;unfold N9 Ce;simp(disch:=first|omega|(simp only[C6]<;>omega)|exact⟨rfl,rfl,rfl⟩|assumption) only[↓CG,B0,reduceCtorEq,Nat.reduceAdd,Nat.reduceMul,Nat.reduceSub,hJ,a1,a2,a3,c1,c2,hK,ANp,rl,fK.e,A2B fK,a5,dvA,hws,AR6,e3];refine D9.lp (P:=fun tm df H=>df=[]∧AXP g cap (J.A6+1) f.size h.A6 (fun i=>(ZV f k s xs).getD i 0) (fun i=>(f.M5 s).getD i 0) K2 f.size tm H) (AKU (by omega) (fun i hi=>⟨?_,hnb i hi⟩) (by rw[kK2.fr.base];omega) hwant (fun H i=>hd1 H (iN i)) ?_) ?_
 ·exact hsb _ (s6 (G6 (by omega)))
 ·exact⟨by trivial,kK2.wf,Fr.refl _ _,row0.congr fun j hj=>by simp,ty0⟩
 rintro tm df H ⟨rfl,htm,wf,fr,row,ty⟩;simp only[D0] at htm;obtain⟨t33,t34,t35,t9,t10,t2,t3,t4,t6,-⟩:=htm;have fhH:=kK2.fr.trans fr fun c hc e=>by omega
 have nH:=fr.A6;have nK2:=kK2.nx;have aH:∀c,c<J.A6→H.at c=J.at c:=fun c hc=>by rw[fr.M5 c (by omega) (by omega),dvK2 c hc,fK.e c hc]
 obtain⟨b1,H1',H1,r1,l1,s1,n1,o1,g1,w1,f1⟩:=ATq.draw wf (hcR (B8 H H.A6 []) dv _ ds (wf.sb []) ((dsv0.fr hw fhH).sb _ _) (AJr dsl dsr0) (by omega) (by omega));obtain⟨b2,H2',H2,r2,l2,s2,n2,o2,g2,w2,f2⟩:=ATq.draw w1 (hcI (B8 H1 H1.A6 []) wv _ _ (w1.sb []) (((hf.I0.fr hw fhH).fr wf f1).sb _ _) (Fu _) (by omega) (by omega));have f12:=f1.trans f2 fun _ _ h=>h;obtain⟨b3,H3',H3,r3,l3,s3,n3,o3,g3,w3,f3⟩:=ATq.draw w2 (hcF (B8 H2 H2.A6 []) ev _ _ (w2.sb []) (((hf.dead.fr hw fhH).fr wf f12).sb _ _) (APA _) (by omega) (by omega));have f13:=f12.trans f3 fun _ _ h=>h;have m:comp n8 1 10=true∧comp n8 1 12=true∧comp n8 1 14=true∧comp n8 4 10=true∧comp n8 4 12=true∧comp n8 4 14=true∧comp n8 7 10=true∧comp n8 7 12=true∧comp n8 7 14=true:=⟨rfl,rfl,rfl,rfl,rfl,rfl,rfl,rfl,rfl⟩
 have x1:=f1.A6;have x2:=f2.A6;have x3:=f3.A6;have lt1:=o1.lt w1;have AY8:=o2.lt w2;have lt3:=o3.lt w3;have bb1:=f1.base;have bb2:=f2.base;have bb3:=f3.base;have bbH:=fhH.base;have d1:H1.base=H1.base:=rfl;have kH3:Ky h H3 H3.A6:=⟨w3,fhH.trans f13 fun _ _ h=>h,rfl⟩
 obtain⟨c1',hat1,hc1⟩:=o1.K7 ((f2.trans f3 fun _ _ h=>h).e b1 lt1);obtain⟨c2',hat2,hc2⟩:=o2.K7 (f3.e b2 AY8);rw[q7] at r2;rw[q8] at r3;have wl:=EJ f.I0;have xl:=A27 f.dead;rw[wl] at hc2;have gw:c2'.get (path (0+s))=some (iN (f.I0.getD s 0)):=by rw[Ag,hc2 s (by omega),O7 (G6 (by omega))]
 have hwv:f.I0.getD s 0≤f.K4:=q10 _ (s6 (G6 (by omega)));have hdl:=A1m hok hs k xs;have fin:∀Z:Hp,Ky h Z H3.A6→(∀c,c<H3.A6→h.A6+3≤c→c≠b1→c≠b2→Z.at c=H3.at c)→u0 24 Z b1 (ds.set (0+s) (F8 (J.A6+1) 0 f.size f.size))→u0 3 Z b2 (J8 (ai f k s xs).I0)→DT Z (ai f k s xs) (F8 b1 0 f.data.length (C4 1 f.data.length)) (F8 b2 0 f.data.length (C4 1 f.data.length)) (F8 b3 0 f.data.length (C4 1 f.data.length)):=by
  intro Z kZ aZ oz1 oz2;rw[Ag] at oz1;obtain⟨y1,y2,y3⟩:=A8A f k s xs;have yw:(ai f k s xs).I0.length=f.data.length:=by rw[OW];split<;>simp[q7]
  have hslZ:=Dw (n:=f.data.length) (c:=C4 1 f.data.length) oz1 (by rw[Bu];exact dsl) (by omega);refine⟨?_,?_,?_,.own oz1 kZ.wf,.own oz2 kZ.wf,.own (o3.K7 (aZ b3 lt3 (by omega) (by omega) (by omega))) kZ.wf,?_,.op (M8 _) (by omega)⟩
  · rw[aI];have hrow:Sl 1 Z (F8 (J.A6+1) 0 f.size f.size) (ZV f k s xs).length (M4 (ZV f k s xs)):=by
     rw[hdl];refine Jg (row.K7 (by rw[aZ _ (by omega) (by omega) (by omega) (by omega),f13.e _ (by omega)])) (by rw[O4];exact hdl) (fun j hj=>?_) (by omega);rw[if_pos hj,Q1 (G6 (by omega))]
    exact RE.set hs dsl (fun j r hj=>by obtain⟨u,h1,h2⟩:=dsr0 j r hj;exact⟨u,h1,h2.fr hw kZ.fr⟩) (Dw oz1 (by rw[Bu];exact dsl) (by omega)) hrow
  ·rw[yw];exact Dw oz2 (by rw[EJ];exact yw) (by omega)
  ·rw[y3,q8];exact Dw (o3.K7 (aZ b3 lt3 (by omega) (by omega) (by omega))) (by rw[xl];exact q8) (by omega)
  · rw[aI,Bu];refine ALf hslZ fun u hu=>?_;rcases mem_set hu with rfl|hu
    · refine⟨fun c hc=>?_,.cl (M8 _) (by unfold R8;omega)⟩;rw[X3 hc];have e5:Z.at (J.A6+1)=H.at (J.A6+1):=by rw[aZ _ (by omega) (by omega) (by omega) (by omega),f13.e _ (by omega)]
      have hzn:=kZ.nx;exact⟨by omega,by rw[Y9 e5];exact ty⟩
    ·exact(hf.t4 ds dsv0 u hu).imp (·.fr kZ.fr) id
 rcases hk with⟨rfl,rfl⟩|⟨rfl,hl⟩
 · have hwr1:=hwr rfl;simp(disch:=first|omega|(simp only[C6]<;>omega)|exact⟨rfl,rfl,rfl⟩|assumption) only[↓CG,B0,reduceCtorEq,Nat.reduceAdd,Nat.reduceMul,Nat.reduceSub,t3,t4,t6,t10,aH,a1,a2,a3,r1,l1,s1,n1,r2,l2,s2,n2,r3,l3,s3,n3,f1.e,f12.e,f13.e,m,hat1,hat2,gw];refine .ret ?_;simp(disch:=first|omega|(simp only[C6]<;>omega)) only[B0,t6];have ew:(J8 f.I0).set (0+s) (iN (f.I0.getD s 0+1))=J8 (ai f 1 s []).I0:=by rw[OW,if_pos rfl,Ag,A6B]
   refine(fun kZ:Ky h _ H3.A6=>YS.mk kZ (fin _ kZ (fun c h1 h2 h3 h4=>?_) ((Ty (h:=H3) hc1 (0+s) _ (by omega)).K7 ?_) ?_)) ?_
   ·rw[E9 (by omega),E9 (by omega),E9 (by omega),E9 (by omega)]
   ·rw[E9 (by omega),E9 (by omega),K0,K0]
   ·rw[←ew];exact(Ty (h:=H3) (fun k hk=>hc2 k (by omega)) (0+s) _ (by omega)).K7 (by rw[E9 (by omega),K0,K0])
   ·repeat' first|exact kH3|refine Ky.put ?_ (by omega) (by omega) hw _
 · simp(disch:=first|omega|(simp only[C6]<;>omega)|exact⟨rfl,rfl,rfl⟩|assumption) only[↓CG,B0,reduceCtorEq,Nat.reduceAdd,Nat.reduceMul,Nat.reduceSub,t3,t4,t6,t10,aH,a1,a2,a3,r1,l1,s1,n1,r2,l2,s2,n2,r3,l3,s3,n3,f1.e,f12.e,f13.e,m,hat1,hat2];refine .ret ?_;simp(disch:=first|omega|(simp only[C6]<;>omega)) only[B0,t6];refine(fun kZ:Ky h _ H3.A6=>YS.mk kZ (fin _ kZ (fun c h1 h2 h3 h4=>?_) ((Ty (h:=H3) hc1 (0+s) _ (by omega)).K7 ?_) ?_)) ?_
   ·rw[E9 (by omega),E9 (by omega),E9 (by omega)]
   ·rw[E9 (by omega),K0,K0]
   ·rw[show(ai f 2 s xs).I0=f.I0 by rw[OW,if_neg (by omega)]];exact u0.K7 ⟨c2',hat2,fun k hk=>hc2 k (by omega)⟩ (by rw[E9 (by omega),E9 (by omega),E9 (by omega)])
   ·repeat' first|exact kH3|refine Ky.put ?_ (by omega) (by omega) hw _
theorem AGZ{a:Nat}(h1:b≤a)(h2:a≤c):C0 (G8 A5H A7 cd [iN a,iN b,iN c] h) (QR (.bool true) h):=by refine B5 rfl ?_;simp(disch:=omega) only[B0,reduceCtorEq];refine .ret ?_;simp only[B0];exact⟨rfl,rfl⟩
abbrev ANq(A7:Call):Prop:=∀H a b c,b≤a→a≤c→A7 74 [iN a,iN b,iN c] H=.val (.bool true) H
def APt(n:Nat)(h:Hp)(r:A0)(H:Hp):Prop:=∃b,r=F8 b 0 n n∧HW H b n (fun _=>bN 255)∧cE H b=5∧h.A6≤b∧Wf H∧Fr N5 h H
abbrev BlankR(g:List A0→Hp→N3):Prop:=∀h n,Wf h→0<n→n≤5000→C0 (g [iN n] h) (APt n h)
theorem A3z:BlankR (G8 jX A7 cd):=by
 intro h n hw h0 hn;obtain⟨J,hJ,wJ,fJ,nJ,a1⟩:=J7 hw (B6 (U9 n [bN 0]) n 5 true);have rl:(U9 n [bN 0]).length=n:=QS _ _;have hwb:=hw.base;refine B5 rfl ?_;simp(disch:=omega) only[B0,reduceCtorEq,rl,hJ];refine D9.lp (P:=fun tm df H=>df=[]∧D0 tm [(Q3,F8 h.A6 0 n n)]∧Wf H∧Fr N5 h H∧HW H h.A6 n (fun _=>bN 255)∧cE H h.A6=5) ?_ ?_
 · refine K6 (n:=n) (by omega) (fun i tm H=>D0 tm [([],iN n),(Q3,F8 h.A6 0 n n),(V1,iN i)]∧Ky h H (h.A6+1)∧HW H h.A6 n (fun j=>bN (if j<i then 255 else 0))∧cE H h.A6=5) ?_ (fun i tm H hi hI=>?_) (fun tm H hI=>?_)
   ·refine⟨by simp[D0,T.A9,It],⟨wJ,fJ,nJ⟩,⟨_,_,_,a1,fun k hk=>?_⟩,M6 a1⟩;rw[AFO (by omega),zo hk];simp
   ·obtain⟨⟨t0,t3,t4,-⟩,kH,⟨c,e,cl,hat,hc⟩,he⟩:=hI;have bH:=kH.fr.base;unfold Ln;simp(disch:=omega) only[B0,t0,t3,t4,hat];refine .go ⟨by simp[D0,T.A9,t0,t3],kH.put (by omega) (by omega) hw _,(Sv hc (0+i) (bN 255)).congr fun j hj=>?_,(M6 K0).trans ((M6 hat).symm.trans he)⟩;grind
   ·obtain⟨⟨t0,t3,t4,-⟩,kH,row,he⟩:=hI;unfold Ln;simp(disch:=omega) only[B0,t0,t4];exact .ex ⟨rfl,rfl,by simp[D0,T.A9,t3],kH.wf,kH.fr,row.congr fun j hj=>by rw[if_pos hj],he⟩
 rintro tm df H ⟨rfl,⟨t3,-⟩,wf,fr,row,he⟩;simp only[B0,t3];refine .ret ?_;simp only[B0];exact⟨_,rfl,row,he,M8 _,wf,fr⟩
abbrev eB(A7:Call):Prop:=BlankR (A7 75)
theorem APt.sl{n:Nat}{r:A0}{H:Hp}(hb:APt n h r H)(h0:0<n):Sl 1 H r (List.replicate n 255).length (M4 (List.replicate n 255)):=by obtain⟨b,rfl,row,_⟩:=hb;rw[Ad];refine Jg row (by rw[O4,Ad]) (fun j hj=>?_) h0;rw[Q1 (x:=255) (by grind)]
def X2(size n K4:Nat):FM:=⟨size,K4,List.replicate n (List.replicate size 255),List.replicate n 0,List.replicate n false⟩
def Aaf(f:FM)(h:Hp)(r:A0)(H:Hp):Prop:=∃dv wv ev,r=.tuple ⟨[.agg ⟨N9 f dv wv ev⟩,i0]⟩∧DT H f dv wv ev∧Wf H∧Fr N5 h H
def Ra(H:Hp)(ds:List A0)(rows:List (List Nat)):Prop:=ds.length=rows.length∧∀(i:Nat) (r:List Nat),rows[i]?=some r→∃w,ds[i]?=some w∧Sl 1 H w r.length (M4 r)∧0<r.length∧(∀c,Ch w c→cE H c=5)∧MB w
theorem Ra.K7{H:Hp}{rows:List (List Nat)}(x:Ra h ds rows)(hw:Wf h)(f:∀c,c<h.A6→cE h c=5→H.at c=h.at c):Ra H ds rows:=⟨x.1,fun i r hi=>by obtain⟨w,h1,h2,h3,h4,h5⟩:=x.2 i r hi;exact⟨w,h1,h2.K7 fun c h0 hc=>f c (h2.lt hw h0 hc) (h4 c hc),h3,fun c hc=>by rw[Y9 (f c (h2.lt hw h3 hc) (h4 c hc))];exact h4 c hc,h5⟩⟩
theorem Ra.snoc{H:Hp}{rows:List (List Nat)}{r:List Nat}(x:Ra H ds rows)(hs:Sl 1 H w r.length (M4 r))(h0:0<r.length)(hc:∀c,Ch w c→cE H c=5)(hk:MB w):Ra H (ds++[w]) (rows++[r]):=by
 refine⟨by rw[Bz,Bz,x.1];rfl,fun i q hi=>?_⟩;rcases DX i rows.length with h|h
 ·rw[OZ h] at hi;rw[OZ (by rw[x.1];exact h)];exact x.2 i q hi
 ·rw[Gj h] at hi;rw[Gj (by rw[x.1];exact h),x.1];grind
theorem Ra.rows{H:Hp}{ds:List A0}{rows:List (List Nat)}{v:A0}(x:Ra H ds rows)(hs:Sl 1 H v rows.length ds):RE H v rows:=⟨ds,x.1,hs,fun i r hi=>by obtain⟨w,h1,h2,_⟩:=x.2 i r hi;exact⟨w,h1,h2⟩⟩
theorem Ra.ty{H:Hp}{rows:List (List Nat)}(x:Ra H ds rows)(hw:Wf H):∀w∈ds,YB 5 H w∧MB w:=fun w hm=>by obtain⟨i,hi⟩:=A1z hm;have h1:=(Fe.1 hi).1;obtain⟨w',h2,h3,h4,h5,h6⟩:=x.2 i _ (X0 (by have:=x.1;omega));rw[hi] at h2;cases h2;exact⟨fun c hc=>⟨h3.lt hw h4 hc,h5 c hc⟩,h6⟩
theorem Out.AZK{e:TypeId}{P:Nat→Prop}{v:A0}{n:Nat}{vs:List A0}(ho:Out e 1 P h v n vs)(hn:n≤100000):MB v:=by
 obtain⟨_,_,⟨rfl,⟨b,rfl⟩|rfl⟩|⟨b,rfl,_⟩⟩:=ho
 ·exact .cl (M8 _) (by decide)
 ·intro b o l c h;cases h
 ·exact .op (M8 _) hn
theorem Bd.ty{K H:Hp}{Q:Nat→Prop}{v:A0}{n:Nat}{vs:List A0}(hb:Bd E 1 K Q H v n vs)(hn:0<n):YB E H v:=by
 obtain⟨⟨hl,h1,⟨h2,_⟩|⟨b',rfl,h3,h4,h5⟩⟩,w,f⟩:=hb
 ·omega
 ·exact YB.own h4 w
theorem Bd.ne{K H:Hp}{Q:Nat→Prop}{v:A0}{n:Nat}{vs:List A0}(hb:Bd E 1 K Q H v n vs)(hE:E≠5){k:Nat}(hn:0<n)(hv:v=F8 b 0 n k):cE H b≠5:=by
 obtain⟨⟨hl,h1,⟨h2,_⟩|⟨b',h2,h3,⟨c,h4,_⟩,h5⟩⟩,w,f⟩:=hb
 ·omega
 ·rw[hv] at h2;cases h2;rw[M6 h4];exact hE
theorem APt.draw{n:Nat}(hw:Wf h)(hy:C0 r (APt n (B8 h h.A6 []))):∃b H' H,r=.val (F8 b 0 n n) H'∧H'.log=[]∧B8 H' h.base h.log=H∧H'.A6=H.A6∧HW H b n (fun _=>bN 255)∧cE H b=5∧h.A6≤b∧Wf H∧Fr N5 h H:=by obtain⟨v,H',H,e,l,sb,nx,⟨b,rfl,o,he,hb⟩,w,f⟩:=drawn (P:=fun v H=>∃b,v=F8 b 0 n n∧HW H b n (fun _=>bN 255)∧cE H b=5∧h.A6≤b) hw (fun _ _ _ _ p=>p) (hy.mono fun v H ⟨b,e,o,he,hb,w,f⟩=>⟨⟨b,e,o,he,hb⟩,w,f⟩);grind
def AZu(b8:Nat)(sz lim wv ev:A0)(rows:List (List Nat))(J:Hp)(i:Nat)(H:Hp):Prop:=∃v ds,Bd 24 1 J (fun k=>k=b8) H v i ds∧Ra H ds (rows.take i)∧H.at b8=some (B6 [sz,v,wv,lim,ev] 5 39 true)
theorem A71(v:A0):∀n,U9 n [v]=List.replicate n v
 | 0=>rfl
 | n+1=>by show v::U9 n [v]=_;rw[A71 v n];rfl
theorem AK6{H:Hp}{n:Nat}{v:A0}{e:TypeId}{cl:Bool}(hat:H.at b=some (B6 (U9 n [v]) n e cl))(h0:0<n):Sl 1 H (F8 b 0 n c) n (List.replicate n v):=⟨by simp,.inr ⟨b,0,c,rfl,h0,by rw[←A71];exact O3 hat (by rw[QS];omega)⟩⟩
abbrev R17NewR(g:List A0→Hp→N3):Prop:=∀h size n K4,Wf h→1≤size→size≤4096→1≤n→n≤64→1≤K4→K4≤100000→C0 (g [iN size,iN n,iN K4] h) (Aaf (X2 size n K4) h)
theorem A9L(hIn:ANq A7)(hBl:eB A7):R17NewR (G8 yB A7 cd):=by
 intro h size n K4 hw s0 s1 n0 n1 l0 l1;have rl:∀v,(U9 n [v]).length=n:=fun v=>QS _ _;have hwb:=hw.base;obtain⟨J0,hJ0,wJ0,fJ0,nJ0,a1,a2,a3,a4⟩:=A8k hw (B6 [i0,.slice .none 0 0,.slice .none 0 0,i0,.slice .none 0 0] 5 39 true) (B6 (U9 n [i0]) n 3 true) (B6 (U9 n [.bool false]) n 4 true) (B6 [i0,.slice .none 0 0,.slice .none 0 0,i0,.slice .none 0 0] 5 39 true);obtain⟨J,hJ⟩:∃J,J0.put (h.A6+1+1+1) (some (B6 [iN size,.slice .none 0 0,F8 (h.A6+1) 0 n n,iN K4,F8 (h.A6+1+1) 0 n n] 5 39 true))=J:=⟨_,rfl⟩
 have kJ:Ky h J (h.A6+4):=by rw[←hJ];exact(Ky.mk wJ0 fJ0 nJ0).put (by omega) (by omega) hw _
 obtain⟨wJ,fJ,nJ⟩:=kJ;have a4J:J.at (h.A6+1+1+1)=some (B6 [iN size,.slice .none 0 0,F8 (h.A6+1) 0 n n,iN K4,F8 (h.A6+1+1) 0 n n] 5 39 true):=by rw[←hJ,K0]
 unfold B6 at hJ;refine B5 rfl ?_;simp(disch:=first|omega|(simp only[C6]<;>omega)|exact⟨rfl,rfl,rfl⟩|assumption) only[B0,reduceCtorEq,hIn,rl,hJ0,a4,hJ,A2B fJ];refine D9.lp (P:=fun tm df H=>df=[]∧D0 tm [(Q8,C2 h.A6 0),(Cj,C2 (h.A6+1+1+1) 0)]∧AZu (h.A6+1+1+1) (iN size) (iN K4) (F8 (h.A6+1) 0 n n) (F8 (h.A6+1+1) 0 n n) (List.replicate n (List.replicate size 255)) J n H) ?_ ?_
 · refine K6 (n:=n) (by omega) (fun i tm H=>D0 tm [([],iN size),(Q0,iN n),(Q8,C2 h.A6 0),(Cj,C2 (h.A6+1+1+1) 0),(DZ,iN i)]∧AZu (h.A6+1+1+1) (iN size) (iN K4) (F8 (h.A6+1) 0 n n) (F8 (h.A6+1+1) 0 n n) (List.replicate n (List.replicate size 255)) J i H) ?_ (fun i tm H hi hI=>?_) (fun tm H hI=>?_)
   ·exact⟨by trivial,_,[],Bd.nil wJ (Fr.refl _ _),⟨by simp,fun i r hi=>by simp at hi⟩,a4J⟩
   · obtain⟨⟨t0,t1,t6,t8,t9,-⟩,v,ds,bd,rows,at8⟩:=hI;have nH:=bd.fr.A6;have bH:=bd.fr.base;obtain⟨b,H1',H1,r1,l1,s1,n1',o1,oe,g1,w1,f1⟩:=APt.draw bd.wf (hBl (B8 H H.A6 []) size (bd.wf.sb []) (by omega) (by omega));obtain⟨H2,hH2,w2,f2,n2,x2⟩:=J7 w1 (B6 [F8 b 0 size size] 1 24 true);have f12:=f1.trans f2 fun _ _ h=>h;obtain⟨v',Z,Z',e1,e2,e3,hlg,bd2,nZ,aZ,fZ⟩:=bd.AKa w2 f12 wJ (y:=F8 H1.A6 0 1 1) ⟨rfl,.inr ⟨_,_,_,rfl,by omega,O3 x2 (by simp)⟩⟩ rfl (by omega) (by omega);have hcv:=bd2.cell;have h2n:=f12.A6;have bZ:=bd2.fr.base;have m1:comp gq 1 7=true:=rfl;have h1n:=f1.A6;have h1b:=f1.base;have hJb:=fJ.base;have at8Z:Z'.at (h.A6+1+1+1)=H.at (h.A6+1+1+1):=by rw[aZ _ (by omega),f12.e _ (by omega)]
     have at8Y:Z.at (h.A6+1+1+1)=H.at (h.A6+1+1+1):=by rw[←e2];exact at8Z
     have e2':B8 Z' H1.base H1.log=Z:=by rw[←e2,←hH2];rfl
     unfold PM;have hfin:∀tm',tm'.get []=some (iN size)→tm'.get Q0=some (iN n)→tm'.get Q8=some (C2 h.A6 0)→tm'.get Cj=some (C2 (h.A6+1+1+1) 0)→tm'.get DZ=some (iN (i+1))→D0 tm' [([],iN size),(Q0,iN n),(Q8,C2 h.A6 0),(Cj,C2 (h.A6+1+1+1) 0),(DZ,iN (i+1))]∧AZu (h.A6+1+1+1) (iN size) (iN K4) (F8 (h.A6+1) 0 n n) (F8 (h.A6+1+1) 0 n n) (List.replicate n (List.replicate size 255)) J (i+1) (Z.put (h.A6+1+1+1) (some (B6 [iN size,v',F8 (h.A6+1) 0 n n,iN K4,F8 (h.A6+1+1) 0 n n] 5 39 true))):=by
      intro tm' q0 q1 q6 q8 q9;refine⟨⟨q0,q1,q6,q8,q9,trivial⟩,v',ds++[F8 b 0 size size],bd2.put wJ rfl (by omega) (by omega) _,?_,K0⟩;have ht:(List.replicate n (List.replicate size 255)).take (i+1)=(List.replicate n (List.replicate size 255)).take i++[List.replicate size 255]:=by grind
      rw[ht];have hlb:=o1.lt w1;have hvb:∀c,0<i→Ch v c→c<H.A6∧cE H c≠5:=fun c h0 ⟨o,l,k,hv⟩=>by
       obtain⟨_,_,⟨h6,_⟩|⟨b',h6,_,h7,_⟩⟩:=bd.out
       ·omega
       ·rw[hv] at h6;cases h6;exact⟨h7.lt bd.wf,bd.ne (by decide) h0 hv⟩
      have hZ:∀c,c<H2.A6→¬(0<i∧Ch v c)→c≠h.A6+1+1+1→(Z.put (h.A6+1+1+1) (some (B6 [iN size,v',F8 (h.A6+1) 0 n n,iN K4,F8 (h.A6+1+1) 0 n n] 5 39 true))).at c=H2.at c:=fun c h1 h2 h3=>by rw[E9 (Ne.symm h3),fZ.M5 c h1 h2]
      have hbZ:(Z.put (h.A6+1+1+1) (some (B6 [iN size,v',F8 (h.A6+1) 0 n n,iN K4,F8 (h.A6+1+1) 0 n n] 5 39 true))).at b=H1.at b:=by rw[hZ b (by omega) (fun hq=>by grind) (by omega),f2.e b hlb]
      refine(rows.K7 bd.wf fun c h1 h2=>?_).snoc ?_ (by grind) (fun c hc=>?_) ?_
      ·rw[hZ c (by omega) (fun hq=>(hvb c hq.1 hq.2).2 h2) (fun e=>by subst e;rw[M6 at8] at h2;exact absurd h2 (by decide)),f12.e c h1]
      ·rw[Ad];refine Jg (o1.K7 hbZ) (by rw[O4,Ad]) (fun j hj=>?_) (by omega);rw[Q1 (x:=255) (by grind)]
      ·rw[X3 hc,Y9 hbZ];exact oe
      ·exact .cl (M8 _) (by unfold R8;omega)
     rcases hlg with⟨hi0,hlg⟩|⟨b',hlg,g2,g3,g4⟩
     · simp(disch:=first|omega|(simp only[C6]<;>omega)|exact⟨rfl,rfl,rfl⟩|assumption) only[B0,reduceCtorEq,t0,t1,t8,t9,at8,at8Y,r1,l1,s1,hH2,e1,e2',hlg,m1];refine .go (hfin _ ?_ ?_ ?_ ?_ ?_)
       all_goals simp[T.A9,t0,t1,t6,t8]
     · simp(disch:=first|omega|(simp only[C6]<;>omega)|exact⟨rfl,rfl,rfl⟩|assumption) only[B0,reduceCtorEq,t0,t1,t8,t9,at8,at8Y,r1,l1,s1,hH2,e1,e2',hlg,m1];refine .go (hfin _ ?_ ?_ ?_ ?_ ?_)
       all_goals simp[T.A9,t0,t1,t6,t8]
   ·obtain⟨⟨t0,t1,t6,t8,t9,-⟩,hI⟩:=hI;unfold PM;simp(disch:=omega) only[B0,t1,t9];exact .ex ⟨rfl,rfl,by simp[D0,T.A9,t6,t8],hI⟩
 rintro tm df H ⟨rfl,⟨t6,t8,-⟩,v,ds,bd,rows,at8⟩;have nH:=bd.fr.A6;have bH:=bd.fr.base;have hcv:=bd.cell;have a1H:H.at h.A6=J0.at h.A6:=by rw[bd.fr.M5 _ (by omega) (by omega),←hJ,E9 (by omega)]
 simp(disch:=first|omega|(simp only[C6]<;>omega)) only[B0,t6,t8,at8,a1H,a1];refine .ret ?_;simp(disch:=first|omega|(simp only[C6]<;>omega)) only[B0,t6];rw[TO (by simp)] at rows;have fhH:=fJ.trans bd.fr fun k hk e=>by omega
 have kZ:=(Ky.mk bd.wf fhH rfl).put (b:=h.A6) (by omega) (by omega) hw (some (B6 [iN size,v,F8 (h.A6+1) 0 n n,iN K4,F8 (h.A6+1+1) 0 n n] 5 39 true));have own2:∀c,h.A6<c→c<h.A6+1+1+1→(H.put h.A6 (some (B6 [iN size,v,F8 (h.A6+1) 0 n n,iN K4,F8 (h.A6+1+1) 0 n n] 5 39 true))).at c=J0.at c:=fun c h1 h2=>by rw[E9 (by omega),bd.fr.M5 c (by omega) (by omega),←hJ,E9 (by omega)]
 refine⟨_,_,_,rfl,⟨?_,?_,?_,?t1,?t2,?t3,?t4,bd.out.AZK (by omega)⟩,kZ.wf,kZ.fr⟩
 · refine Ra.rows (rows.K7 bd.wf fun c h1 h2=>E9 fun e=>?_) ?_
   ·subst e;rw[M6 (a1H.trans a1)] at h2;exact absurd h2 (by decide)
   · have hs:=bd.sl;rw[show(X2 size n K4).data.length=n from Ad];refine hs.K7 fun c h0 hc=>E9 fun e=>?_;obtain⟨o,l,k,hv⟩:=hc;subst e;obtain⟨_,_,⟨h6,_⟩|⟨b',h6,_,h7,h8⟩⟩:=bd.out
     ·omega
     ·rw[hv] at h6;cases h6;omega
 ·rw[show(X2 size n K4).I0.length=n from Ad,show J8 (X2 size n K4).I0=List.replicate n i0 by simp[J8,X2]];exact AK6 ((own2 _ (by omega) (by omega)).trans a2) (by omega)
 ·rw[show(X2 size n K4).dead.length=n from Ad,show AI3 (X2 size n K4).dead=List.replicate n (.bool false) by simp[AI3,X2]];exact AK6 ((own2 _ (by omega) (by omega)).trans a3) (by omega)
 case t1=>exact(bd.ty (by omega)).put _ (by rw[M6 (a1H.trans a1)];decide)
 case t2=>exact fun c hc=>by rw[X3 hc];exact⟨by show _<H.A6;omega,M6 ((own2 _ (by omega) (by omega)).trans a2)⟩
 case t3=>exact fun c hc=>by rw[X3 hc];exact⟨by show _<H.A6;omega,M6 ((own2 _ (by omega) (by omega)).trans a3)⟩
 case t4 =>
  intro vs hv w hm;rw[show(X2 size n K4).data.length=n from Ad] at hv;have hv2:=hv.K7 fun c h0 hc=>(E9 fun e=>by have h1:=((bd.ty (by omega)) c hc).2;rw[←e,M6 (a1H.trans a1)] at h1;exact absurd h1 (by decide)).symm
  rw[AMo hv2 bd.sl] at hm;exact(rows.ty bd.wf w hm).imp (·.put _ (by rw[M6 (a1H.trans a1)];decide)) id
theorem RE.len{v:A0}{rows:List (List Nat)}(hr:RE h v rows):Np v (fun _ _ l _=>some (Value.int .i64 (.ofNat l))) (fun l _=>some (Value.int .i64 (.ofNat l))) none=some (.int .i64 (.ofNat rows.length)):=by obtain⟨vs,h1,h2,_⟩:=hr;exact h2.len
theorem A3E(hIn:ANq A7){f:FM}(hw:Wf h)(hf:DT h f dv wv ev)(hok:f.Ok):C0 (G8 jO A7 cd [.agg ⟨N9 f dv wv ev⟩] h) (QR (.bool true) h):=by
 obtain⟨J,hJ,wJ,fJ,nJ,a1⟩:=J7 hw (B6 (N9 f dv wv ev) 5 39 true);have hwb:=hw.base;obtain⟨q1,q2,q3,q4,q5,q6,q7,q8,q9,q10⟩:=hok;obtain⟨ds,dsl,dsv,dsr⟩:=hf.data.fr hw fJ;have dl:=dsv.len;have wl:=(hf.I0.fr hw fJ).len;have el:=(hf.dead.fr hw fJ).len;have dA:=dsv.A (by omega);have wA:=(hf.I0.fr hw fJ).A (by omega);unfold N9 at hJ a1 ⊢;refine B5 rfl ?_;simp(disch:=first|omega|(simp only[C6]<;>omega)) only[B0,reduceCtorEq,Nat.reduceAdd,hJ,a1,hIn,dl,wl,el];refine D9.lp (P:=fun tm df H=>df=[]∧H=J) ?_ ?_
 · refine K6 (n:=f.data.length) (by omega) (fun i tm H=>D0 tm [(Q0,C2 h.A6 0),(Q3,iN f.data.length),(V1,iN i)]∧H=J) ⟨by simp[D0,T.A9],rfl⟩ (fun i tm H hi hI=>?_) (fun tm H hI=>?_)
   ·obtain⟨⟨t1,t3,t4,-⟩,rfl⟩:=hI;obtain⟨w,hw1,hw2⟩:=dsr i _ (X0 hi);have hs:=(q9 _ (Dh hi)).1;rw[hs] at hw2;have w2:=hw2.len;have hwr:=q10 _ (Dh (show i<f.I0.length by omega));have c1:=hIn (B8 H H.A6 []) f.I0[i] 0 f.K4 (BB _) hwr;unfold KT;simp(disch:=first|omega|(simp only[C6]<;>omega)|assumption) only[B0,reduceCtorEq,Nat.reduceAdd,t1,t3,t4,a1,dA,hw1,w2,wA,O7 (X0 (show i<f.I0.length by omega)),c1];exact .go ⟨by simp[D0,T.A9,t1,t3],rfl⟩
   ·obtain⟨⟨t1,t3,t4,-⟩,rfl⟩:=hI;unfold KT;simp(disch:=omega) only[B0,t3,t4];exact .ex ⟨rfl,rfl,rfl⟩
 rintro tm df H ⟨rfl,rfl⟩;simp only[B0];refine .ret ?_;simp only[B0];exact⟨rfl,fJ.log⟩
abbrev sE(A7:Call):Prop:=∀H f dv wv ev,Wf H→DT H f dv wv ev→f.Ok→A7 102 [.agg ⟨N9 f dv wv ev⟩] H=.val (.bool true) H
theorem A1R(hIn:ANq A7){f:FM}{s k:Nat}(q:pO h f dv wv ev k s xv xs):
 C0 (G8 gN A7 cd [.agg ⟨N9 f dv wv ev⟩,.agg ⟨Ce k s xv⟩] h) (QR i0 h):=by
 obtain⟨hw,hf,hok,hs,hd,hwr,hk,hxb,hx⟩:=q;obtain⟨J,hJ,wJ,fJ,nJ,a1,a2⟩:=U7 hw (B6 (N9 f dv wv ev) 5 39 true) (B6 (Ce k s xv) 4 127 true);have hwb:=hw.base;obtain⟨q1,q2,q3,q4,q5,q6,q7,q8,q9,q10⟩:=hok;have ev1:=(hf.dead.fr hw fJ).A (by omega);have AXb:=(hf.I0.fr hw fJ).A (by omega);have xl:=hx.len;have hwg:f.I0[s]?=some (f.I0.getD s 0):=G6 (by omega);have dl:=hf.data.len;unfold N9 Ce at hJ ⊢;unfold N9 at a1;unfold Ce at a2;refine B5 rfl ?_;rcases hk with⟨rfl,rfl⟩|⟨rfl,hl⟩
 ·have:=hwr rfl;simp(disch:=first|omega|(simp only[C6]<;>omega)) only[B0,reduceCtorEq,Nat.reduceAdd,hJ,a1,a2,dl,ev1,AXb,ZG hd,O7 hwg,hIn];refine .ret ?_;simp only[B0];exact⟨rfl,fJ.log⟩
 ·simp(disch:=first|omega|(simp only[C6]<;>omega)) only[B0,reduceCtorEq,Nat.reduceAdd,hJ,a1,a2,xl,dl,ev1,ZG hd,hIn];refine .ret ?_;simp only[B0];exact⟨rfl,fJ.log⟩
abbrev YW(A7:Call):Prop:=∀H f dv wv ev k s xv xs,pO H f dv wv ev k s xv xs→A7 200 [.agg ⟨N9 f dv wv ev⟩,.agg ⟨Ce k s xv⟩] H=.val i0 H
def iq(lo:Nat)(H:Hp)(ds:List A0)(rows:List (List Nat)):Prop:=ds.length=rows.length∧∃bs:Nat→Nat,∀(i:Nat) (r:List Nat),rows[i]?=some r→ds[i]?=some (F8 (bs i) 0 r.length (C4 1 r.length))∧u0 5 H (bs i) (M4 r)∧0<r.length∧lo≤bs i∧∀j,j<i→bs j<bs i
theorem iq.K7{H:Hp}{rows:List (List Nat)}(x:iq lo h ds rows)(hw:Wf h)(f:∀c,c<h.A6→cE h c=5→H.at c=h.at c):iq lo H ds rows:=by
 obtain⟨hl,bs,hb⟩:=x;exact⟨hl,bs,fun i r hi=>by obtain⟨h1,h2,h3,h4,h5⟩:=hb i r hi;exact⟨h1,h2.K7 (f _ (h2.lt hw) h2.cE),h3,h4,h5⟩⟩
theorem iq.snoc{H:Hp}{rows:List (List Nat)}{r:List Nat}(x:iq lo H ds rows)(ho:u0 5 H b (M4 r))(h0:0<r.length)(hlo:lo≤b)(hb:∀(i:Nat) (q:List Nat) (c o l k:Nat),rows[i]?=some q→ds[i]?=some (F8 c o l k)→c<b):iq lo H (ds++[F8 b 0 r.length (C4 1 r.length)]) (rows++[r]):=by
 obtain⟨hl,bs,hbs⟩:=x;refine⟨by grind,fun i=>if i<rows.length then bs i else b,fun i q hi=>?_⟩;rcases DX i rows.length with h|h
 ·grind
 · rw[Gj h] at hi;rw[Gj (by omega),hl];obtain⟨d,hd⟩:∃d,i-rows.length=d:=⟨_,rfl⟩
   rw[hd] at hi ⊢;cases d with
   | succ d=>simp at hi
   | zero =>
    grind
def AWg(f:FM)(lo:Nat)(r:A0)(H:Hp):Prop:=∃bd bw be ds,r=.agg ⟨N9 f (F8 bd 0 f.data.length (C4 1 f.data.length)) (F8 bw 0 f.I0.length (C4 1 f.I0.length)) (F8 be 0 f.dead.length (C4 1 f.dead.length))⟩∧u0 24 H bd ds∧iq lo H ds f.data∧u0 3 H bw (J8 f.I0)∧u0 4 H be (AI3 f.dead)∧lo≤bd∧lo≤bw∧lo≤be
def AXU(f:FM)(h:Hp)(r:A0)(H:Hp):Prop:=AWg f h.A6 r H∧Wf H∧Fr N5 h H
def AYp(b3:Nat)(sz lim wv ev:A0)(rows:List (List Nat))(J:Hp)(i:Nat)(H:Hp):Prop:=∃v ds,Bd 24 1 J (fun k=>k=b3) H v i ds∧iq J.A6 H ds (rows.take i)∧H.at b3=some (B6 [sz,v,wv,lim,ev] 5 39 true)
abbrev CopiedR(g:List A0→Hp→N3):Prop:=∀h f dv wv ev,Wf h→DT h f dv wv ev→f.Ok→C0 (g [.agg ⟨N9 f dv wv ev⟩] h) (AXU f h)
theorem vH:CopiedR (G8 ZZ A7 cd):=by
 intro h f dv wv ev hw hf hok;obtain⟨J0,hJ0,wJ0,fJ0,nJ0,a1,a2⟩:=U7 hw (B6 (N9 f dv wv ev) 5 39 true) (B6 [i0,.slice .none 0 0,.slice .none 0 0,i0,.slice .none 0 0] 5 39 true);have hwb:=hw.base;obtain⟨q1,q2,q3,q4,q5,q6,q7,q8,q9,q10⟩:=id hok;obtain⟨J1,hJ1,wJ1,fJ1,nJ1,b1⟩:=J7 wJ0 (B6 [] 0 3 true);have f1:=fJ0.trans fJ1 fun _ _ h=>h;have e1:=fV (E:=3) J0.A6 (hf.I0.fr hw f1) (by omega) (by omega);obtain⟨J2,hJ2,wJ2,fJ2,nJ2,b2⟩:=J7 wJ1 (B6 (J8 f.I0) (J8 f.I0).length 3 false);obtain⟨J3,hJ3,wJ3,fJ3,nJ3,b3⟩:=J7 wJ2 (B6 [] 0 4 true);have f3:=(f1.trans fJ2 fun _ _ h=>h).trans fJ3 fun _ _ h=>h;have e2:=fV (E:=4) J2.A6 (hf.dead.fr hw f3) (by omega) (by omega);obtain⟨J4,hJ4,wJ4,fJ4,nJ4,b4⟩:=J7 wJ3 (B6 (AI3 f.dead) (AI3 f.dead).length 4 false);obtain⟨J5,hJ5,wJ5,fJ5,nJ5,b5⟩:=J7 wJ4 (B6 [i0,.slice .none 0 0,.slice .none 0 0,i0,.slice .none 0 0] 5 39 true);obtain⟨J,hJ⟩:∃J,J5.put J4.A6 (some (B6 [iN f.size,.slice .none 0 0,F8 J1.A6 0 f.I0.length (C4 1 f.I0.length),iN f.K4,F8 J3.A6 0 f.dead.length (C4 1 f.dead.length)] 5 39 true))=J:=⟨_,rfl⟩
 have f5:=((f3.trans fJ4 fun _ _ h=>h).trans fJ5 fun _ _ h=>h)
 have kJ:Ky h J (h.A6+7):=by rw[←hJ];exact(Ky.mk wJ5 f5 (by omega)).put (by omega) (by omega) hw _
 obtain⟨wJ,fJ,nJ⟩:=kJ;have aJ:J.at J4.A6=some (B6 [iN f.size,.slice .none 0 0,F8 J1.A6 0 f.I0.length (C4 1 f.I0.length),iN f.K4,F8 J3.A6 0 f.dead.length (C4 1 f.dead.length)] 5 39 true):=by rw[←hJ,K0]
 have a1J:J.at h.A6=J0.at h.A6:=by rw[←hJ,E9 (by omega),fJ5.e _ (by omega),fJ4.e _ (by omega),fJ3.e _ (by omega),fJ2.e _ (by omega),fJ1.e _ (by omega)]
 unfold N9 at hJ0 a1 ⊢;unfold B6 at hJ;refine B5 rfl ?_;have hb0:=fJ0.base;have hbJ:=fJ.base;have hsb:B8 J J0.base J0.log=J:=by rw[show J0.base=J.base from fJ0.base.trans fJ.base.symm,show J0.log=J.log from fJ0.log.trans fJ.log.symm];rfl
 simp(disch:=first|omega|(simp only[C6]<;>omega)|exact⟨rfl,rfl,rfl⟩|assumption) only[↓CG,B0,reduceCtorEq,Nat.reduceAdd,Nat.reduceMul,Nat.reduceSub,hJ0,a1,hJ1,e1,hJ2,hJ3,e2,hJ4,hJ5,fJ1.e,fJ2.e,fJ3.e,fJ4.e,b5,hJ,hsb];obtain⟨ds0,dsl0,dsv0,dsr0⟩:=hf.data;refine D9.lp (P:=fun tm df H=>df=[]∧D0 tm [(T1,C2 (h.A6+1) 0),(Q3,C2 J4.A6 0)]∧AYp J4.A6 (iN f.size) (iN f.K4) (F8 J1.A6 0 f.I0.length (C4 1 f.I0.length)) (F8 J3.A6 0 f.dead.length (C4 1 f.dead.length)) f.data J f.data.length H) ?_ ?_
 · refine K6 (n:=f.data.length) (by omega) (fun i tm H=>D0 tm [(Q0,C2 h.A6 0),(T1,C2 (h.A6+1) 0),(Q3,C2 J4.A6 0),(V1,iN i)]∧AYp J4.A6 (iN f.size) (iN f.K4) (F8 J1.A6 0 f.I0.length (C4 1 f.I0.length)) (F8 J3.A6 0 f.dead.length (C4 1 f.dead.length)) f.data J i H) ?_ (fun i tm H hi hI=>?_) (fun tm H hI=>?_)
   ·exact⟨by simp[D0,T.A9],_,[],Bd.nil wJ (Fr.refl _ _),⟨by simp,fun i=>0,fun i r hi=>by simp at hi⟩,aJ⟩
   · obtain⟨⟨t1,t2,t3,t4,-⟩,v,ds,bd,rows,at3⟩:=hI;have nH:=bd.fr.A6;have bH:=bd.fr.base;obtain⟨w,hw1,hw2⟩:=dsr0 i _ (X0 hi);have hsz:=(q9 _ (Dh hi)).1;have fhH:=fJ.trans bd.fr fun k hk e=>by omega
     have a1H:H.at h.A6=J0.at h.A6:=by rw[bd.fr.M5 _ (by omega) (by omega),a1J]
     have dA:=(dsv0.fr hw fhH).A (by omega);have dlt:=(dsv0.S (by omega)).A2z hw;have dlen:=(dsv0.fr hw fhH).len;obtain⟨H1,hH1,w1,g1,m1,x1⟩:=J7 bd.wf (B6 [] 0 5 true);have c1:=fV (E:=5) H.A6 ((hw2.fr hw fhH).fr bd.wf g1) (by omega) (by omega);obtain⟨H2,hH2,w2,g2,m2,x2⟩:=J7 w1 (B6 (M4 f.data[i]) (M4 f.data[i]).length 5 false);obtain⟨H3,hH3,w3,g3,m3,x3⟩:=J7 w2 (B6 [F8 H1.A6 0 f.data[i].length (C4 1 f.data[i].length)] 1 24 true);have g12:=g1.trans g2 fun _ _ h=>h;have g13:=g12.trans g3 fun _ _ h=>h;obtain⟨v',Z,Z',e1,e2,e3,hlg,bd2,nZ,aZ,fZ⟩:=bd.AKa w3 g13 wJ (y:=F8 H2.A6 0 1 1) ⟨rfl,.inr ⟨_,_,_,rfl,by omega,O3 x3 (by simp)⟩⟩ rfl (by omega) (by omega);have hcv:=bd2.cell;have bZ:=bd2.fr.base;have at3Z:Z'.at J4.A6=H.at J4.A6:=by rw[aZ _ (by omega),g13.e _ (by omega)]
     have at3Y:Z.at J4.A6=H.at J4.A6:=by rw[←e2];exact at3Z
     have e2':B8 Z' H2.base H2.log=Z:=by rw[←e2,←hH3];rfl
     have m1:comp Um 1 12=true:=rfl;have e2q:B8 Z' H.base H.log=Z:=by rw[←e2,g13.base,g13.log]
     have b1':=g1.base;have b2':=g2.base;have hfin:∀tm',tm'.get Q0=some (C2 h.A6 0)→tm'.get T1=some (C2 (h.A6+1) 0)→tm'.get Q3=some (C2 J4.A6 0)→tm'.get V1=some (iN (i+1))→D0 tm' [(Q0,C2 h.A6 0),(T1,C2 (h.A6+1) 0),(Q3,C2 J4.A6 0),(V1,iN (i+1))]∧AYp J4.A6 (iN f.size) (iN f.K4) (F8 J1.A6 0 f.I0.length (C4 1 f.I0.length)) (F8 J3.A6 0 f.dead.length (C4 1 f.dead.length)) f.data J (i+1) (Z.put J4.A6 (some (B6 [iN f.size,v',F8 J1.A6 0 f.I0.length (C4 1 f.I0.length),iN f.K4,F8 J3.A6 0 f.dead.length (C4 1 f.dead.length)] 5 39 true))):=by
      intro tm' p1 p2 p3 p4;refine⟨⟨p1,p2,p3,p4,trivial⟩,v',ds++[F8 H1.A6 0 f.data[i].length (C4 1 f.data[i].length)],bd2.put wJ rfl (by omega) (by omega) _,?_,K0⟩;rw[AEQ,X0 hi,Option.toList_some];have hvb:∀c,0<i→Ch v c→c<H.A6∧cE H c≠5:=fun c h0 ⟨o,l,k,hv⟩=>by
       obtain⟨_,_,⟨h6,_⟩|⟨b',h6,_,h7,_⟩⟩:=bd.out
       ·omega
       ·rw[hv] at h6;cases h6;exact⟨h7.lt bd.wf,bd.ne (by decide) h0 hv⟩
      have hZ:∀c,c<H3.A6→¬(0<i∧Ch v c)→c≠J4.A6→(Z.put J4.A6 (some (B6 [iN f.size,v',F8 J1.A6 0 f.I0.length (C4 1 f.I0.length),iN f.K4,F8 J3.A6 0 f.dead.length (C4 1 f.dead.length)] 5 39 true))).at c=H3.at c:=fun c h1 h2 h3=>by rw[E9 (Ne.symm h3),fZ.M5 c h1 h2]
      refine(rows.K7 bd.wf fun c h1 h2=>?_).snoc ?_ (by omega) (by omega) (fun j q c o l k hj hd=>?_)
      ·rw[hZ c (by omega) (fun hq=>(hvb c hq.1 hq.2).2 h2) (fun e=>by subst e;rw[M6 at3] at h2;exact absurd h2 (by decide)),g13.e c h1]
      · have ho:u0 5 H2 H1.A6 (M4 f.data[i]):=by rw[←hH2];exact Dy rfl
        exact ho.K7 (by rw[hZ _ (by omega) (fun hq=>by have:=(hvb _ hq.1 hq.2).1;omega) (by omega),g3.e _ (by omega)])
      ·obtain⟨hl,bs,hbs⟩:=rows;obtain⟨h1,h2,_⟩:=hbs j q hj;rw[h1] at hd;cases hd;have:=h2.lt bd.wf;omega
     unfold Ig;rcases hlg with⟨hi0,hlg⟩|⟨b',hlg,g2',g3',g4'⟩
     · simp(disch:=first|omega|(simp only[C6]<;>omega)|exact⟨rfl,rfl,rfl⟩|assumption) only[↓CG,B0,reduceCtorEq,Nat.reduceAdd,Nat.reduceMul,Nat.reduceSub,t1,t2,t3,t4,at3,at3Z,at3Y,a1H,a1,dlen,g1.e,dA,hw1,hH1,c1,hH2,hH3,e1,e2',e2q,e3,hlg,m1];refine .go (hfin _ ?_ ?_ ?_ ?_)
       all_goals simp[T.A9,t1,t2,t3]
     · simp(disch:=first|omega|(simp only[C6]<;>omega)|exact⟨rfl,rfl,rfl⟩|assumption) only[↓CG,B0,reduceCtorEq,Nat.reduceAdd,Nat.reduceMul,Nat.reduceSub,t1,t2,t3,t4,at3,at3Z,at3Y,a1H,a1,dlen,g1.e,dA,hw1,hH1,c1,hH2,hH3,e1,e2',e2q,e3,hlg,m1];refine .go (hfin _ ?_ ?_ ?_ ?_)
       all_goals simp[T.A9,t1,t2,t3]
   · obtain⟨⟨t1,t2,t3,t4,-⟩,hI⟩:=hI;obtain⟨v,ds,bd,rows,at3⟩:=id hI;have nH:=bd.fr.A6;have fhH:=fJ.trans bd.fr fun k hk e=>by omega
     have a1H:H.at h.A6=J0.at h.A6:=by rw[bd.fr.M5 _ (by omega) (by omega),a1J]
     have dlen:=(dsv0.fr hw fhH).len;unfold Ig;simp(disch:=first|omega|(simp only[C6]<;>omega)) only[B0,t1,t4,a1H,a1,dlen];exact .ex ⟨rfl,rfl,by simp[D0,T.A9,t2,t3],hI⟩
 rintro tm df H ⟨rfl,⟨t2,t3,-⟩,v,ds,bd,rows,at3⟩;have nH:=bd.fr.A6;have bH:=bd.fr.base;have hcv:=bd.cell;have jat:∀c,c<J4.A6→H.at c=J4.at c:=fun c hc=>by rw[bd.fr.M5 _ (by omega) (by omega),←hJ,E9 (by omega),fJ5.e c hc]
 have a2H:H.at (h.A6+1)=J0.at (h.A6+1):=by rw[jat _ (by omega),fJ4.e _ (by omega),fJ3.e _ (by omega),fJ2.e _ (by omega),fJ1.e _ (by omega)]
 simp(disch:=first|omega|(simp only[C6]<;>omega)) only[B0,t2,t3,at3,a2H,a2];refine .ret ?_;simp(disch:=first|omega|(simp only[C6]<;>omega)) only[B0,t2];rw[TO (M8 _)] at rows;have fhH:=fJ.trans bd.fr fun k hk e=>by omega
 obtain⟨hl,hone,⟨h6,_⟩|⟨bd0,rfl,h6,h7,h8⟩⟩:=bd.out
 ·omega
 have o1:u0 3 J2 J1.A6 (J8 f.I0):=by rw[←hJ2];exact Dy rfl
 have o2:u0 4 J4 J3.A6 (AI3 f.dead):=by rw[←hJ4];exact Dy rfl
 refine(fun kZ:Ky h _ H.A6=>⟨⟨bd0,J1.A6,J3.A6,ds,rfl,h7.K7 (E9 (by omega)),?r,o1.K7 ?w,o2.K7 ?e,by omega,by omega,by omega⟩,kZ.wf,kZ.fr⟩) ?k
 case r =>
  obtain⟨hl,bs,hbs⟩:=rows.K7 (H:=H.put (h.A6+1) (some (B6 [iN f.size,F8 bd0 0 f.data.length (C4 1 f.data.length),F8 J1.A6 0 f.I0.length (C4 1 f.I0.length),iN f.K4,F8 J3.A6 0 f.dead.length (C4 1 f.dead.length)] 5 39 true))) bd.wf fun c h1 h2=>E9 fun e=>by subst e;rw[M6 (a2H.trans a2)] at h2;exact absurd h2 (by decide)
  exact⟨hl,bs,fun i r hi=>by obtain⟨h1,h2,h3,h4,h5⟩:=hbs i r hi;exact⟨h1,h2,h3,by omega,h5⟩⟩
 case w=>rw[E9 (by omega),jat _ (by omega),fJ4.e _ (by omega),fJ3.e _ (by omega)]
 case e=>rw[E9 (by omega),jat _ (by omega)]
 case k=>exact(Ky.mk bd.wf fhH rfl).put (by omega) (by omega) hw _
abbrev A36(A7:Call):Prop:=CopiedR (A7 6)
def AXA(l:List Nat)(lo:Nat)(r:A0)(H:Hp):Prop:=Sl 1 H r l.length (M4 l)∧∀c,Ch r c→lo≤c
def ANC(l:List Nat)(h:Hp)(r:A0)(H:Hp):Prop:=AXA l h.A6 r H∧Wf H∧Fr N5 h H
abbrev RAskedR(g:List A0→Hp→N3):Prop:=∀h f dv wv ev k s xv xs,pO h f dv wv ev k s xv xs→C0 (g [.agg ⟨N9 f dv wv ev⟩,.agg ⟨Ce k s xv⟩] h) (ANC (ZV f k s xs) h)
theorem A3T(hBl:eB A7):RAskedR (G8 gk A7 cd):=by
 intro h f dv wv ev k s xv xs q;obtain⟨hw,hf,hok,hs,hd,hwr,hk,hxb,hx⟩:=q;obtain⟨J,hJ,wJ,fJ,nJ,a1,a2⟩:=U7 hw (B6 (N9 f dv wv ev) 5 39 true) (B6 (Ce k s xv) 4 127 true);have hwb:=hw.base;obtain⟨q1,q2,q3,q4,q5,q6,q7,q8,q9,q10⟩:=id hok;obtain⟨hat_,hsl,hsb⟩:=hok.M5 hs;unfold N9 Ce at hJ ⊢;unfold N9 at a1;unfold Ce at a2;refine B5 rfl ?_;rcases hk with⟨rfl,rfl⟩|⟨rfl,hl⟩
 ·obtain⟨r,H,e1,hb⟩:=(hBl J f.size wJ (by omega) (by omega)).get;simp(disch:=first|omega|(simp only[C6]<;>omega)) only[B0,Nat.reduceAdd,hJ,a1,a2,e1];refine .ret ?_;simp only[B0];have hb2:=hb.sl (by omega);obtain⟨b,rfl,row,_,hbn,wf,fr⟩:=hb;exact⟨⟨hb2,fun c hc=>by rw[X3 hc];omega⟩,wf,fJ.trans fr fun _ _ h=>h⟩
 · obtain⟨ds,dsl,dsv,dsr⟩:=hf.data;obtain⟨w,hws,hwv⟩:=dsr s _ hat_;obtain⟨J1,hJ1,wJ1,fJ1,nJ1,b1⟩:=J7 wJ (B6 [] 0 5 true);have f1:=fJ.trans fJ1 fun _ _ h=>h;have e1:=AMx (E:=5) J.A6 (hwv.fr hw f1) (by omega) (by omega);obtain⟨J2,hJ2,wJ2,fJ2,nJ2,b2⟩:=J7 wJ1 (B6 (M4 (f.M5 s)) (M4 (f.M5 s)).length 5 false);have f2:=f1.trans fJ2 fun _ _ h=>h;have dA:=dsv.A (by omega);have dlt:=(dsv.S (by omega)).A2z hw;have wlt:=(hx.S (by omega)).A2z hw;have xl:=hx.len;have ho:u0 5 J2 J1.A6 (M4 (f.M5 s)):=by rw[←hJ2];exact Dy rfl
   rw[hsl] at e1;simp(disch:=first|omega|(simp only[C6]<;>omega)) only[B0,Nat.reduceAdd,hJ,a1,a2,hJ1,fJ.e,fJ1.e,dA,hws,e1,hJ2];refine D9.lp (P:=fun tm df H=>df=[]∧D0 tm [(U2,F8 J1.A6 0 f.size (C4 1 f.size))]∧Wf H∧Fr N5 h H∧HW H J1.A6 f.size (fun j=>bN ((ZV f 2 s xs).getD j 0))) ?_ ?_
   · refine K6 (n:=f.size) (by omega) (fun i tm H=>D0 tm [(Q3,C2 (h.A6+1) 0),(U2,F8 J1.A6 0 f.size (C4 1 f.size)),(Q8,iN i)]∧Ky h H (h.A6+4)∧(∀c,c<J1.A6→H.at c=J2.at c)∧HW H J1.A6 f.size (fun j=>bN (if j<i then(ZV f 2 s xs).getD j 0 else(f.M5 s).getD j 0))) ?_ (fun i tm H hi hI=>?_) (fun tm H hI=>?_)
     ·refine⟨by simp[D0,T.A9],⟨wJ2,f2,by omega⟩,fun c hc=>rfl,?_⟩;obtain⟨c,h1,h2⟩:=ho;rw[O4,hsl] at h1 h2;refine⟨c,_,_,h1,fun j hj=>?_⟩;rw[h2 j hj,Q1 (G6 (by omega))];rfl
     · obtain⟨⟨t3,t5,t6,-⟩,kH,hat,row⟩:=hI;obtain⟨c,e,cl,rat,hc⟩:=row;have bH:=kH.fr.base;have nH:=kH.nx;have a2H:H.at (h.A6+1)=J.at (h.A6+1):=by rw[hat _ (by omega),fJ2.e _ (by omega),fJ1.e _ (by omega)]
       have xA:=hx.A (by omega);have hxi:=G6 (show i<xs.length by omega);have hoi:=G6 (show i<(f.M5 s).length by omega);have g1:c.get (path i)=some (bN ((f.M5 s).getD i 0)):=by rw[hc i hi];simp
       have ho2:=hsb _ (s6 hoi);have x1:Nat.land ((f.M5 s).getD i 0) (xs.getD i 0)<half .u8:=QD ho2;have m1:comp NU 6 14=true:=rfl;have m2:comp NU 8 14=true:=rfl;have hnew:Nat.land ((f.M5 s).getD i 0) (xs.getD i 0)=(ZV f 2 s xs).getD i 0:=(VD (tK hoi hxi)).symm;unfold LQ;simp(disch:=first|omega|(simp only[C6]<;>omega)|assumption) only[B0,reduceCtorEq,t3,t5,t6,a2H,a2,rat,Ag,g1,kH.fr.e,xA,Q1 hxi,Jo,m1];refine .go ⟨by simp[D0,T.A9,t3,t5],kH.put (by omega) (by omega) hw _,fun c hc=>by rw[E9 (by omega)];exact hat c hc,?_⟩;rw[hnew];refine(Sv hc i (bN ((ZV f 2 s xs).getD i 0))).congr fun j hj=>?_;by_cases e1:j=i
       ·grind
       · rw[if_neg e1];by_cases e2:j<i
         ·grind
         ·rw[if_neg e2,if_neg (by omega)]
     · obtain⟨⟨t3,t5,t6,-⟩,kH,hat,row⟩:=hI;have a2H:H.at (h.A6+1)=J.at (h.A6+1):=by rw[hat _ (by omega),fJ2.e _ (by omega),fJ1.e _ (by omega)]
       unfold LQ;simp(disch:=first|omega|(simp only[C6]<;>omega)) only[B0,t3,t6,a2H,a2,xl];exact .ex ⟨rfl,rfl,by simp[D0,T.A9,t5],kH.wf,kH.fr,row.congr fun j hj=>by rw[if_pos hj]⟩
   rintro tm df H ⟨rfl,⟨t5,-⟩,wf,fr,row⟩;simp only[B0,t5];refine .ret ?_;simp only[B0];have hdl:=A1m hok hs 2 xs;exact⟨⟨by rw[hdl];exact Jg row (by rw[O4];exact hdl) (fun j hj=>Q1 (G6 (by omega))) (by omega),fun c hc=>by rw[X3 hc];omega⟩,wf,fr⟩
abbrev AEo(A7:Call):Prop:=RAskedR (A7 274)
theorem ALj{f:FM}{s:Nat}(hok:f.Ok)(hs:s<f.data.length)(k:Nat)(xs:List Nat):∀x∈ZV f k s xs,x<256:=by
 unfold ZV;split
 ·simp
 ·exact dH _ _ (hok.M5 hs).2.2
theorem ot(k:IntKind){a:Nat}(h1:a<half k)(h2:Nat.xor a (Nat.land a b)<half k):Mg k (.ofNat a) (.ofNat b)=some (.int k (.ofNat (Nat.xor a (Nat.land a b)))):=by show C8 (Nat.xor a (Nat.land a b)) (fun c=>bif Nat.blt a (half k)&&Nat.blt c (half k) then some (Value.int k (.ofNat c)) else none)=_;rw[C1,BW h1,BW h2];rfl
theorem ZT{a:Nat}(h:a<256):Nat.land a 255=a:=(A1Y a 8).trans (Hi h)
theorem AQH(a:Nat):Nat.lor 0 a=a:=Nat.zero_or a
theorem A7J(a:Nat):Nat.xor a a=0:=Nat.xor_self a
def AYD(e:TypeId)(h:Hp)(b m:Nat)(f:Nat→A0):Prop:=∃c,h.at b=some (.row c m e false false)∧∀k,k<m→c.get (path k)=some (f k)
structure AZR(h:Hp)(mv wv':A0)(b9 bS n m:Nat)(new AM:Nat→Nat)(K:Hp)(i:Nat)(tm:T A0)(H:Hp):Prop where
 tm:D0 tm [(T1,mv),(Q3,C2 h.A6 0),(V1,C2 (h.A6+1) 0),(Q8,C2 (h.A6+1+1) 0),(DZ,C2 b9 0),(MC,wv'),(Ku,iN i)]
 ky:Ky h H m
 M5:∀c,c<m→c≠bS→H.at c=K.at c
 row:AYD 5 H bS n (fun j=>bN (if j<i then new j else AM j))
abbrev RCutR(g:List A0→Hp→N3):Prop:=∀h f dv wv ev k s xv xs mv,pO h f dv wv ev k s xv xs→Sl 1 h mv f.size (M4 (List.replicate f.size 255))→C0 (g [.agg ⟨N9 f dv wv ev⟩,.agg ⟨Ce k s xv⟩,mv] h) (YS (ai f k s xs) h)
theorem AAN(hck:YW A7)(hcp:A36 A7)(has:AEo A7):RCutR (G8 xY A7 cd):=by
 intro h f dv wv ev k s xv xs mv q hm;obtain⟨hw,hf,hok,hs,hd,hwr,hk,hxb,hx⟩:=id q;have hwb:=hw.base;obtain⟨q1,q2,q3,q4,q5,q6,q7,q8,q9,q10⟩:=id hok;obtain⟨hat_,hsl,hsb⟩:=hok.M5 hs;obtain⟨ds0,dsl0,dsv0,dsr0⟩:=id hf.data;obtain⟨w0,hws0,hwv0⟩:=dsr0 s _ hat_;obtain⟨J,hJ,wJ,fJ,nJ,a1,a2,a3⟩:=PB hw (B6 (N9 f dv wv ev) 5 39 true) (B6 (Ce k s xv) 4 127 true) (B6 [i0,.slice .none 0 0,.slice .none 0 0,i0,.slice .none 0 0] 5 39 true);have c1:=hck J _ _ _ _ _ _ _ _ (q.fr wJ fJ);obtain⟨r1,H1',H1,e1,l1,s1,n1,⟨bd,bw,be,ds,rfl,od,⟨dsl,bs,hbs⟩,ow,oe,g1,g2,g3⟩,w1,f1⟩:=drawn (P:=AWg f J.A6) wJ (fun _ _ _ _ p=>p) (hcp (B8 J J.A6 []) f dv wv ev (wJ.sb []) ((hf.fr hw fJ).sb _ _) hok);have fh1:=fJ.trans f1 fun _ _ h=>h;have q1':=q.fr w1 fh1;obtain⟨r2,H2',H2,e2,l2,s2,n2,⟨wt,wtb⟩,w2,f2⟩:=drawn (P:=AXA (ZV f k s xs) H1.A6) w1 (fun _ _ _ _ p=>p) (has (B8 H1 H1.A6 []) f dv wv ev k s xv xs q1'.sb);obtain⟨H3,hH3,w3,f3,n3,b3⟩:=J7 w2 (B6 [i0,.slice .none 0 0,.slice .none 0 0,i0,.slice .none 0 0] 5 39 true);have hdl:=A1m hok hs k xs;have fh2:=fh1.trans f2 fun _ _ h=>h;have fh3:=fh2.trans f3 fun _ _ h=>h;have x1:=f1.A6;have x2:=f2.A6;obtain⟨K,hK⟩:∃K,H3.put H2.A6 (some (B6 (N9 f (F8 bd 0 f.data.length (C4 1 f.data.length)) (F8 bw 0 f.I0.length (C4 1 f.I0.length)) (F8 be 0 f.dead.length (C4 1 f.dead.length))) 5 39 true))=K:=⟨_,rfl⟩
 have kK:Ky h K H3.A6:=by rw[←hK];exact(Ky.mk w3 fh3 rfl).put (by omega) (by omega) hw _
 have odl:=od.lt w1;have owl:=ow.lt w1;have oel:=oe.lt w1;obtain⟨hds,osb,_,g4,_⟩:=hbs s _ hat_;rw[hsl] at hds;have osl:=osb.lt w1;have hdb:bd≠bs s:=fun e=>by have h1:=od.cE;have h2:=osb.cE;grind
 have hwbs:bw≠bs s:=fun e=>by have h1:=ow.cE;have h2:=osb.cE;grind
 have hebs:be≠bs s:=fun e=>by have h1:=oe.cE;have h2:=osb.cE;grind
 have aK1:∀c,c<H1.A6→K.at c=H1.at c:=fun c hc=>by rw[←hK,E9 (by omega),f3.e c (by omega),f2.e c hc]
 have aK9:K.at H2.A6=some (B6 (N9 f (F8 bd 0 f.data.length (C4 1 f.data.length)) (F8 bw 0 f.I0.length (C4 1 f.I0.length)) (F8 be 0 f.dead.length (C4 1 f.dead.length))) 5 39 true):=by rw[←hK,K0]
 have aKJ:∀c,c<J.A6→K.at c=J.at c:=fun c hc=>by rw[aK1 c (by omega),f1.e c hc]
 have hb1:=f1.base;have hb2:=f2.base;have hbJ:=fJ.base;have wtK:Sl 1 K r2 f.size (M4 (ZV f k s xs)):=by rw[←hdl];exact(wt.fr w2 f3).K7 fun c h0 hc=>by rw[←hK,E9 (fun e=>by have:=wt.lt w2 h0 hc;omega)]
 have mA:=hm.A (by omega);have mlt:=(hm.S (by omega)).A2z hw;have ml:=hm.len;have dA:=dsv0.A (by omega);have dlt:=(dsv0.S (by omega)).A2z hw;rw[hsl] at hwv0;have wA:=hwv0.A (by omega);have wlt:=(hwv0.S (by omega)).A2z hw;have tA:=wtK.A (by omega);have tlt:H1.A6≤sB r2∧sB r2<H2.A6:=by obtain⟨e,_⟩:=(hdl▸wt:Sl 1 H2 r2 f.size (M4 (ZV f k s xs))).eqv (by omega);exact⟨wtb _ ⟨_,_,_,e⟩,wt.lt w2 (by omega) ⟨_,_,_,e⟩⟩
 obtain⟨cd0,hatd,hcd⟩:=od;unfold N9 at hK aK9 e1;unfold N9 Ce at hJ c1 e2;unfold N9 at a1;unfold Ce at a2;unfold B6 at hK;refine B5 rfl ?_;unfold N9 Ce;have hsK:B8 K H2.base H2.log=K:=by rw[show H2.base=K.base from fh2.base.trans kK.fr.base.symm,show H2.log=K.log from fh2.log.trans kK.fr.log.symm];rfl
 simp(disch:=first|omega|(simp only[C6]<;>omega)|exact⟨rfl,rfl,rfl⟩|assumption) only[↓CG,B0,reduceCtorEq,Nat.reduceAdd,Nat.reduceMul,Nat.reduceSub,hJ,a1,a2,a3,c1,e1,l1,s1,n1,f1.e,e2,l2,s2,n2,f2.e,hH3,b3,hK,hsK];refine D9.lp (P:=fun tm df H=>df=[]∧AZR h mv r2 H2.A6 (bs s) f.size H3.A6 (fun i=>(ZV f k s xs).getD i 0) (fun i=>(f.M5 s).getD i 0) K f.size tm H) ?_ ?_
 · refine K6 (n:=f.size) (by omega) (AZR h mv r2 H2.A6 (bs s) f.size H3.A6 (fun i=>(ZV f k s xs).getD i 0) (fun i=>(f.M5 s).getD i 0) K) ?_ (fun i tm H hi hI=>?_) (fun tm H hI=>?_)
   ·refine⟨by simp[D0,T.A9,Pa],kK,fun c _ _=>rfl,?_⟩;obtain⟨c,h1,h2⟩:=osb;rw[O4,hsl] at h1 h2;exact⟨c,by rw[aK1 _ osl];exact h1,fun j hj=>by rw[h2 j hj,Q1 (G6 (by omega))];rfl⟩
   · obtain⟨htm,kH,hat,c,rat,hc⟩:=hI;simp only[D0] at htm;obtain⟨t2,t3,t4,t6,t9,t10,t11,-⟩:=htm;have bH:=kH.fr.base;have nH:=kH.nx;have aHJ:∀c,c<J.A6→H.at c=J.at c:=fun c hc=>by rw[hat c (by omega) (by omega),aKJ c hc]
     have aH9:H.at H2.A6=K.at H2.A6:=hat _ (by omega) (by omega);have aHd:H.at bd=H1.at bd:=by rw[hat _ (by omega) hdb,aK1 _ odl]
     have aHt:H.at (sB r2)=K.at (sB r2):=hat _ (by omega) (by omega);have gd:cd0.get (path (0+s))=some (F8 (bs s) 0 f.size (C4 1 f.size)):=by rw[Ag,hcd s (by omega)];exact hds
     have hoi:=G6 (show i<(f.M5 s).length by omega);have hni:=G6 (show i<(ZV f k s xs).length by omega);have ho2:=hsb _ (s6 hoi);have hn2:=ALj hok hs k xs _ (s6 hni);have hmi:(List.replicate f.size 255)[i]?=some 255:=by rw[ZH,if_pos hi]
     have y1:Mg .u8 (.ofNat ((f.M5 s).getD i 0)) (.ofNat 255)=some (bN 0):=by rw[ot .u8 ho2 (by rw[ZT ho2,A7J];decide),ZT ho2,A7J]
     have y2:nn Nat.land .u8 (.ofNat ((ZV f k s xs).getD i 0)) (.ofNat 255)=some (bN ((ZV f k s xs).getD i 0)):=by rw[Jo .u8 (by rw[ZT hn2];exact hn2),ZT hn2]
     have y3:nn Nat.lor .u8 (.ofNat 0) (.ofNat ((ZV f k s xs).getD i 0))=some (bN ((ZV f k s xs).getD i 0)):=by rw[A2c .u8 (by rw[AQH];exact hn2),AQH]
     unfold Ql;simp(disch:=first|omega|(simp only[C6]<;>omega)|exact⟨rfl,rfl,rfl⟩|assumption) only[↓CG,B0,reduceCtorEq,Nat.reduceAdd,Nat.reduceMul,Nat.reduceSub,t2,t3,t4,t9,t10,t11,aHJ,a1,a2,fJ.e,dA,hws0,wA,Q1 hoi,ml,mA,Q1 hmi,aH9,aK9,aHd,hatd,gd,aHt,tA,Q1 hni,y1,y2,y3,rat];refine .go ⟨by simp[D0,T.A9,t2,t3,t4,t6,t9,t10],kH.put (by omega) (by omega) hw _,fun c h1 h2=>by rw[E9 (Ne.symm h2)];exact hat c h1 h2,?_⟩;refine⟨_,K0,fun j hj=>?_⟩;by_cases e1:0+i=j
     ·rw[←e1,ARE];show _=some (bN (if 0+i<i+1 then _ else _));rw[if_pos (by omega),Ag]
     · rw[AQJ e1,hc j hj];show some (bN (if j<i then _ else _))=some (bN (if j<i+1 then _ else _));by_cases e2:j<i
       ·rw[if_pos e2,if_pos (by omega)]
       ·rw[if_neg e2,if_neg (by omega)]
   · obtain⟨htm,kH,hat,row⟩:=hI;have htm':=htm;simp only[D0] at htm;obtain⟨t2,t3,t4,t6,t9,t10,t11,-⟩:=htm;have aHJ:∀c,c<J.A6→H.at c=J.at c:=fun c hc=>by rw[hat c (by omega) (by omega),aKJ c hc]
     unfold Ql;simp(disch:=first|omega|(simp only[C6]<;>omega)) only[B0,Nat.reduceAdd,t3,t11,aHJ,a1];exact .ex ⟨rfl,rfl,by simp[D0,T.A9,t2,t3,t4,t6,t9,t10,t11],kH,hat,row⟩
 rintro tm df H ⟨rfl,htm,kH,hat,row⟩;simp only[D0] at htm;obtain⟨t2,t3,t4,t6,t9,t10,t11,-⟩:=htm;have bH:=kH.fr.base;have nH:=kH.nx;have aHJ:∀c,c<J.A6→H.at c=J.at c:=fun c hc=>by rw[hat c (by omega) (by omega),aKJ c hc]
 have aH9:H.at H2.A6=K.at H2.A6:=hat _ (by omega) (by omega);have owH:=ow.K7 (by rw[hat _ (by omega) hwbs,aK1 _ owl]:H.at bw=H1.at bw);have oeH:=oe.K7 (by rw[hat _ (by omega) hebs,aK1 _ oel]:H.at be=H1.at be);have hwl:f.I0.getD s 0≤f.K4:=q10 _ (s6 (G6 (by omega)));have hne:∀(j:Nat) (r:List Nat),f.data[j]?=some r→j≠s→bs j≠bs s∧u0 5 H1 (bs j) (M4 r)∧0<r.length∧ds[j]?=some (F8 (bs j) 0 r.length (C4 1 r.length)):=fun j r hj hjs=>by
  obtain⟨h1,h2,h3,h4,h5⟩:=hbs j r hj;refine⟨?_,h2,h3,h1⟩;rcases DX j s with hlt|hge
  ·have:=(hbs s _ hat_).2.2.2.2 j hlt;omega
  ·have:=h5 s (by omega);omega
 have hbe:bw≠be:=fun e=>by have h1:=owH.cE;have h2:=oeH.cE;rw[e,h2] at h1;exact absurd h1 (by decide)
 have hbd:bd≠bw:=fun e=>by have h1:=owH.cE;have h2:=M6 ((by rw[hat _ (by omega) hdb,aK1 _ odl]:H.at bd=H1.at bd).trans hatd);rw[e,h1] at h2;exact absurd h2 (by decide)
 have fin:∀Z:Hp,Ky h Z H3.A6→(∀c,c<H1.A6→J.A6≤c→c≠bw→Z.at c=H.at c)→u0 3 Z bw (J8 (ai f k s xs).I0)→DT Z (ai f k s xs) (F8 bd 0 f.data.length (C4 1 f.data.length)) (F8 bw 0 f.I0.length (C4 1 f.I0.length)) (F8 be 0 f.dead.length (C4 1 f.dead.length)):=by
  intro Z kZ aZ oz;obtain⟨y1,y2,y3⟩:=A8A f k s xs;have yw:(ai f k s xs).I0.length=f.I0.length:=by rw[OW];split<;>simp
  have hZ1:∀c,c<H1.A6→J.A6≤c→c≠bw→c≠bs s→Z.at c=H1.at c:=fun c h1 h2 h3 h4=>by rw[aZ c h1 h2 h3,hat c (by omega) h4,aK1 c h1]
  have hslZ:=Dw (c:=C4 1 f.data.length) (u0.K7 ⟨cd0,hatd,hcd⟩ (hZ1 bd odl g1 hbd hdb)) dsl (by omega);refine⟨?_,?_,?_,.own (u0.K7 ⟨cd0,hatd,hcd⟩ (hZ1 bd odl g1 hbd hdb)) kZ.wf,.own oz kZ.wf,.own (oeH.K7 (aZ be oel g3 (Ne.symm hbe))) kZ.wf,?_,.op (M8 _) (by omega)⟩
  · rw[aI];refine⟨ds,by rw[Bu];exact dsl,?_,fun j r hj=>?_⟩
    ·rw[Bu];exact Dw (u0.K7 ⟨cd0,hatd,hcd⟩ (hZ1 bd odl g1 hbd hdb)) dsl (by omega)
    · rw[A7o] at hj;by_cases e1:s=j
      · subst e1;rw[if_pos rfl,if_pos hs] at hj;cases hj;refine⟨_,hds,?_⟩;rw[hdl];obtain⟨c,h1,h2⟩:=row;have hr:HW Z (bs s) f.size (fun j=>bN (if j<f.size then(ZV f k s xs).getD j 0 else(f.M5 s).getD j 0)):=⟨c,5,false,(aZ _ osl g4 (Ne.symm hwbs)).trans h1,h2⟩
        exact Jg hr (by rw[O4];exact hdl) (fun j hj=>by rw[if_pos hj,Q1 (G6 (by omega))]) (by omega)
      · rw[if_neg e1] at hj;obtain⟨h1,h2,h3,h4⟩:=hne j r hj (Ne.symm e1);have h5:=h2.lt w1;have h6:bs j≠bw:=fun e=>by
         have g5:=h2.cE;have g6:=ow.cE;rw[e,g6] at g5;exact absurd g5 (by decide)
        exact⟨_,h4,Dw (h2.K7 (hZ1 _ h5 (hbs j r hj).2.2.2.1 h6 h1)) (O4 r) h3⟩
  ·rw[yw];exact Dw oz (by rw[EJ];exact yw) (by omega)
  ·rw[y3];exact Dw (oeH.K7 (aZ be oel g3 (Ne.symm hbe))) (A27 _) (by omega)
  · rw[aI,Bu];refine ALf hslZ fun u hu=>?_;obtain⟨j,hj⟩:=A1z hu;have hjl:=(Fe.1 hj).1;obtain⟨h1,h2,h3,h4,h5⟩:=hbs j _ (X0 (by omega));rw[hj] at h1;cases h1;have h6:=h2.lt w1;refine⟨fun c hc=>?_,.op (M8 _) (by have:=(q9 _ (Dh (by omega:j<f.data.length))).1;omega)⟩;rw[X3 hc];refine⟨by have:=kZ.nx;omega,?_⟩;by_cases e1:bs j=bs s
    ·obtain⟨c',g5,g6⟩:=row;rw[e1,Y9 (aZ _ osl g4 (Ne.symm hwbs))];exact M6 g5
    · have h7:bs j≠bw:=fun e=>by
       have g5:=h2.cE;have g6:=ow.cE;rw[e,g6] at g5;exact absurd g5 (by decide)
      rw[Y9 (hZ1 _ h6 h4 h7 e1)];exact h2.cE
 obtain⟨cw,hatw,hcw⟩:=owH;have wl:=EJ f.I0;rw[wl] at hcw;have gw:cw.get (path (0+s))=some (iN (f.I0.getD s 0)):=by rw[Ag,hcw s (by omega),O7 (G6 (by omega))]
 rcases hk with⟨rfl,rfl⟩|⟨rfl,hl⟩
 · have hwr1:=hwr rfl;have ew:(J8 f.I0).set (0+s) (iN (f.I0.getD s 0+1))=J8 (ai f 1 s []).I0:=by rw[OW,if_pos rfl,Ag,A6B]
   simp(disch:=first|omega|(simp only[C6]<;>omega)|exact⟨rfl,rfl,rfl⟩|assumption) only[↓CG,B0,reduceCtorEq,Nat.reduceAdd,Nat.reduceMul,Nat.reduceSub,t4,t6,t9,aHJ,a1,a2,a3,aH9,aK9,hatw,gw];refine .ret ?_;simp(disch:=first|omega|(simp only[C6]<;>omega)) only[B0,t6];refine(fun kZ:Ky h _ H3.A6=>YS.mk kZ (fin _ kZ (fun c h1 h2 h3=>?a) ?o)) ?kk
   case a=>rw[E9 (by omega),E9 (by omega)]
   case o =>
    rw[←ew];exact(Ty (fun k hk=>hcw k (by omega)) (0+s) _ (by omega)).K7 (by rw[E9 (by omega),K0])
   case kk=>repeat' first|exact kH|refine Ky.put ?_ (by omega) (by omega) hw _
 · simp(disch:=first|omega|(simp only[C6]<;>omega)) only[↓CG,B0,Nat.reduceAdd,t4,t6,t9,aHJ,a2,a3,aH9,aK9];refine .ret ?_;simp(disch:=first|omega|(simp only[C6]<;>omega)) only[B0,t6];refine(fun kZ:Ky h _ H3.A6=>YS.mk kZ (fin _ kZ (fun c h1 h2 h3=>?a) ?o)) ?kk
   case a=>rw[E9 (by omega)]
   case o =>
    rw[show(ai f 2 s xs).I0=f.I0 by rw[OW,if_neg (by omega)]];exact u0.K7 ⟨cw,hatw,fun k hk=>hcw k (by omega)⟩ (by rw[E9 (by omega)])
   case kk=>repeat' first|exact kH|refine Ky.put ?_ (by omega) (by omega) hw _
abbrev AQU(A7:Call):Prop:=RCutR (A7 201)
def AWj(f':FM)(r:A0)(H:Hp):Prop:=∃dv wv ev,r=.tuple ⟨[.agg ⟨N9 f' dv wv ev⟩,i0]⟩∧DT H f' dv wv ev
theorem YS.p{f':FM}{H:Hp}{r:A0}(x:YS f' h r H):AWj f' r H∧Wf H∧Fr N5 h H:=by obtain⟨dv,wv,ev,e,hf,w,f⟩:=x;exact⟨⟨dv,wv,ev,e,hf⟩,w,f⟩
theorem AHl(hBl:eB A7)(hcu:AQU A7){f:FM}{s k:Nat}(q:pO h f dv wv ev k s xv xs):
 C0 (G8 A93 A7 cd [.agg ⟨N9 f dv wv ev⟩,.agg ⟨Ce k s xv⟩] h) (YS (ai f k s xs) h):=by
 have hw:=q.wf;have hwb:=hw.base;obtain⟨q1,q2,q3,q4,q5,q6,q7,q8,q9,q10⟩:=id q.ok;obtain⟨J,hJ,wJ,fJ,nJ,a1,a2,a3⟩:=PB hw (B6 (N9 f dv wv ev) 5 39 true) (B6 (Ce k s xv) 4 127 true) (B6 [i0,.slice .none 0 0,.slice .none 0 0,i0,.slice .none 0 0] 5 39 true);obtain⟨b,H1',H1,e1,l1,s1,n1,row,he,g1,w1,f1⟩:=APt.draw wJ (hBl (B8 J J.A6 []) f.size (wJ.sb []) (by omega) (by omega));have fh1:=fJ.trans (P:=N5) f1 fun _ _ h=>h;have hm:Sl 1 H1 (F8 b 0 f.size f.size) f.size (M4 (List.replicate f.size 255)):=Jg row (by rw[O4,Ad]) (fun j hj=>by rw[Q1 (x:=255) (by rw[ZH,if_pos hj])]) (by omega);obtain⟨r2,H2',H2,e2,l2,s2,n2,⟨dv2,Rf,ev2,rfl,hf2⟩,w2,f2⟩:=drawn (P:=AWj (ai f k s xs)) w1 (fun _ _ n l ⟨dv,wv,ev,e,hf⟩=>⟨dv,wv,ev,e,hf.sb n l⟩) ((hcu (B8 H1 H1.A6 []) f dv wv ev k s xv xs _ (q.fr w1 fh1).sb hm).mono fun _ _ x=>x.p);have fh2:=fh1.trans (P:=N5) f2 fun _ _ h=>h;have x1:=f1.A6;have x2:=f2.A6;have b2:=fh2.base;have cdv:=(hf2.data).cell;have cwv:=hf2.I0.cell;have cev:=hf2.dead.cell;unfold N9 Ce at hJ e2;unfold N9 at a1;unfold Ce at a2;refine B5 rfl ?_;unfold N9 Ce;simp(disch:=first|omega|(simp only[C6]<;>omega)|exact⟨rfl,rfl,rfl⟩|assumption) only[↓CG,B0,reduceCtorEq,Nat.reduceAdd,Nat.reduceMul,Nat.reduceSub,hJ,a1,a2,a3,e1,l1,s1,n1,f1.e,e2,l2,s2,n2,f2.e];refine .ret ?_;simp(disch:=first|omega|(simp only[C6]<;>omega)|exact⟨rfl,rfl,rfl⟩|assumption) only[↓CG,B0,reduceCtorEq,Nat.reduceAdd,Nat.reduceMul,Nat.reduceSub,];have hE:cE H2 (h.A6+1+1)=39:=M6 (by rw[f2.e _ (by omega),f1.e _ (by omega)];exact a3);refine(fun kZ:Ky h _ H2.A6=>YS.mk kZ (hf2.put _ hE rfl)) ?_;exact(Ky.mk w2 fh2 rfl).put (by omega) (by omega) hw _
abbrev ARf(F:FuncId)(A7:Call):Prop:=∀h f dv wv ev k s xv xs,pO h f dv wv ev k s xv xs→C0 (A7 F [.agg ⟨N9 f dv wv ev⟩,.agg ⟨Ce k s xv⟩] h) (YS (ai f k s xs) h)
abbrev A6t(A7:Call):Prop:=FlApplyR (A7 125)
theorem AL5(hap:A6t A7){f:FM}{s k:Nat}(q:pO h f dv wv ev k s xv xs):
 C0 (G8 AFm A7 cd [.agg ⟨N9 f dv wv ev⟩,.agg ⟨Ce k s xv⟩] h) (YS (ai f k s xs) h):=by
 have hw:=q.wf;have hwb:=hw.base;obtain⟨J,hJ,wJ,fJ,nJ,a1,a2,a3⟩:=PB hw (B6 (N9 f dv wv ev) 5 39 true) (B6 (Ce k s xv) 4 127 true) (B6 [i0,.slice .none 0 0,.slice .none 0 0,i0,.slice .none 0 0] 5 39 true);obtain⟨r2,H2,e2,dv2,Rf,ev2,rfl,hf2,w2,f2⟩:=(hap J f dv wv ev k s xv xs (q.fr wJ fJ)).get;have fh2:=fJ.trans f2 fun _ _ h=>h;have x2:=f2.A6;have cdv:=(hf2.data).cell;have cwv:=hf2.I0.cell;have cev:=hf2.dead.cell;unfold Vk at e2;unfold N9 Ce at hJ e2;unfold N9 at a1;unfold Ce at a2;refine B5 rfl ?_;unfold N9 Ce;simp(disch:=first|omega|(simp only[C6]<;>omega)) only[B0,reduceCtorEq,hJ,a1,a2,a3,e2,f2.e];refine .ret ?_;simp(disch:=first|omega|(simp only[C6]<;>omega)) only[B0,reduceCtorEq];have hE:cE H2 (h.A6+1+1)=39:=M6 (by rw[f2.e _ (by omega)];exact a3);refine(fun kZ:Ky h _ H2.A6=>YS.mk kZ (hf2.put _ hE rfl)) ?_;exact(Ky.mk w2 fh2 rfl).put (by omega) (by omega) hw _
def Tr(xs:List Nat):List UInt8:=xs.map UInt8.ofNat
theorem A7f:∀ {xs ys:List Nat},(∀x∈xs,x<256)→(∀y∈ys,y<256)→Tr xs=Tr ys→xs=ys
 | [],[],_,_,_=>rfl
 | [],_::_,_,_,h=>by cases h
 | _::_,[],_,_,h=>by cases h
 | x::xs,y::ys,hx,hy,h=>by
  have h':UInt8.ofNat x::Tr xs=UInt8.ofNat y::Tr ys:=h;injection h' with h1 h2;have h3:x=y:=by have:=congrArg UInt8.toNat h1;rw[UInt8.toNat_ofNat',UInt8.toNat_ofNat',Hi (hx x Ct),Hi (hy y Ct)] at this;exact this
  rw[h3,A7f (fun z hz=>hx z (EM _ hz)) (fun z hz=>hy z (EM _ hz)) h2]
theorem qm(h:∀x∈xs,x<256):bytesOf (M4 xs)=some (Tr xs):=by
 induction xs with
 | nil=>rfl
 | cons x xs ih =>
  have h1:=ih fun y hy=>h y (by simp[hy]);have h2:=h x (by simp);show(bif Nat.blt x 256 then R5 (bytesOf (M4 xs)) (fun r=>some (UInt8.ofNat x::r)) none else none)=_;rw[BW h2,cond_true,h1];rfl
theorem AUq(x:OD)(lo:List A0)(tm:T A0):Ov x lo tm=Kf (G4 x lo tm):=rfl
theorem oX{H:Hp}{v:A0}(hs:Sl 1 H v xs.length (M4 xs))(hb:∀x∈xs,x<256)(k:A0→N7):ANB H (Kf v) k=k (.string (O2 (Tr xs))):=by
 obtain⟨hl,⟨h0,h1⟩|⟨b,o,c,rfl,h0,hh⟩⟩:=hs
 ·have:=IU h0;subst this;rcases h1 with rfl|⟨b,o,c,rfl⟩<;>rfl
 · have e:Kf (F8 b o xs.length c)=(bif Nat.beq xs.length 0 then PR.val (.string (O2 [])) else .read b fun ob=>R5 (CV ob o xs.length) (fun cs=>R5 (bytesOf cs) Tm none) none):=rfl;obtain⟨cc,m,e',cl,ro,hat,hm,hc⟩:=hh;rw[O4] at hm hc;have hld:V6 cc o xs.length []=some (M4 xs):=by
    have:=FO fun k hk=>hc k (by rw[O4] at hk;exact hk);rwa[O4] at this
   have hcb:CV (.row cc m e' cl ro) o xs.length=some (M4 xs):=by show(bif Nat.ble (o+xs.length) m then V6 cc o xs.length [] else none)=_;rw[W8 hm,cond_true,hld]
   rw[e,U4 (by omega),cond_false,AJe,hat,FL,hcb,FL,qm hb];rfl
theorem A9Z{a b:A0}(ha:Sl 1 h a xs.length (M4 xs))(hb:Sl 1 h b ys.length (M4 ys))(hx:∀x∈xs,x<256)(hy:∀y∈ys,y<256):C0 (G8 A0u A7 cd [a,b] h) (VI (.bool (decide (xs=ys))) h):=by
 have e1:=oX ha hx;have e2:=oX hb hy;have e3:PH (Tr xs) (Tr ys)=decide (xs=ys):=by
  rw[eD];by_cases h:xs=ys
  ·subst h;simp
  ·have:Tr xs≠Tr ys:=fun e=>h (A7f hx hy e);simp[h,this]
 refine B5 rfl ?_;simp only[B0,reduceCtorEq,AUq,e1,e2,e3];refine .ret ?_;simp only[B0];exact⟨rfl,rfl⟩
abbrev ADJ(F:FuncId)(A7:Call):Prop:=∀H a b xs ys,Sl 1 H a xs.length (M4 xs)→Sl 1 H b ys.length (M4 ys)→(∀x∈xs,x<256)→(∀y∈ys,y<256)→xs.length≤5000→A7 F [a,b] H=.val (.bool (decide (xs=ys))) H
structure AF5(H:Hp)(f:FM)(dv wv ev:A0)(s:Nat)(v:A0)(want:List Nat):Prop where
 wf:Wf H
 fl:DT H f dv wv ev
 wt:Wt f s want
 dead:f.dead[s]?=some false
 I0:AR want (f.M5 s)=true→f.I0.getD s 0<f.K4
 sl:Sl 1 H v f.size (M4 want)
def A4i:List A0:=[i0,i0,i0,.slice .none 0 0]
def AZG(f:FM)(dv wv ev:A0)(s:Nat)(want:List Nat)(op:List A0)(done:Bool)(H:Hp):Prop:=(f.M5 s=want∧done=true∧op=A4i)∨(f.M5 s≠want∧done=false∧∃k xv xs,op=Ce k s xv∧pO H f dv wv ev k s xv xs∧ai f k s xs=f.BG s want)
def AYZ(f:FM)(dv wv ev:A0)(s:Nat)(want:List Nat)(h:Hp)(r:A0)(H:Hp):Prop:=∃op done,r=.tuple ⟨[.agg ⟨op⟩,.bool done,i0]⟩∧AZG f dv wv ev s want op done H∧Wf H∧Fr N5 h H
abbrev FTwRr(g:List A0→Hp→N3):Prop:=∀h f dv wv ev s v want,AF5 h f dv wv ev s v want→C0 (g [.agg ⟨N9 f dv wv ev⟩,iN s,v] h) (AYZ f dv wv ev s want h)
theorem A29(hEq:ADJ 143 A7)(hck:Yo A7)(hcl:IW 192 5 A7)(hcn:∀H,A7 192 [.slice .none 0 0] H=.val (.slice .none 0 0) H):FTwRr (G8 gY A7 cd):=by
 intro h f dv wv ev s v want q;obtain⟨hw,hf,⟨hok,hs,hwl,hwb⟩,hd,hwr,hv⟩:=id q;have hwb':=hw.base;obtain⟨q1,q2,q3,q4,q5,q6,q7,q8,q9,q10⟩:=id hok;obtain⟨hat_,hsl,hsb⟩:=hok.M5 hs;obtain⟨ds0,dsl0,dsv0,dsr0⟩:=id hf.data;obtain⟨w0,hws0,hwv0⟩:=dsr0 s _ hat_;obtain⟨J,hJ,wJ,fJ,nJ,a1,a2⟩:=U7 hw (B6 (N9 f dv wv ev) 5 39 true) (B6 A4i 4 127 true);have dA:=dsv0.A (by omega);have dlt:=(dsv0.S (by omega)).A2z hw;have dl:=dsv0.len;have vl:=hv.len;have hv':Sl 1 h v want.length (M4 want):=by rw[hwl];exact hv
 have cv:=hv.cell;have eq1:=hEq J w0 v (f.M5 s) want (hwv0.fr hw fJ) (hv'.fr hw fJ) hsb hwb (by omega);unfold N9 A4i at hJ;unfold N9 at a1;unfold A4i at a2;refine B5 rfl ?_;unfold N9;by_cases hdone:f.M5 s=want
 ·rw[decide_eq_true hdone] at eq1;simp(disch:=first|omega|(simp only[C6]<;>omega)) only[B0,reduceCtorEq,Nat.reduceAdd,hJ,a1,a2,vl,fJ.e,dA,hws0,eq1];refine .ret ?_;simp(disch:=first|omega|(simp only[C6]<;>omega)) only[B0];refine(fun kZ:Ky h _ J.A6=>⟨A4i,true,rfl,.inl ⟨hdone,rfl,rfl⟩,kZ.wf,kZ.fr⟩) ?_;exact(Ky.mk wJ fJ rfl).put (by omega) (by omega) hw _
 · rw[decide_eq_false hdone] at eq1;obtain⟨J1,hJ1,wJ1,fJ1,nJ1,b1⟩:=J7 wJ (B6 A4i 4 127 true);unfold A4i at hJ1 b1;obtain⟨K,hK⟩:∃K,J1.put J.A6 (some (B6 (Ce 2 s v) 4 127 true))=K:=⟨_,rfl⟩
   have fh1:=fJ.trans fJ1 fun _ _ h=>h;have kK:Ky h K (h.A6+3):=by rw[←hK];exact(Ky.mk wJ1 fh1 (by omega)).put (by omega) (by omega) hw _
   have aKJ:∀c,c<J.A6→K.at c=J.at c:=fun c hc=>by rw[←hK,E9 (by omega),fJ1.e c hc]
   have aKN:K.at J.A6=some (B6 (Ce 2 s v) 4 127 true):=by rw[←hK,K0]
   have bK:=kK.fr.base;have nK:=kK.nx;rw[hsl] at hwv0;have wA:=hwv0.A (by omega);have wl:=hwv0.len;have wlt:=(hwv0.S (by omega)).A2z hw;have vA:=hv.A (by omega);have AKm:=(hv.S (by omega)).A2z hw;unfold Ce B6 at hK;simp(disch:=first|omega|(simp only[C6]<;>omega)|exact⟨rfl,rfl,rfl⟩|assumption) only[↓CG,B0,reduceCtorEq,Nat.reduceAdd,hJ,a1,vl,fJ.e,aKJ,dA,hws0,eq1,hJ1,b1,hK,wl];refine D9.lp (P:=fun tm df H=>df=[]∧D0 tm [(Q0,iN s),(Q3,C2 h.A6 0),(Q8,C2 (h.A6+1) 0),(DZ,C2 J.A6 0)]∧Ky h H (h.A6+3)∧(∀c,c<J.A6→H.at c=J.at c)∧H.at J.A6=some (B6 (if AR want (f.M5 s)=true then Ce 1 s (.slice none 0 0) else Ce 2 s v) 4 127 true)) ?_ ?_
   · refine K6 (n:=f.size) (by omega) (fun i tm H=>D0 tm [(Q0,iN s),(T1,v),(Q3,C2 h.A6 0),(Q8,C2 (h.A6+1) 0),(DZ,C2 J.A6 0),([true,false,false,false,true],w0),([false,false,false,false,true],iN f.size),([true,true,true,true,false],iN i)]∧H=K∧∀j,j<i→GU (want.getD j 0) ((f.M5 s).getD j 0)=false) ?_ (fun i tm H hi hI=>?_) (fun tm H hI=>?_)
     ·exact⟨by simp[D0,T.A9,Nj,Pa],rfl,fun j hj=>by omega⟩
     · obtain⟨htm,rfl,hlk⟩:=hI;simp only[D0] at htm;obtain⟨t1,t2,t3,t6,t9,t45,t46,t47,-⟩:=htm;have hoi:=G6 (show i<(f.M5 s).length by omega);have hwi:=G6 (show i<want.length by omega);have ho2:=hsb _ (s6 hoi);have x1:Nat.land ((f.M5 s).getD i 0) (want.getD i 0)<half .u8:=QD ho2;have aKh:=kK.fr.e;unfold Ke;cases hb:Nat.beq (Nat.land ((f.M5 s).getD i 0) (want.getD i 0)) (want.getD i 0) with
       | true =>
        simp(disch:=omega) only[B0,reduceCtorEq,t2,t45,t46,t47,aKh,wA,Q1 hoi,vA,Q1 hwi,Jo,hb];refine .go ⟨by simp[D0,T.A9,t1,t2,t3,t6,t9,t45,t46],rfl,fun j hj=>?_⟩;by_cases e:j=i
        ·subst e;rw[ff,hb];rfl
        ·exact hlk j (by omega)
       | false =>
        have hlack:=nB hwi hoi (by rw[ff,hb];rfl);unfold Ce at aKN;simp(disch:=first|omega|(simp only[C6]<;>omega)|exact⟨rfl,rfl,rfl⟩|assumption) only[B0,reduceCtorEq,t1,t2,t9,t45,t46,t47,aKh,wA,Q1 hoi,vA,Q1 hwi,Jo,hb,aKN];refine .ex ⟨rfl,rfl,by simp[D0,T.A9,t1,t3,t6,t9],kK.put (by omega) (by omega) hw _,fun c hc=>by rw[E9 (by omega)];exact aKJ c hc,?_⟩;rw[K0,if_pos hlack];rfl
     · obtain⟨htm,rfl,hlk⟩:=hI;simp only[D0] at htm;obtain⟨t1,t2,t3,t6,t9,t45,t46,t47,-⟩:=htm;unfold Ke;simp(disch:=omega) only[B0,t46,t47];have hno:AR want (f.M5 s)=false:=uG fun i x y h1 h2=>by
        have hi:=(Fe.1 h1).1;have:=hlk i (by omega);rw[VD h1,VD h2] at this;exact this
       exact .ex ⟨rfl,rfl,by simp[D0,T.A9,t1,t3,t6,t9],kK,aKJ,by rw[hno];exact aKN⟩
   rintro tm df H ⟨rfl,⟨t1,t3,t6,t9,-⟩,kH,hat,hop⟩;have bH:=kH.fr.base;have nH:=kH.nx;cases hlack:AR want (f.M5 s) with
   | true =>
    rw[hlack,if_pos rfl] at hop;have hQ:pO H f dv wv ev 1 s (.slice none 0 0) []:=⟨kH.wf,hf.fr hw kH.fr,hok,hs,hd,fun _=>hwr hlack,.inl ⟨rfl,rfl⟩,fun x hx=>(by cases hx),⟨rfl,.inl ⟨rfl,.inl rfl⟩⟩⟩
    have c1:=hck H _ _ _ _ _ _ _ _ hQ;unfold N9 Ce at c1;unfold Ce at hop;simp(disch:=first|omega|(simp only[C6]<;>omega)) only[B0,reduceCtorEq,t3,t6,t9,hat,a1,a2,hop,c1,hcn];refine .ret ?_;simp(disch:=first|omega|(simp only[C6]<;>omega)) only[B0,reduceCtorEq,t6];refine(fun kZ:Ky h _ (h.A6+3)=>⟨Ce 1 s (.slice none 0 0),false,rfl,.inr ⟨hdone,rfl,1,.slice none 0 0,[],rfl,⟨kZ.wf,hf.fr hw kZ.fr,hok,hs,hd,fun _=>hwr hlack,.inl ⟨rfl,rfl⟩,fun x hx=>(by cases hx),⟨rfl,.inl ⟨rfl,.inl rfl⟩⟩⟩,by unfold ai FM.BG;rw[if_pos rfl,if_pos hlack]⟩,kZ.wf,kZ.fr⟩) ?_
    repeat' first|exact kH|refine Ky.put ?_ (by omega) (by omega) hw _
   | false =>
    rw[hlack,if_neg (by simp)] at hop;have hQ:pO H f dv wv ev 2 s v want:=⟨kH.wf,hf.fr hw kH.fr,hok,hs,hd,fun e=>by omega,.inr ⟨rfl,hwl⟩,hwb,hv'.fr hw kH.fr⟩
    have c1:=hck H _ _ _ _ _ _ _ _ hQ;obtain⟨r,G,e1,b,rfl,ob,hbn,wG,fG⟩:=(hcl H v f.size (M4 want) kH.wf (hv.fr hw kH.fr) (Kw _) (by omega) (by omega)).get;have xG:=fG.A6;have bG:=fG.base;have obl:=ob.lt wG;unfold N9 Ce at c1;unfold Ce at hop;simp(disch:=first|omega|(simp only[C6]<;>omega)) only[B0,reduceCtorEq,t3,t6,t9,hat,a1,a2,hop,c1,e1,fG.e];refine .ret ?_;simp(disch:=first|omega|(simp only[C6]<;>omega)) only[B0,reduceCtorEq,t6];refine(fun kZ:Ky h _ G.A6=>⟨Ce 2 s (F8 b 0 f.size (C4 1 f.size)),false,rfl,.inr ⟨hdone,rfl,2,F8 b 0 f.size (C4 1 f.size),want,rfl,⟨kZ.wf,hf.fr hw kZ.fr,hok,hs,hd,fun e=>by omega,.inr ⟨rfl,hwl⟩,hwb,?xl⟩,by unfold ai FM.BG;rw[if_neg (by omega),hlack,if_neg (by simp)]⟩,kZ.wf,kZ.fr⟩) ?kk
    case xl =>
     rw[hwl];refine Dw (ob.K7 ?_) (by rw[O4,hwl]) (by omega);rw[E9 (by omega),E9 (by omega)]
    case kk =>
     have kG:Ky h G G.A6:=⟨wG,kH.fr.trans fG fun _ _ h=>h,rfl⟩
     repeat' first|exact kG|refine Ky.put ?_ (by omega) (by omega) hw _
abbrev ATo(A7:Call):Prop:=FTwRr (A7 96)
theorem A7p{a b:A0}(ha:Sl 1 h a xs.length (M4 xs))(hb:Sl 1 h b ys.length (M4 ys))(hl:xs.length≤5000):C0 (G8 qa A7 cd [a,b] h) (VI (.bool (decide (xs=ys))) h):=by
 have la:=ha.len;have lb:=hb.len;refine B5 rfl ?_;by_cases hlen:xs.length=ys.length
 · simp(disch:=omega) only[B0,reduceCtorEq,la,lb];refine D9.A9C (P:=fun tm df H=>df=[]∧H=h∧xs=ys) (R:=fun tm df H=>df=[]∧H=h∧xs≠ys∧tm.get V1=some (.bool false)) ?_ ?_ ?_
   · refine K6 (n:=xs.length) (by omega) (fun i tm H=>D0 tm [([],a),(Q0,b),(U2,iN i)]∧H=h∧∀j,j<i→xs.getD j 0=ys.getD j 0) ?_ (fun i tm H hi hI=>?_) (fun tm H hI=>?_)
     ·exact⟨by trivial,rfl,fun j hj=>by omega⟩
     · obtain⟨⟨t0,t1,t5,-⟩,rfl,heq⟩:=hI;have aA:=ha.A (by omega);have bA:=hb.A (by omega);have x1:=Q1 (G6 hi);have y1:=Q1 (G6 (show i<ys.length by omega));unfold Nk;cases he:Nat.beq (xs.getD i 0) (ys.getD i 0) with
       | true =>
        simp(disch:=omega) only[B0,reduceCtorEq,t0,t1,t5,aA,bA,x1,y1,he];refine .go ⟨by simp[D0,T.A9,t0,t1],rfl,fun j hj=>?_⟩;by_cases e:j=i
        ·subst e;exact T9 he
        ·exact heq j (by omega)
       | false =>
        simp(disch:=omega) only[B0,reduceCtorEq,t0,t1,t5,aA,bA,x1,y1,he];exact .ret (.inr ⟨rfl,rfl,rfl,fun e=>(by simp_all),by simp[T.A9]⟩)
     ·obtain⟨⟨t0,t1,t5,-⟩,rfl,heq⟩:=hI;unfold Nk;simp(disch:=omega) only[B0,t0,t5,la];refine .ex (.inl ⟨rfl,rfl,rfl,xw fun i=>?_⟩);grind
   ·rintro tm df H ⟨rfl,rfl,rfl⟩;simp only[B0];refine .ret ?_;simp only[B0];exact⟨by simp,rfl⟩
   ·rintro tm df H ⟨rfl,rfl,hne,t4⟩;refine .ret ?_;simp only[B0,t4];exact⟨by simp[hne],rfl⟩
 ·rw[decide_eq_false (fun e=>hlen (by rw[e]))];simp(disch:=omega) only[B0,reduceCtorEq,la,lb];refine .ret ?_;simp only[B0];exact⟨rfl,rfl⟩
def AUr(done:Bool):List A0:=[i0,i0,i0,.slice .none 0 0,.bool done,i0]
def AZi(f:FM)(dv wv ev:A0)(s:Nat)(want:List Nat)(h:Hp)(r:A0)(H:Hp):Prop:=∃op done,r=.agg ⟨op++[.bool done,i0]⟩∧AZG f dv wv ev s want op done H∧Wf H∧Fr N5 h H
theorem xor_zero{a:Nat}(h:Nat.xor a b=0):a=b:=by
 have h':a ^^^ b=0:=h;have h2:(a ^^^ b) ^^^ b=0 ^^^ b:=by rw[h']
 grind
theorem Yi{a:Nat}:Nat.beq (Nat.xor a (Nat.land a b)) 0=Nat.beq (Nat.land a b) a:=by
 cases h:Nat.beq (Nat.land a b) a with
 | true=>simp_all
 | false =>
  refine U4 fun e=>?_;have h2:=xor_zero e;rw[←h2,Dg] at h;cases h
abbrev RTwRr(g:List A0→Hp→N3):Prop:=∀h f dv wv ev s v want,AF5 h f dv wv ev s v want→C0 (g [.agg ⟨N9 f dv wv ev⟩,iN s,v] h) (AZi f dv wv ev s want h)
theorem vh(hIn:ANq A7)(hEq:ADJ 112 A7)(hck:YW A7):RTwRr (G8 Yy A7 cd):=by
 intro h f dv wv ev s v want q;obtain⟨hw,hf,⟨hok,hs,hwl,hwb⟩,hd,hwr,hv⟩:=id q;have hwb':=hw.base;obtain⟨q1,q2,q3,q4,q5,q6,q7,q8,q9,q10⟩:=id hok;obtain⟨hat_,hsl,hsb⟩:=hok.M5 hs;obtain⟨ds0,dsl0,dsv0,dsr0⟩:=id hf.data;obtain⟨w0,hws0,hwv0⟩:=dsr0 s _ hat_;obtain⟨J,hJ,wJ,fJ,nJ,a1,a2⟩:=U7 hw (B6 (N9 f dv wv ev) 5 39 true) (B6 (AUr false) 6 197 true);have dA:=dsv0.A (by omega);have dlt:=(dsv0.S (by omega)).A2z hw;have dl:=dsv0.len;have vl:=hv.len;have hv':Sl 1 h v want.length (M4 want):=by rw[hwl];exact hv
 have cv:=hv.cell;have eq1:=hEq J w0 v (f.M5 s) want (hwv0.fr hw fJ) (hv'.fr hw fJ) hsb hwb (by omega);unfold N9 AUr at hJ;unfold N9 at a1;unfold AUr at a2;refine B5 rfl ?_;unfold N9;by_cases hdone:f.M5 s=want
 ·rw[decide_eq_true hdone] at eq1;simp(disch:=first|omega|(simp only[C6]<;>omega)|exact⟨rfl,rfl,rfl⟩|assumption) only[B0,reduceCtorEq,Nat.reduceAdd,hJ,a1,a2,vl,fJ.e,dA,hws0,eq1,hIn];refine .ret ?_;simp(disch:=first|omega|(simp only[C6]<;>omega)) only[B0];refine(fun kZ:Ky h _ J.A6=>⟨A4i,true,rfl,.inl ⟨hdone,rfl,rfl⟩,kZ.wf,kZ.fr⟩) ?_;exact(Ky.mk wJ fJ rfl).put (by omega) (by omega) hw _
 · rw[decide_eq_false hdone] at eq1;obtain⟨J1,hJ1,wJ1,fJ1,nJ1,b1⟩:=J7 wJ (B6 A4i 4 127 true);unfold A4i at hJ1 b1;obtain⟨K,hK⟩:∃K,J1.put J.A6 (some (B6 (Ce 2 s v) 4 127 true))=K:=⟨_,rfl⟩
   have fh1:=fJ.trans fJ1 fun _ _ h=>h;have kK:Ky h K (h.A6+3):=by rw[←hK];exact(Ky.mk wJ1 fh1 (by omega)).put (by omega) (by omega) hw _
   have aKJ:∀c,c<J.A6→K.at c=J.at c:=fun c hc=>by rw[←hK,E9 (by omega),fJ1.e c hc]
   have aKN:K.at J.A6=some (B6 (Ce 2 s v) 4 127 true):=by rw[←hK,K0]
   rw[hsl] at hwv0;have wA:=hwv0.A (by omega);have wlt:=(hwv0.S (by omega)).A2z hw;have vA:=hv.A (by omega);have AKm:=(hv.S (by omega)).A2z hw;unfold Ce B6 at hK;simp(disch:=first|omega|(simp only[C6]<;>omega)|exact⟨rfl,rfl,rfl⟩|assumption) only[↓CG,B0,reduceCtorEq,Nat.reduceAdd,hJ,a1,vl,fJ.e,dA,hws0,eq1,hJ1,b1,hK,hIn];refine D9.lp (P:=fun tm df H=>df=[]∧D0 tm [(Q0,iN s),(Q3,C2 h.A6 0),(Q8,C2 (h.A6+1) 0),(AL,C2 J.A6 0)]∧Ky h H (h.A6+3)∧(∀c,c<J.A6→H.at c=J.at c)∧H.at J.A6=some (B6 (if AR want (f.M5 s)=true then Ce 1 s (.slice none 0 0) else Ce 2 s v) 4 127 true)) ?_ ?_
   · refine K6 (n:=f.size) (by omega) (fun i tm H=>D0 tm [(Q0,iN s),(T1,v),(Q3,C2 h.A6 0),(Q8,C2 (h.A6+1) 0),(AL,C2 J.A6 0),(Cj,iN i)]∧Ky h H (h.A6+3)∧(∀c,c<J.A6→H.at c=J.at c)∧((H.at J.A6=some (B6 (Ce 2 s v) 4 127 true)∧∀j,j<i→GU (want.getD j 0) ((f.M5 s).getD j 0)=false)∨(H.at J.A6=some (B6 (Ce 1 s (.slice none 0 0)) 4 127 true)∧AR want (f.M5 s)=true))) ?_ (fun i tm H hi hI=>?_) (fun tm H hI=>?_)
     ·exact⟨by trivial,kK,aKJ,.inl ⟨aKN,fun j hj=>by omega⟩⟩
     · obtain⟨htm,kH,hat,hor⟩:=hI;simp only[D0] at htm;obtain⟨t1,t2,t3,t6,t7,t8,-⟩:=htm;have hoi:=G6 (show i<(f.M5 s).length by omega);have hwi:=G6 (show i<want.length by omega);have hw2:=hwb _ (s6 hwi);have x1:Nat.xor (want.getD i 0) (Nat.land (want.getD i 0) ((f.M5 s).getD i 0))<half .u8:=ABy (n:=8) hw2 (QD hw2);have y0:want.getD i 0<half .u8:=hw2;have bH:=kH.fr.base;have nH:=kH.nx;have hcm:Nat.beq (Nat.land (want.getD i 0) ((f.M5 s).getD i 0)) (want.getD i 0)=!GU (want.getD i 0) ((f.M5 s).getD i 0):=by
        rw[ff,show Nat.land ((f.M5 s).getD i 0) (want.getD i 0)=Nat.land (want.getD i 0) ((f.M5 s).getD i 0) from Nat.and_comm _ _,Bool.not_not]
       have hrow:∃l,H.at J.A6=some (B6 l 4 127 true)∧l.length=4:=by rcases hor with⟨h1,_⟩|⟨h1,_⟩<;>exact⟨_,h1,rfl⟩
       obtain⟨l,hl,hl4⟩:=hrow;unfold Ic;cases hb:GU (want.getD i 0) ((f.M5 s).getD i 0) with
       | false =>
        rw[hb] at hcm;simp(disch:=first|omega|(simp only[C6]<;>omega)) only[B0,reduceCtorEq,Nat.reduceAdd,t1,t2,t3,t8,hat,a1,fJ.e,dA,hws0,wA,Q1 hoi,vA,Q1 hwi,ot,Yi,hcm];refine .go ⟨by simp[D0,T.A9,t1,t2,t3,t6,t7],kH,hat,?_⟩;rcases hor with⟨h1,h2⟩|h1
        · refine .inl ⟨h1,fun j hj=>?_⟩;by_cases e:j=i
          ·subst e;exact hb
          ·exact h2 j (by omega)
        ·exact .inr h1
       | true =>
        rw[hb] at hcm;have hlack:=nB hwi hoi hb;simp(disch:=first|omega|(simp only[C6]<;>omega)|exact⟨rfl,rfl,rfl⟩|assumption) only[B0,reduceCtorEq,Nat.reduceAdd,t1,t2,t3,t7,t8,hat,a1,fJ.e,dA,hws0,wA,Q1 hoi,vA,Q1 hwi,ot,Yi,hcm,hl];refine .go ⟨by simp[D0,T.A9,t1,t2,t3,t6,t7],kH.put (by omega) (by omega) hw _,fun c hc=>by rw[E9 (by omega)];exact hat c hc,.inr ⟨by rw[K0];rfl,hlack⟩⟩
     · obtain⟨htm,kH,hat,hor⟩:=hI;simp only[D0] at htm;obtain⟨t1,t2,t3,t6,t7,t8,-⟩:=htm;unfold Ic;simp(disch:=first|omega|(simp only[C6]<;>omega)) only[B0,Nat.reduceAdd,t3,t8,hat,a1];refine .ex ⟨rfl,rfl,by simp[D0,T.A9,t1,t3,t6,t7],kH,hat,?_⟩;rcases hor with⟨h1,h2⟩|⟨h1,h2⟩
       · have hno:AR want (f.M5 s)=false:=uG fun i x y h3 h4=>by
          have hi:=(Fe.1 h3).1;have:=h2 i (by omega);rw[VD h3,VD h4] at this;exact this
         rw[hno];exact h1
       ·rw[h2];exact h1
   rintro tm df H ⟨rfl,⟨t1,t3,t6,t7,-⟩,kH,hat,hop⟩;have bH:=kH.fr.base;have nH:=kH.nx;cases hlack:AR want (f.M5 s) with
   | true =>
    rw[hlack,if_pos rfl] at hop;have hQ:pO H f dv wv ev 1 s (.slice none 0 0) []:=⟨kH.wf,hf.fr hw kH.fr,hok,hs,hd,fun _=>hwr hlack,.inl ⟨rfl,rfl⟩,fun x hx=>(by cases hx),⟨rfl,.inl ⟨rfl,.inl rfl⟩⟩⟩
    have c1:=hck H _ _ _ _ _ _ _ _ hQ;unfold N9 Ce at c1;unfold Ce at hop;simp(disch:=first|omega|(simp only[C6]<;>omega)) only[↓CG,B0,reduceCtorEq,t3,t6,t7,hat,a1,a2,hop,c1];refine .ret ?_;simp(disch:=first|omega|(simp only[C6]<;>omega)) only[B0,reduceCtorEq,t6];refine(fun kZ:Ky h _ (h.A6+3)=>⟨Ce 1 s (.slice none 0 0),false,rfl,.inr ⟨hdone,rfl,1,.slice none 0 0,[],rfl,⟨kZ.wf,hf.fr hw kZ.fr,hok,hs,hd,fun _=>hwr hlack,.inl ⟨rfl,rfl⟩,fun x hx=>(by cases hx),⟨rfl,.inl ⟨rfl,.inl rfl⟩⟩⟩,by unfold ai FM.BG;rw[if_pos rfl,if_pos hlack]⟩,kZ.wf,kZ.fr⟩) ?_
    repeat' first|exact kH|refine Ky.put ?_ (by omega) (by omega) hw _
   | false =>
    rw[hlack,if_neg (by simp)] at hop;have hQ:pO H f dv wv ev 2 s v want:=⟨kH.wf,hf.fr hw kH.fr,hok,hs,hd,fun e=>by omega,.inr ⟨rfl,hwl⟩,hwb,hv'.fr hw kH.fr⟩
    have c1:=hck H _ _ _ _ _ _ _ _ hQ;unfold N9 Ce at c1;unfold Ce at hop;simp(disch:=first|omega|(simp only[C6]<;>omega)) only[↓CG,B0,reduceCtorEq,t3,t6,t7,hat,a1,a2,hop,c1];refine .ret ?_;simp(disch:=first|omega|(simp only[C6]<;>omega)) only[B0,reduceCtorEq,t6];refine(fun kZ:Ky h _ (h.A6+3)=>⟨Ce 2 s v,false,rfl,.inr ⟨hdone,rfl,2,v,want,rfl,⟨kZ.wf,hf.fr hw kZ.fr,hok,hs,hd,fun e=>by omega,.inr ⟨rfl,hwl⟩,hwb,hv'.fr hw kZ.fr⟩,by unfold ai FM.BG;rw[if_neg (by omega),hlack,if_neg (by simp)]⟩,kZ.wf,kZ.fr⟩) ?_
    repeat' first|exact kH|refine Ky.put ?_ (by omega) (by omega) hw _
abbrev ATt(A7:Call):Prop:=RTwRr (A7 106)
def Vy:List A0:=[i0,.slice .none 0 0,.slice .none 0 0,i0,.slice .none 0 0]
def ARu(h:Hp)(f0:FM)(s:Nat)(want:List Nat)(b c:Nat)(i:Nat)(H:Hp):Prop:=∃f dv wv ev,A4g f0 s want i f∧DT H f dv wv ev∧H.at b=some (B6 (N9 f dv wv ev) 5 39 true)∧H.at c=some (B6 Vy 5 39 true)∧Wf H∧Fr N5 h H∧h.A6+2≤H.A6
theorem ARu.tq{H:Hp}{f:FM}{s:Nat}{v:A0}(hr:A4g f0 s want i f)(hf:DT H f dv wv ev)(hw:Wf H)(hd:f0.dead[s]?=some false)(hv:Sl 1 H v f0.size (M4 want)):AF5 H f dv wv ev s v want :=
 ⟨hw,hf,hr.wt,by rw[hr.de];exact hd,fun hk=>by
   by_cases e:f.M5 s=want
   ·rw[e,Xb] at hk;cases hk
   ·exact hr.I0 e hk,by rw[hr.sz.1];exact hv⟩
theorem py(htw:ATt A7)(hdo:ARf 107 A7){f:FM}{v:A0}{s:Nat}(q:AF5 h f dv wv ev s v want)(hwr:f.I0.getD s 0<f.K4):
 C0 (G8 Vg A7 cd [.agg ⟨N9 f dv wv ev⟩,iN s,v] h) (YS (f.N6 s want) h):=by
 obtain⟨hw,hf,hwt,hd,_,hv⟩:=id q;have hwb:=hw.base;obtain⟨J,hJ,wJ,fJ,nJ,a1,a2⟩:=U7 hw (B6 (N9 f dv wv ev) 5 39 true) (B6 Vy 5 39 true);have hJ':=hJ;unfold N9 Vy at hJ;refine B5 rfl ?_;unfold N9;simp only[B0,hJ];refine D9.S6 (R:=fun tm H=>C0 (ud [.cell true 5 Q8,.tmp AL] tm H) (YS (f.N6 s want) h)) (AFe (n:=2) (by omega) (fun i tm H=>D0 tm [(Q0,iN s),(T1,v),(Q3,C2 h.A6 0),(Q8,C2 (h.A6+1) 0)]∧ARu h f s want h.A6 (h.A6+1) i H) ?_ (fun i tm H hi hI=>?_)) (fun tm H hR=>?_)
 ·exact⟨by trivial,f,dv,wv,ev,A4g.start hwt hwr,hf.fr hw fJ,a1,a2,wJ,fJ,by omega⟩
 · obtain⟨⟨t1,t2,t3,t6,-⟩,g,dg,wg,eg,hr,hg,b1,b2,wH,fH,nH⟩:=hI;have bH:=fH.base;obtain⟨r,G,e1,op,done,rfl,hp,wG,fG⟩:=(htw H g dg wg eg s v want (ARu.tq hr hg wH hd (hv.fr hw fH))).get;obtain⟨G1,hG1,wG1,fG1,nG1,c1⟩:=J7 wG (B6 (AUr false) 6 197 true);have f2:=fG.trans fG1 fun _ _ h=>h;have xG:=fG.A6;have y1:=fG.base;have y2:=fG1.base;unfold N9 at b1 e1;unfold Vy at b2;unfold AUr at hG1 c1;unfold OK;rcases hp with⟨hdn,rfl,rfl⟩|⟨hdn,rfl,k,xv,xs,rfl,hq,hst⟩
   · have x1:=hg.data.cell;have x2:=hg.I0.cell;have x3:=hg.dead.cell;unfold A4i at e1;simp(disch:=first|omega|(simp only[C6]<;>omega)|assumption) only[B0,t1,t2,t3,t6,b1,b2,EB,BS,e1,hG1,c1,f2.e];refine .ret ?_;simp(disch:=first|omega|(simp only[C6]<;>omega)) only[B0,t6];rw[←hr.fin hdn];have kG:Ky h G1 G1.A6:=⟨wG1,(fH.trans fG fun _ _ h=>h).trans fG1 fun _ _ h=>h,rfl⟩
     have hE:cE G1 (h.A6+1)=39:=M6 (by rw[f2.e _ (by omega)];exact b2);have hE2:=M6 c1;have hgZ:=((hg.fr wH f2).put (some (B6 [i0,i0,i0,.slice .none 0 0,.bool true,i0] 6 197 true)) hE2 rfl).put (some (B6 (N9 g dg wg eg) 5 39 true)) ((Y9 (E9 (by omega))).trans hE) rfl;refine(fun kZ:Ky h _ G1.A6=>YS.mk kZ hgZ) ?_
     repeat' first|exact kG|refine Ky.put ?_ (by omega) (by omega) hw _
   · have x1:=hg.data.cell;have x2:=hg.I0.cell;have x3:=hg.dead.cell;have x4:=hq.xl.cell;have hk:i<2:=by
      rcases DX i 2 with h|h
      ·exact h
      · have:i=2:=by omega
        subst this;exact absurd hr.end_ hdn
     obtain⟨K,hK⟩:∃K,G1.put G.A6 (some (B6 [iN k,iN s,i0,xv,.bool false,i0] 6 197 true))=K:=⟨_,rfl⟩
     have kG1:Ky h G1 G1.A6:=⟨wG1,(fH.trans fG fun _ _ h=>h).trans fG1 fun _ _ h=>h,rfl⟩
     have kK:Ky h K G1.A6:=by rw[←hK];exact kG1.put (by omega) (by omega) hw _
     have fGK:Fr N5 G K:=by rw[←hK];exact fG1.O6 _ (fun h=>by omega) (by have:=fG.base;omega)
     have aK:K.at G.A6=some (B6 [iN k,iN s,i0,xv,.bool false,i0] 6 197 true):=by rw[←hK,K0]
     have nK:=kK.nx;obtain⟨r2,H3,e2,dv2,Rf,ev2,rfl,hf2,w3,f3⟩:=(hdo K g dg wg eg k s xv xs (hq.fr kK.wf fGK)).get;obtain⟨H4,hH4,w4,f4,n4,c4⟩:=J7 w3 (B6 Vy 5 39 true);have f34:=f3.trans f4 fun _ _ h=>h;have x5:=hf2.data.cell;have x6:=hf2.I0.cell;have x7:=hf2.dead.cell;have x8:=f3.A6;have b3:=f3.base;have bK:=kK.fr.base;have fHK:=fG.trans fGK fun _ _ h=>h;unfold Ce at e1 e2;unfold N9 at e2;unfold Vy at hH4 c4;unfold B6 at hK;simp(disch:=first|omega|(simp only[C6]<;>omega)) only[↓CG,B0,reduceCtorEq,Nat.reduceAdd,t1,t2,t3,b1,EB,BS,e1,hG1,c1,hK,aK,fHK.e,e2,hH4,c4,f34.e];have fH3:=fHK.trans f3 fun _ _ h=>h;have fH4:=fH3.trans f4 fun _ _ h=>h;have k4:Ky h H4 H4.A6:=⟨w4,fH.trans fH4 fun _ _ h=>h,rfl⟩
     have hE:cE H4 h.A6=39:=M6 (by rw[fH4.e _ (by omega)];exact b1);have hE2:=M6 c4;rw[hst] at hf2;have hgZ:=((hf2.fr w3 f4).put (some (B6 (N9 (g.BG s want) dv2 Rf ev2) 5 39 true)) hE2 rfl).put (some (B6 (N9 (g.BG s want) dv2 Rf ev2) 5 39 true)) ((Y9 (E9 (by omega))).trans hE) rfl;refine .go hk ⟨by simp[D0,T.A9,t1,t2,t3,t6],g.BG s want,dv2,Rf,ev2,hr.step hdn (hr.I0 hdn),?hf,?h1,?h2,?kw,?kf,?kn⟩
     case h1=>rw[K0,←hst];rfl
     case hf=>rw[hst];exact hgZ
     case h2=>rw[E9 (by omega),E9 (by omega),fH4.e _ (by omega)];exact b2
     case kw=>exact(w4.put (by omega) _).put (by rw[Kp];omega) _
     case kf=>exact(k4.fr.O6 _ (fun h=>by omega) (by omega)).O6 _ (fun h=>by omega) (by omega)
     case kn=>show h.A6+2≤H4.A6;omega
 ·exact .ret hR
abbrev APQ(F:FuncId)(A7:Call):Prop:=∀h f dv wv ev s v want,AF5 h f dv wv ev s v want→f.I0.getD s 0<f.K4→C0 (A7 F [.agg ⟨N9 f dv wv ev⟩,iN s,v] h) (YS (f.N6 s want) h)
theorem A2n(htw:ATt A7)(hdo:ARf 107 A7){f:FM}{v:A0}{s:Nat}(q:AF5 h f dv wv ev s v want)(hwr:f.I0.getD s 0<f.K4):
 C0 (G8 iP A7 cd [.agg ⟨N9 f dv wv ev⟩,iN s,v] h) (YS (f.N6 s want) h):=by
 obtain⟨hw,hf,hwt,hd,_,hv⟩:=id q;have hwb:=hw.base;obtain⟨J,hJ,wJ,fJ,nJ,a1,a2⟩:=U7 hw (B6 (N9 f dv wv ev) 5 39 true) (B6 Vy 5 39 true);have hJ':=hJ;unfold N9 Vy at hJ;refine B5 rfl ?_;unfold N9;simp only[B0,hJ];refine D9.S6 (R:=fun tm H=>C0 (ud [.cell true 5 Q8,.tmp AL] tm H) (YS (f.N6 s want) h)) (AFe (n:=2) (by omega) (fun i tm H=>D0 tm [(Q0,iN s),(T1,v),(Q3,C2 h.A6 0),(Q8,C2 (h.A6+1) 0)]∧ARu h f s want h.A6 (h.A6+1) i H) ?_ (fun i tm H hi hI=>?_)) (fun tm H hR=>?_)
 ·exact⟨by trivial,f,dv,wv,ev,A4g.start hwt hwr,hf.fr hw fJ,a1,a2,wJ,fJ,by omega⟩
 · obtain⟨⟨t1,t2,t3,t6,-⟩,g,dg,wg,eg,hr,hg,b1,b2,wH,fH,nH⟩:=hI;have bH:=fH.base;obtain⟨r,G,e1,op,done,rfl,hp,wG,fG⟩:=(htw H g dg wg eg s v want (ARu.tq hr hg wH hd (hv.fr hw fH))).get;obtain⟨G1,hG1,wG1,fG1,nG1,c1⟩:=J7 wG (B6 (AUr false) 6 197 true);have f2:=fG.trans fG1 fun _ _ h=>h;have xG:=fG.A6;have y1:=fG.base;have y2:=fG1.base;unfold N9 at b1 e1;unfold Vy at b2;unfold AUr at hG1 c1;unfold Sp;rcases hp with⟨hdn,rfl,rfl⟩|⟨hdn,rfl,k,xv,xs,rfl,hq,hst⟩
   · have x1:=hg.data.cell;have x2:=hg.I0.cell;have x3:=hg.dead.cell;unfold A4i at e1;simp(disch:=first|omega|(simp only[C6]<;>omega)|assumption) only[B0,reduceCtorEq,t1,t2,t3,t6,b1,b2,EB,BS,e1,hG1,c1,f2.e];refine .ret ?_;simp(disch:=first|omega|(simp only[C6]<;>omega)) only[B0,t6];rw[←hr.fin hdn];have kG:Ky h G1 G1.A6:=⟨wG1,(fH.trans fG fun _ _ h=>h).trans fG1 fun _ _ h=>h,rfl⟩
     have hE:cE G1 (h.A6+1)=39:=M6 (by rw[f2.e _ (by omega)];exact b2);have hE2:=M6 c1;have hgZ:=((hg.fr wH f2).put (some (B6 [i0,i0,i0,.slice .none 0 0,.bool true,i0] 6 197 true)) hE2 rfl).put (some (B6 (N9 g dg wg eg) 5 39 true)) ((Y9 (E9 (by omega))).trans hE) rfl;refine(fun kZ:Ky h _ G1.A6=>YS.mk kZ hgZ) ?_
     repeat' first|exact kG|refine Ky.put ?_ (by omega) (by omega) hw _
   · have x1:=hg.data.cell;have x2:=hg.I0.cell;have x3:=hg.dead.cell;have x4:=hq.xl.cell;have hk:i<2:=by
      rcases DX i 2 with h|h
      ·exact h
      · have:i=2:=by omega
        subst this;exact absurd hr.end_ hdn
     obtain⟨K,hK⟩:∃K,G1.put G.A6 (some (B6 [iN k,iN s,i0,xv,.bool false,i0] 6 197 true))=K:=⟨_,rfl⟩
     have kG1:Ky h G1 G1.A6:=⟨wG1,(fH.trans fG fun _ _ h=>h).trans fG1 fun _ _ h=>h,rfl⟩
     have kK:Ky h K G1.A6:=by rw[←hK];exact kG1.put (by omega) (by omega) hw _
     have fGK:Fr N5 G K:=by rw[←hK];exact fG1.O6 _ (fun h=>by omega) (by have:=fG.base;omega)
     have aK:K.at G.A6=some (B6 [iN k,iN s,i0,xv,.bool false,i0] 6 197 true):=by rw[←hK,K0]
     have nK:=kK.nx;obtain⟨r2,H3,e2,dv2,Rf,ev2,rfl,hf2,w3,f3⟩:=(hdo K g dg wg eg k s xv xs (hq.fr kK.wf fGK)).get;have x5:=hf2.data.cell;have x6:=hf2.I0.cell;have x7:=hf2.dead.cell;have x8:=f3.A6;have b3:=f3.base;have bK:=kK.fr.base;have fHK:=fG.trans fGK fun _ _ h=>h;unfold Ce at e1 e2;unfold N9 at e2;unfold B6 at hK;simp(disch:=first|omega|(simp only[C6]<;>omega)) only[↓CG,B0,reduceCtorEq,Nat.reduceAdd,t1,t2,t3,b1,EB,BS,e1,hG1,c1,hK,aK,fHK.e,e2,f3.e];have fH3:=fHK.trans f3 fun _ _ h=>h;have k3:Ky h H3 H3.A6:=⟨w3,fH.trans fH3 fun _ _ h=>h,rfl⟩
     have hE:cE H3 h.A6=39:=M6 (by rw[fH3.e _ (by omega)];exact b1);rw[hst] at hf2;have hgZ:=hf2.put (some (B6 (N9 (g.BG s want) dv2 Rf ev2) 5 39 true)) hE rfl;refine .go hk ⟨by simp[D0,T.A9,t1,t2,t3,t6],g.BG s want,dv2,Rf,ev2,hr.step hdn (hr.I0 hdn),?hf,?h1,?h2,?kw,?kf,?kn⟩
     case h1=>rw[K0,←hst];rfl
     case hf=>rw[hst];exact hgZ
     case h2=>rw[E9 (by omega),fH3.e _ (by omega)];exact b2
     case kw=>exact w3.put (by omega) _
     case kf=>exact k3.fr.O6 _ (fun h=>by omega) (by omega)
     case kn=>show h.A6+2≤H3.A6;omega
 ·exact .ret hR
theorem ADC(htw:ATo A7)(hdo:ARf 53 A7){f:FM}{v:A0}{s:Nat}(q:AF5 h f dv wv ev s v want)(hwr:f.I0.getD s 0<f.K4):
 C0 (G8 A02 A7 cd [.agg ⟨N9 f dv wv ev⟩,iN s,v] h) (YS (f.N6 s want) h):=by
 obtain⟨hw,hf,hwt,hd,_,hv⟩:=id q;have hwb:=hw.base;obtain⟨J,hJ,wJ,fJ,nJ,a1,a2⟩:=U7 hw (B6 (N9 f dv wv ev) 5 39 true) (B6 Vy 5 39 true);have hJ':=hJ;unfold N9 Vy at hJ;refine B5 rfl ?_;unfold N9;simp only[B0,hJ];refine D9.S6 (R:=fun tm H=>C0 (ud [.cell true 5 Q8,.tmp AL] tm H) (YS (f.N6 s want) h)) (AFe (n:=2) (by omega) (fun i tm H=>D0 tm [(Q0,iN s),(T1,v),(Q3,C2 h.A6 0),(Q8,C2 (h.A6+1) 0)]∧ARu h f s want h.A6 (h.A6+1) i H) ?_ (fun i tm H hi hI=>?_)) (fun tm H hR=>?_)
 ·exact⟨by trivial,f,dv,wv,ev,A4g.start hwt hwr,hf.fr hw fJ,a1,a2,wJ,fJ,by omega⟩
 · obtain⟨⟨t1,t2,t3,t6,-⟩,g,dg,wg,eg,hr,hg,b1,b2,wH,fH,nH⟩:=hI;have bH:=fH.base;obtain⟨r,G,e1,op,done,rfl,hp,wG,fG⟩:=(htw H g dg wg eg s v want (ARu.tq hr hg wH hd (hv.fr hw fH))).get;obtain⟨G1,hG1,wG1,fG1,nG1,c1⟩:=J7 wG (B6 A4i 4 127 true);have f2:=fG.trans fG1 fun _ _ h=>h;have xG:=fG.A6;have y1:=fG.base;have y2:=fG1.base;unfold N9 at b1 e1;unfold Vy at b2;unfold A4i at hG1 c1;unfold ZM;rcases hp with⟨hdn,rfl,rfl⟩|⟨hdn,rfl,k,xv,xs,rfl,hq,hst⟩
   · have x1:=hg.data.cell;have x2:=hg.I0.cell;have x3:=hg.dead.cell;unfold A4i at e1;simp(disch:=first|omega|(simp only[C6]<;>omega)) only[B0,reduceCtorEq,t1,t2,t3,t6,b1,b2,e1,hG1,c1,f2.e];refine .ret ?_;simp(disch:=first|omega|(simp only[C6]<;>omega)) only[B0,reduceCtorEq,t6];rw[←hr.fin hdn];have kG:Ky h G1 G1.A6:=⟨wG1,(fH.trans fG fun _ _ h=>h).trans fG1 fun _ _ h=>h,rfl⟩
     have hE:cE G1 (h.A6+1)=39:=M6 (by rw[f2.e _ (by omega)];exact b2);have hE2:=M6 c1;have hgZ:=((hg.fr wH f2).put (some (B6 [i0,i0,i0,.slice .none 0 0] 4 127 true)) hE2 rfl).put (some (B6 (N9 g dg wg eg) 5 39 true)) ((Y9 (E9 (by omega))).trans hE) rfl;refine(fun kZ:Ky h _ G1.A6=>YS.mk kZ hgZ) ?_
     repeat' first|exact kG|refine Ky.put ?_ (by omega) (by omega) hw _
   · have x1:=hg.data.cell;have x2:=hg.I0.cell;have x3:=hg.dead.cell;have x4:=hq.xl.cell;have hk:i<2:=by
      rcases DX i 2 with h|h
      ·exact h
      · have:i=2:=by omega
        subst this;exact absurd hr.end_ hdn
     obtain⟨K,hK⟩:∃K,G1.put G.A6 (some (B6 [iN k,iN s,i0,xv] 4 127 true))=K:=⟨_,rfl⟩
     have kG1:Ky h G1 G1.A6:=⟨wG1,(fH.trans fG fun _ _ h=>h).trans fG1 fun _ _ h=>h,rfl⟩
     have kK:Ky h K G1.A6:=by rw[←hK];exact kG1.put (by omega) (by omega) hw _
     have fGK:Fr N5 G K:=by rw[←hK];exact fG1.O6 _ (fun h=>by omega) (by have:=fG.base;omega)
     have aK:K.at G.A6=some (B6 [iN k,iN s,i0,xv] 4 127 true):=by rw[←hK,K0]
     have nK:=kK.nx;obtain⟨r2,H3,e2,dv2,Rf,ev2,rfl,hf2,w3,f3⟩:=(hdo K g dg wg eg k s xv xs (hq.fr kK.wf fGK)).get;have x5:=hf2.data.cell;have x6:=hf2.I0.cell;have x7:=hf2.dead.cell;have x8:=f3.A6;have b3:=f3.base;have bK:=kK.fr.base;have fHK:=fG.trans fGK fun _ _ h=>h;unfold Ce at e1 e2;unfold N9 at e2;unfold B6 at hK;simp(disch:=first|omega|(simp only[C6]<;>omega)) only[↓CG,B0,reduceCtorEq,t1,t2,t3,b1,e1,hG1,c1,hK,aK,fHK.e,e2,f3.e];have fH3:=fHK.trans f3 fun _ _ h=>h;have k3:Ky h H3 H3.A6:=⟨w3,fH.trans fH3 fun _ _ h=>h,rfl⟩
     have hE:cE H3 h.A6=39:=M6 (by rw[fH3.e _ (by omega)];exact b1);rw[hst] at hf2;have hgZ:=hf2.put (some (B6 (N9 (g.BG s want) dv2 Rf ev2) 5 39 true)) hE rfl;refine .go hk ⟨by simp[D0,T.A9,t1,t2,t3,t6],g.BG s want,dv2,Rf,ev2,hr.step hdn (hr.I0 hdn),?hf,?h1,?h2,?kw,?kf,?kn⟩
     case h1=>rw[K0,←hst];rfl
     case hf=>rw[hst];exact hgZ
     case h2=>rw[E9 (by omega),fH3.e _ (by omega)];exact b2
     case kw=>exact w3.put (by omega) _
     case kf=>exact k3.fr.O6 _ (fun h=>by omega) (by omega)
     case kn=>show h.A6+2≤H3.A6;omega
 ·exact .ret hR
abbrev di(A7:Call):Prop:=∀H,A7 31 [i0] H=.val (.tuple ⟨[]⟩) H
def DvB(H:Hp)(bx:Nat)(f:FM)(rest:List A0):Prop:=∃dv wv ev,DT H f dv wv ev∧H.at bx=some (B6 (N9 f dv wv ev++rest) 36 107 true)
theorem Bd.wt{K H:Hp}{v:A0}{n:Nat}(hb:Bd 5 1 K N5 H v n (M4 l))(hn:l.length=n)(h0:0<n):ANC l K v H:=by
 have h1:=hb.sl;rw[←hn] at h1;obtain⟨⟨hl,h2,⟨h3,_⟩|⟨b,rfl,h4,h5,h6⟩⟩,w,f⟩:=hb
 ·omega
 ·exact⟨⟨h1,fun c hc=>by rw[X3 hc];exact h6⟩,w,f⟩
def AQO(x w j:Nat):Nat:=x/2^(8*(w-1-j))%256
def Ti(x w i:Nat):List Nat:=(List.range i).map (AQO x w)
theorem lO(x w i:Nat):(Ti x w i).length=i:=by simp[Ti]
theorem sR(x w i:Nat):Ti x w (i+1)=Ti x w i++[AQO x w i]:=by simp[Ti,qp]
def AV7(k:Nat):Int:=match k with|0=>.negSucc 0|k+1=>.ofNat k
theorem ALe(a:Nat){k:Nat}(h:k≤63):wb .i64 (.ofNat a) (.ofNat k)=some (.int .i64 (.ofNat (a/2^k))):=by show GA .i64 (AK0 (.ofNat a) (Xx k 64))=_;rw[Cg,A7r,A1v (by omega)];rfl
theorem sub_one(k:Nat):Nv .i64 (.ofNat k) (.ofNat 1)=some (.int .i64 (AV7 k))∨1000000≤k:=by
 rcases DX k 1000000 with h|h
 · left;cases k with
   | zero=>rfl
   | succ k=>rw[Fh .i64 (by omega),GC (by omega)];rfl
 ·exact .inr h
abbrev RNumR(g:List A0→Hp→N3):Prop:=∀h x w,Wf h→0<w→w≤4→x<9223372036854775808→C0 (g [iN x,iN w] h) (ANC (Ti x w w) h)
theorem wk:RNumR (G8 Zy A7 cd):=by
 intro h x w hw hw0 hw4 hx;obtain⟨J,hJ,wJ,fJ,nJ,a1⟩:=J7 hw (B6 [] 0 5 true);have hwb:=hw.base;have s1:∀k,k≤4→Nv .i64 (.ofNat k) (.ofNat 1)=some (.int .i64 (AV7 k)):=fun k hk=>(sub_one k).elim id fun h=>by omega
 refine B5 rfl ?_;simp(disch:=omega) only[B0,reduceCtorEq,hJ,s1];refine D9.lp (P:=fun tm df H=>df=[]∧∃v,D0 tm [(U2,v)]∧Bd 5 1 h N5 H v w (M4 (Ti x w w))) ?_ ?_
 · refine K6 (n:=w) (by omega) (fun i tm H=>∃v,D0 tm [([],iN x),(U2,v),(Q8,.int .i64 (AV7 (w-i)))]∧Bd 5 1 h N5 H v i (M4 (Ti x w i))) ?_ (fun i tm H hi hI=>?_) (fun tm H hI=>?_)
   ·exact⟨_,by simp[D0,T.A9,Fy];rfl,Bd.OX wJ fJ⟩
   · obtain⟨v,⟨t0,t5,t6,-⟩,bd⟩:=hI;obtain⟨d,hd⟩:∃d,w-i=d+1:=⟨w-i-1,by omega⟩
     rw[hd] at t6;have t6':tm.get Q8=some (iN d):=t6;obtain⟨v',H',e1,bd2⟩:=bd.one hw (bN (x/2^(8*d)%256)) U6 (by omega);have hy:AQO x w i=x/2^(8*d)%256:=by unfold AQO;grind
     rw[←hy,show M4 (Ti x w i)++[bN (AQO x w i)]=M4 (Ti x w (i+1)) by rw[sR,Ih];rfl] at bd2;have e2:=ALe x (k:=8*d) (by omega);have e3:W4 .u8 (.ofNat (x/2^(8*d)))=.ofNat (x/2^(8*d)%256):=QH _;unfold Iw;simp(disch:=first|omega|exact⟨rfl,rfl,rfl⟩|assumption) only[B0,reduceCtorEq,t0,t5,t6',e2,e3,e1,s1];exact .go ⟨v',by simp[D0,T.A9,t0,show w-(i+1)=d by omega],bd2⟩
   ·obtain⟨v,⟨t0,t5,t6,-⟩,bd⟩:=hI;rw[Wj] at t6;have t6':tm.get Q8=some (.int .i64 (.negSucc 0)):=t6;have e2:PG (.negSucc 0) (.ofNat 0)=true:=rfl;unfold Iw;simp only[B0,t6',e2];exact .ex ⟨rfl,rfl,v,by simp[D0,T.A9,t5],bd⟩
 rintro tm df H ⟨rfl,v,⟨t5,-⟩,bd⟩;simp only[B0,t5];refine .ret ?_;simp only[B0];exact bd.wt (lO _ _ _) hw0
abbrev AEr(A7:Call):Prop:=RNumR (A7 204)
def CX(l:List Nat):List Nat:=l.flatMap fun x=>[x,255-x]
theorem ym(l:List Nat):(CX l).length=2*l.length:=by
 induction l with
 | nil=>rfl
 | cons x l ih=>show(x::(255-x)::CX l).length=_;grind
theorem Xt(l:List Nat)(x:Nat):CX (l++[x])=CX l++[x,255-x]:=by simp[CX]
theorem AHv(h:i<l.length):l.take (i+1)=l.take i++[l.getD i 0]:=by simp_all
abbrev RCodeR(g:List A0→Hp→N3):Prop:=∀h v l,Wf h→Sl 1 h v l.length (M4 l)→0<l.length→l.length≤1000→(∀x∈l,x<256)→C0 (g [v] h) (ANC (CX l) h)
theorem A55:RCodeR (G8 ua A7 cd):=by
 intro h v l hw hv h0 hl hb;obtain⟨J,hJ,wJ,fJ,nJ,a1⟩:=J7 hw (B6 [] 0 5 true);have hwb:=hw.base;have vl:=hv.len;have vA:=hv.A h0;have AKm:=(hv.S h0).A2z hw;refine B5 rfl ?_;simp only[B0,hJ];refine D9.lp (P:=fun tm df H=>df=[]∧∃o,D0 tm [(Q3,o)]∧Bd 5 1 h N5 H o (2*l.length) (M4 (CX l))) ?_ ?_
 · refine K6 (n:=l.length) (by omega) (fun i tm H=>∃o,D0 tm [([],v),(Q3,o),(V1,iN i)]∧Bd 5 1 h N5 H o (2*i) (M4 (CX (l.take i)))) ?_ (fun i tm H hi hI=>?_) (fun tm H hI=>?_)
   ·exact⟨_,by simp[D0,T.A9,It];rfl,Bd.OX wJ fJ⟩
   · obtain⟨o,⟨t0,t3,t4,-⟩,bd⟩:=hI;have hxi:=G6 hi;have hx:=hb _ (s6 hxi);obtain⟨H1,hH1,w1,f1,n1,x1⟩:=J7 bd.wf (B6 [bN (l.getD i 0),bN (255-l.getD i 0)] 2 5 true);obtain⟨o',Z,Z',e1,e2,e3,hlg,bd2,nZ,aZ,fZ⟩:=bd.AKa w1 f1 hw (y:=F8 H.A6 0 2 2) (new:=M4 [l.getD i 0,255-l.getD i 0]) ⟨rfl,.inr ⟨_,_,_,rfl,by omega,O3 x1 (by constructor<;>grind)⟩⟩ (Kw _) (by omega) (by omega);rw[←Ih,←Xt,←AHv hi,show 2*i+2=2*(i+1) by omega] at bd2;have bH:=bd.fr.base;have nH:=bd.fr.A6;have e2q:B8 Z' H.base H.log=Z:=by rw[←e2,f1.base,f1.log]
     unfold NL;rcases hlg with⟨hi0,hlg⟩|⟨b',hlg,g2,g3,g4⟩
     ·simp(disch:=first|omega|exact⟨rfl,rfl,rfl⟩|assumption) only[B0,reduceCtorEq,t0,t3,t4,bd.fr.e,vA,Q1 hxi,hH1,e1,e2q,hlg];exact .go ⟨o',by simp[D0,T.A9,t0],bd2⟩
     ·simp(disch:=first|omega|exact⟨rfl,rfl,rfl⟩|assumption) only[B0,reduceCtorEq,t0,t3,t4,bd.fr.e,vA,Q1 hxi,hH1,e1,e2q,hlg];exact .go ⟨o',by simp[D0,T.A9,t0],bd2⟩
   ·obtain⟨o,⟨t0,t3,t4,-⟩,bd⟩:=hI;rw[TO (M8 _)] at bd;unfold NL;simp(disch:=omega) only[B0,t0,t4,vl];exact .ex ⟨rfl,rfl,o,by simp[D0,T.A9,t3],bd⟩
 rintro tm df H ⟨rfl,o,⟨t3,-⟩,bd⟩;simp only[B0,t3];refine .ret ?_;simp only[B0];exact bd.wt (ym _) (by omega)
abbrev ADU(A7:Call):Prop:=RCodeR (A7 203)
theorem Fr.n{P:Nat→Prop}{K H:Hp}(f:Fr P K H):H.base=K.base∧H.log=K.log∧B8 H K.base K.log=H∧∀o,B8 (H.new o) K.base K.log=H.new o:=by refine⟨f.base,f.log,A2B f,fun o=>?_⟩;have:=A2B (f.CJ o);exact this
theorem A34(hIn:ANq A7)(hw:Wf h):C0 (G8 gX A7 cd [.agg ⟨BT⟩] h) (QR (.bool true) h):=by
 obtain⟨J,hJ,wJ,fJ,nJ,a1,a2,a3⟩:=PB hw (B6 BT 9 52 true) (B6 [i0,i0,i0,i0,i0] 5 309 true) (B6 [i0,i0,i0] 3 92 true);have hwb:=hw.base;obtain⟨K,hK⟩:∃K,(J.put (h.A6+1) (some (B6 [i0,i0,i0,i0,i0] 5 309 true))).put (h.A6+1+1) (some (B6 [i0,iN 4,iN 4] 3 92 true))=K:=⟨_,rfl⟩
 have kK:Ky h K (h.A6+3):=by
  rw[←hK]
  repeat' first|exact Ky.mk wJ fJ nJ|refine Ky.put ?_ (by omega) (by omega) hw _
 have b1:K.at h.A6=some (B6 BT 9 52 true):=by rw[←hK,E9 (by omega),E9 (by omega)];exact a1
 have b2:K.at (h.A6+1)=some (B6 [i0,i0,i0,i0,i0] 5 309 true):=by rw[←hK,E9 (by omega),K0]
 have b3:K.at (h.A6+1+1)=some (B6 [i0,iN 4,iN 4] 3 92 true):=by rw[←hK,K0]
 have g5:∀i,i<5→[i0,i0,i0,i0,i0][i]?=some i0:=fun i hi=>by
  match i with
  | 0 | 1 | 2 | 3 | 4=>rfl
  | n+5=>omega
 have g3:∀i,i<3→∃y,[i0,iN 4,iN 4][i]?=some (iN y)∧y≤4:=fun i hi=>by grind
 have bJ:=fJ.base;have sbJ:B8 K J.base J.log=K:=A4C (by rw[kK.fr.base,bJ]) (by rw[kK.fr.log,fJ.log]);unfold BT at hJ a1 b1 ⊢;unfold B6 at hK;refine B5 rfl ?_;simp(disch:=first|omega|(simp only[C6]<;>omega)|exact⟨rfl,rfl,rfl⟩|assumption) only[↓CG,B0,reduceCtorEq,Nat.reduceAdd,Nat.reduceMul,Nat.reduceSub,hJ,a1,a2,a3,A2B fJ,ARa,hK,sbJ];refine D9.lp (P:=fun tm df H=>df=[]∧D0 tm [(Q0,C2 h.A6 0),(V1,C2 (h.A6+1+1) 0)]∧H=K) ?_ ?_
 · refine K6 (n:=5) (by omega) (fun i tm H=>D0 tm [(Q0,C2 h.A6 0),(Q3,C2 (h.A6+1) 0),(V1,C2 (h.A6+1+1) 0),(U2,iN i)]∧H=K) ⟨by simp[D0,T.A9],rfl⟩ (fun i tm H hi hI=>?_) (fun tm H hI=>?_)
   ·obtain⟨⟨t1,t3,t4,t5,-⟩,rfl⟩:=hI;unfold KW;simp(disch:=omega) only[B0,reduceCtorEq,t3,t5,b2,Ag,g5 i hi,hIn];exact .go ⟨by simp[D0,T.A9,t1,t3,t4],rfl⟩
   ·obtain⟨⟨t1,t3,t4,t5,-⟩,rfl⟩:=hI;unfold KW;simp(disch:=omega) only[B0,t5];exact .ex ⟨rfl,rfl,by simp[D0,T.A9,t1,t4],rfl⟩
 rintro tm df H ⟨rfl,⟨t1,t4,-⟩,rfl⟩;simp only[B0];refine D9.lp (P:=fun tm df H'=>df=[]∧D0 tm [(Q0,C2 h.A6 0)]∧H'=H) ?_ ?_
 · refine K6 (n:=3) (by omega) (fun i tm H'=>D0 tm [(Q0,C2 h.A6 0),(V1,C2 (h.A6+1+1) 0),(Q8,iN i)]∧H'=H) ⟨by simp[D0,T.A9,t1,t4],rfl⟩ (fun i tm H' hi hI=>?_) (fun tm H' hI=>?_)
   ·obtain⟨⟨t1,t4,t6,-⟩,rfl⟩:=hI;obtain⟨y,hy,hy4⟩:=g3 i hi;unfold Li;simp(disch:=omega) only[B0,reduceCtorEq,t4,t6,b3,Ag,hy,hIn];exact .go ⟨by simp[D0,T.A9,t1,t4],rfl⟩
   ·obtain⟨⟨t1,t4,t6,-⟩,rfl⟩:=hI;unfold Li;simp(disch:=omega) only[B0,t6];exact .ex ⟨rfl,rfl,by simp[D0,T.A9,t1],rfl⟩
 rintro tm df H' ⟨rfl,⟨t1,-⟩,rfl⟩;simp(disch:=first|omega|(simp only[C6]<;>omega)) only[B0,t1,b1,hIn];refine .ret ?_;simp only[B0];exact⟨rfl,kK.fr.log⟩
abbrev kq(A7:Call):Prop:=∀H,Wf H→A7 109 [.agg ⟨BT⟩] H=.val (.bool true) H
theorem Bd.num(hN:AEr A7){H:Hp}{v:A0}{n w:Nat}(hw:Wf h)(bd:Bd 5 1 h N5 H v n (M4 l))(hw0:0<w)(hw4:w≤4)(hx:x<9223372036854775808)(hn:n≤1000):∃r G v' G',A7 204 [iN x,iN w] H=.val r G∧DJ 5 1 v r G=.val v' G'∧Bd 5 1 h N5 G' v' (n+w) (M4 (l++Ti x w w))∧Fr N5 H G:=by obtain⟨r,G,e,⟨hs,_⟩,wG,fG⟩:=(hN H x w bd.wf hw0 hw4 hx).get;rw[lO] at hs;obtain⟨v',G',e2,b2,_⟩:=(bd.step wG fG).app hw hs (Kw _) hw0 (by omega);rw[←Ih] at b2;grind
theorem ANC.draw(hw:Wf h)(hy:C0 r (ANC l (B8 h h.A6 []))):∃v H' H,r=.val v H'∧H'.log=[]∧B8 H' h.base h.log=H∧H'.A6=H.A6∧AXA l h.A6 v H∧Wf H∧Fr N5 h H:=by obtain⟨v,H',H,e,l',sb,nx,p,w,f⟩:=drawn (P:=AXA l h.A6) hw (fun _ _ _ _ p=>p) hy;grind
def AJL:List Nat:=[0,0,0,0,0,0,0,0,0,0,0,0,4,0,4]
theorem A6F(hR:kq A7)(hN:AEr A7)(hC:ADU A7)(hw:Wf h):C0 (G8 rK A7 cd [.agg ⟨BT⟩] h) (ANC T5 h):=by
 obtain⟨J,hJ,wJ,fJ,nJ,a1⟩:=J7 hw (B6 BT 9 52 true);have hwb:=hw.base;have c1:=hR J wJ;obtain⟨H1,hH1,w1,f1,n1,x1⟩:=J7 wJ (B6 [bN 0] 1 5 true);obtain⟨r2,H2',H2,e2,l2,s2,m2,⟨hs2,_⟩,w2,f2⟩:=ANC.draw w1 (hN (B8 H1 H1.A6 []) 0 2 (w1.sb []) (by omega) (by omega) (by omega));rw[lO] at hs2;have e3:=pw (E:=5) (X:=B8 H2 H2.A6 []) (k:=1) ((O3 (vs:=M4 [0]) x1 (by trivial)).K7 (f2.e _ (by omega))) rfl (by omega) hs2 (by omega) (by omega);obtain⟨H3,hH3,w3,f3,n3,x3⟩:=J7 w2 (B6 (M4 [0]++M4 (Ti 0 2 2)) (M4 [0]++M4 (Ti 0 2 2)).length 5 false);have fh3:=(f1.trans f2 fun _ _ h=>h).trans f3 fun _ _ h=>h;have g1:=f1.A6;have g2:=f2.A6;have bd:Bd 5 1 J N5 H3 (F8 H2.A6 0 3 (C4 1 3)) 3 (M4 ([0]++Ti 0 2 2)):=⟨⟨by rw[O4];rfl,Kw _,.inr ⟨H2.A6,rfl,by omega,by rw[←hH3,←Ih];exact Dy rfl,by show J.A6≤H2.A6;omega⟩⟩,w3,fh3⟩
 have aJ:∀ {H:Hp},Fr N5 h H→True:=fun _=>trivial;obtain⟨v4,H4,e4,b4⟩:=bd.one wJ (bN 0) U6 (by omega);rw[show M4 ([0]++Ti 0 2 2)++[bN 0]=M4 ([0]++Ti 0 2 2++[0]) by rw[Ih _ [0]];rfl] at b4;obtain⟨r5,H5,v6,H6,e5,e6,b6,f5⟩:=b4.num hN wJ (x:=0) (w:=4) (by omega) (by omega) (by omega) (by omega);obtain⟨H7,hH7,w7,f7,n7,x7⟩:=J7 b6.wf (B6 [bN 0,bN 0,bN 0] 3 5 true);obtain⟨v8,H8,e8,b8,_⟩:=(b6.step w7 f7).app wJ (y:=F8 H6.A6 0 3 3) (new:=M4 [0,0,0]) ⟨rfl,.inr ⟨_,_,_,rfl,by omega,O3 x7 (by trivial)⟩⟩ (Kw _) (by omega) (by omega);rw[←Ih] at b8;obtain⟨r9,H9,v10,H10,e9,e10,b10,f9⟩:=b8.num hN wJ (x:=4) (w:=2) (by omega) (by omega) (by omega) (by omega);obtain⟨r11,H11,v12,H12,e11,e12,b12,f11⟩:=b10.num hN wJ (x:=4) (w:=2) (by omega) (by omega) (by omega) (by omega);have hpl:[0]++Ti 0 2 2++[0]++Ti 0 4 4++[0,0,0]++Ti 4 2 2++Ti 4 2 2=AJL:=rfl;rw[hpl] at b12;obtain⟨r,G,e13,⟨hs,hb⟩,wG,fG⟩:=(hC H12 v12 AJL b12.wf b12.sl (by decide) (by decide) (by decide)).get;have q4:=b4.fr.A6;have q6:=b6.fr.A6;have q8:=b8.fr.A6;have q10:=b10.fr.A6;have q12:=b12.fr.A6;have q5:=f5.A6;have q9:=f9.A6;have q11:=f11.A6;have q7:=f7.A6;have bJ:=fJ.base;have y1:=f1.base;have y2:=f2.base;have y4:=b4.fr.base;have y6:=b6.fr.base;have y8:=b8.fr.base;have y10:=b10.fr.base;have y12:=b12.fr.base;have h13:=b12.fr.trans fG fun _ _ h=>h;unfold BT at hJ a1 c1 ⊢;rw[f1.log,f1.base] at s2;refine B5 rfl ?_;simp(disch:=first|omega|(simp only[C6]<;>omega)|exact⟨rfl,rfl,rfl⟩|assumption) only[↓CG,B0,reduceCtorEq,Nat.reduceAdd,Nat.reduceMul,Nat.reduceSub,hJ,a1,c1,hH1,e2,l2,s2,m2,e3,hH3,e4,e5,e6,hH7,e8,e9,e10,e11,e12,e13,f1.e,f2.e,fh3.e,b4.fr.e,b6.fr.e,b8.fr.e,b10.fr.e,b12.fr.e,A2B fJ,f1.n,fh3.n,b4.fr.n,b6.fr.n,b8.fr.n,b10.fr.n,b12.fr.n,h13.n,(f1.trans f2 fun _ _ h=>h).n,(b4.fr.trans f5 fun _ _ h=>h).n,(b8.fr.trans f9 fun _ _ h=>h).n,(b6.fr.trans f7 fun _ _ h=>h).n,(b10.fr.trans f11 fun _ _ h=>h).n];refine .ret ?_;simp only[B0];exact⟨⟨hs,fun c hc=>by have:=hb c hc;omega⟩,wG,fJ.trans h13 fun _ _ h=>h⟩
abbrev ABh(A7:Call):Prop:=∀H,Wf H→C0 (A7 202 [.agg ⟨BT⟩] H) (ANC T5 H)
end Abs
end Go
end
