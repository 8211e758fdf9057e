/-
Symbolic runs of the functions that the law reaches, part 01.
Conditions: none.
-/
import Derived.Test.YtekknahndoonjaaGreatDoorEval03
set_option linter.all false
set_option maxRecDepth 10000
noncomputable section
namespace Go
namespace Abs
variable {R α:Type} {v v':A0} {r r':N3} {kn:T A0→Df→Hp→N7} {ke:Nat→T A0→Df→Hp→N7} {tm tm':T A0} {df:Df} {b c m o s yb yc yo:Nat} {c':Bool} {A7:Call} {args lo vs:List A0} {H h h':Hp} {x y:List UInt8} {φ ψ:Ex→T A0→Df→Hp→Prop} {rs:List CR} {gs:List Nat} {f g:Map} {Q:Nat→Prop}
@[congr] theorem AZ9{o o':Option α}{k:α→R}{z:R}(h:o=o'):R5 o k z=R5 o' k z:=by rw[h]
@[congr] theorem AXI{k:IntKind→Int→R}{z:R}(h:v=v'):Bi v k z=Bi v' k z:=by rw[h]
@[congr] theorem AXZ{k:Nat→Nat→Nat→Nat→R}{kn:Nat→Nat→R}{z:R}(h:v=v'):Np v k kn z=Np v' k kn z:=by rw[h]
@[congr] theorem AXy{k:ByteArray→R}{z:R}(h:v=v'):Hq v k z=Hq v' k z:=by rw[h]
@[congr] theorem AWA{k:Bool→R}{z:R}(h:v=v'):Cq v k z=Cq v' k z:=by rw[h]
@[congr] theorem AXN{k:Nat→Nat→R}{z:R}(h:v=v'):FE v k z=FE v' k z:=by rw[h]
@[congr] theorem AXD{k:List A0→R}{z:R}(h:v=v'):Oh v k z=Oh v' k z:=by rw[h]
@[congr] theorem AXM{k:Nat→R}{z:R}(h:v=v'):Hw v k z=Hw v' k z:=by rw[h]
@[congr] theorem AUK{w:Bool}{y n z:R}(h:v=v'):AP v w y n z=AP v' w y n z:=by rw[h]
@[congr] theorem AZb{r r':N7}(h:r=r'):Lt r kn ke=Lt r' kn ke:=by rw[h]
@[congr] theorem AXx{k:A0→Hp→N7}(h:r=r'):A5J tm df k r=A5J tm df k r':=by rw[h]
@[congr] theorem AXR{k:A0→Hp→N7}(h:r=r'):ABb k r=ABb k r':=by rw[h]
@[congr] theorem AZx{hp:Hp}{k:A0→N7}{r r':PR}(h:r=r'):ANB hp r k=ANB hp r' k:=by rw[h]
@[congr] theorem AXQ{a b:R}{c:Bool}(h:c=c'):cond c a b=cond c' a b:=by rw[h]
@[congr] theorem AZ4{l:CD}{cm:Nat→Nat→Bool}{d d':Dn}(h0:d=d')(h1:tm=tm')(h2:h=h'):JO l cm A7 d lo tm df h=JO l cm A7 d' lo tm' df h':=by rw[h0,h1,h2]
@[congr] theorem AXY{l:CL}(h1:tm=tm')(h2:h=h'):Hb l A7 lo tm df h=Hb l A7 lo tm' df h':=by rw[h1,h2]
@[congr] theorem AYB{l:CC}(h1:tm=tm')(h2:h=h'):Dx l A7 tm df h=Dx l A7 tm' df h':=by rw[h1,h2]
def AAV{R:Type}(a b:R)(t:Bool):R:=Bool.rec (motive:=fun _=>R) a b t
@[congr] theorem AXK{a b:R}{c:Bool}(h:c=c'):AAV a b c=AAV a b c':=by rw[h]
theorem AXW(a b:R):AAV a b true=b:=rfl
theorem AYw(a b:R):AAV a b false=a:=rfl
def AWO{R:Type}(z:R)(k:A0→R)(kr:Nat→(N2→Option A0)→R)(p:PR):R:=PR.rec (motive:=fun _=>R) z k kr p
@[congr] theorem AZ6{z:R}{k:A0→R}{kr:Nat→(N2→Option A0)→R}{p p':PR}(h:p=p'):AWO z k kr p=AWO z k kr p':=by rw[h]
theorem FL(v:α)(k:α→R)(z:R):R5 (some v) k z=k v:=rfl
theorem AUt(kd:IntKind)(n:Int)(k:IntKind→Int→R)(z:R):Bi (.int kd n) k z=k kd n:=rfl
theorem AX0(b o l c:Nat)(k:Nat→Nat→Nat→Nat→R)(kn:Nat→Nat→R)(z:R):Np (.slice (some ⟨b,o,none⟩) l c) k kn z=k b o l c:=rfl
theorem LM(b o l c:Nat)(k:Nat→Nat→Nat→Nat→R)(kn:Nat→Nat→R)(z:R):Np (F8 b o l c) k kn z=k b o l c:=rfl
theorem ADF(l c:Nat)(k:Nat→Nat→Nat→Nat→R)(kn:Nat→Nat→R)(z:R):Np (.slice none l c) k kn z=kn l c:=rfl
theorem ASs(s:ByteArray)(k:ByteArray→R)(z:R):Hq (.string s) k z=k s:=rfl
theorem AO7(b:Bool)(k:Bool→R)(z:R):Cq (.bool b) k z=k b:=rfl
theorem ATJ(b o:Nat)(k:Nat→Nat→R)(z:R):FE (C2 b o) k z=k b o:=rfl
theorem ASR(a:List A0)(k:List A0→R)(z:R):Oh (.agg ⟨a⟩) k z=k a:=rfl
theorem ALJ(a:List A0)(k:List A0→R)(z:R):ACm (.tuple ⟨a⟩) k z=k a:=rfl
theorem Iq(kd:IntKind)(n:Nat)(k:Nat→R)(z:R):Hw (.int kd (.ofNat n)) k z=k n:=rfl
theorem A7g(y n z:R):AP (.bool true) true y n z=y:=rfl
theorem A5I(y n z:R):AP (.bool true) false y n z=n:=rfl
theorem A8Z(y n z:R):AP (.bool false) true y n z=n:=rfl
theorem A6Q(y n z:R):AP (.bool false) false y n z=y:=rfl
theorem AAG(want:Bool)(y n z:R):AP undef want y n z=n:=rfl
theorem AVC(a b:CC)(A7:Call)(tm:T A0)(df:Df)(h:Hp):Dx (.seq a b) A7 tm df h=Lt (Dx a A7 tm df h) (Dx b A7) (fun i tm df h=>.ok (.exit i) tm df h):=rfl
theorem AJB(l:CL)(A7:Call)(tm:T A0)(df:Df)(h:Hp):Dx (.region l) A7 tm df h=Hb l A7 [] tm df h:=rfl
theorem ATB(an:T Nat)(l:CD)(A7:Call)(tm:T A0)(df:Df)(h:Hp):Dx (.draw an l) A7 tm df h=JO l (comp an) A7 ⟨[],[],[]⟩ [] tm df h:=rfl
theorem AT2(A7:Call)(tm:T A0)(df:Df)(h:Hp):Dx .skip A7 tm df h=.ok .normal tm df h:=rfl
theorem AVu(A7:Call)(tm:T A0)(df:Df)(h:Hp):Dx .ret A7 tm df h=.ok .ret tm df h:=rfl
theorem AUf(i:Nat)(A7:Call)(tm:T A0)(df:Df)(h:Hp):Dx (.exit i) A7 tm df h=.ok (.exit i) tm df h:=rfl
theorem ASl(c:OD)(a b:CC)(A7:Call)(tm:T A0)(df:Df)(h:Hp):Dx (.cond c a b) A7 tm df h=Cq (G4 c [] tm) (fun b'=>AAV (Dx b A7 tm df h) (Dx a A7 tm df h) b') .none:=rfl
theorem ANY(id:Nat)(b:CC)(A7:Call)(tm:T A0)(df:Df)(h:Hp):Dx (.block id b) A7 tm df h=Lt (Dx b A7 tm df h) (fun tm df h=>.ok .normal tm df h) (fun i tm df h=>bif Nat.beq i id then .ok .normal tm df h else .ok (.exit i) tm df h):=rfl
theorem ASn(b:CC)(A7:Call)(tm:T A0)(df:Df)(h:Hp):Dx (.loop b) A7 tm df h=pf (Dx b) 1000000 A7 tm df h:=rfl
theorem AOE(a:D)(n:Nat)(A7:Call)(tm:T A0)(df:Df)(h:Hp):pf a (n+1) A7 tm df h=Lt (a A7 tm df h) (pf a n A7) (fun i tm df h=>.ok (.exit i) tm df h):=rfl
theorem AW2(tm:T A0)(df:Df)(h:Hp)(kn:T A0→Df→Hp→N7)(ke:Nat→T A0→Df→Hp→N7):Lt (.ok .normal tm df h) kn ke=kn tm df h:=rfl
theorem AYb(i:Nat)(tm:T A0)(df:Df)(h:Hp)(kn:T A0→Df→Hp→N7)(ke:Nat→T A0→Df→Hp→N7):Lt (.ok (.exit i) tm df h) kn ke=ke i tm df h:=rfl
theorem AYl(tm:T A0)(df:Df)(h:Hp)(kn:T A0→Df→Hp→N7)(ke:Nat→T A0→Df→Hp→N7):Lt (.ok .ret tm df h) kn ke=.ok .ret tm df h:=rfl
theorem Aaz(f:DP)(r:CL)(A7:Call)(lo:List A0)(tm:T A0)(df:Df)(h:Hp):Hb (.E3 f r) A7 lo tm df h=R5 (f lo tm) (fun v=>Hb r A7 (v::lo) tm df h) .none:=rfl
theorem Aaj(f:DR)(r:CL)(A7:Call)(lo:List A0)(tm:T A0)(df:Df)(h:Hp):Hb (.BX f r) A7 lo tm df h=ANB h (f lo tm) (fun v=>Hb r A7 (v::lo) tm df h):=rfl
theorem AaJ(fl:Fl)(f:DO)(r:CL)(A7:Call)(lo:List A0)(tm:T A0)(df:Df)(h:Hp):Hb (.JX fl f r) A7 lo tm df h=A5J (fl.go lo tm) df (fun v h=>Hb r A7 (v::lo) tm df h) (f A7 lo tm h):=rfl
theorem Aav(i:Nat)(p:List Bool)(r:CL)(A7:Call)(lo:List A0)(tm:T A0)(df:Df)(h:Hp):Hb (.flush i p r) A7 lo tm df h=Hb r A7 lo (T.set p tm (some (nth lo i))) df h:=T.X9 _ _ _ _
theorem Aat(A7:Call)(lo:List A0)(tm:T A0)(df:Df)(h:Hp):Hb .nil A7 lo tm df h=.ok .normal tm df h:=rfl
theorem AY1(fl:Fl)(g:OD)(want:Bool)(f:DP)(r:CL)(A7:Call)(lo:List A0)(tm:T A0)(df:Df)(h:Hp):Hb (.guard fl g want (.p f) r) A7 lo tm df h=AP (G4 g lo tm) want (R5 (f lo tm) (fun v=>Hb r A7 (v::lo) tm df h) .none) (Hb r A7 (undef::lo) tm df h) .none:=rfl
theorem AZB(fl:Fl)(g:OD)(want:Bool)(f:DR)(r:CL)(A7:Call)(lo:List A0)(tm:T A0)(df:Df)(h:Hp):Hb (.guard fl g want (.r f) r) A7 lo tm df h=AP (G4 g lo tm) want (ANB h (f lo tm) (fun v=>Hb r A7 (v::lo) tm df h)) (Hb r A7 (undef::lo) tm df h) .none:=rfl
theorem AYk(fl:Fl)(g:OD)(want:Bool)(f:DO)(r:CL)(A7:Call)(lo:List A0)(tm:T A0)(df:Df)(h:Hp):Hb (.guard fl g want (.g f) r) A7 lo tm df h=AP (G4 g lo tm) want (A5J (fl.go lo tm) df (fun v h=>Hb r A7 (v::lo) tm df h) (f A7 lo tm h)) (Hb r A7 (undef::lo) tm df h) .none:=rfl
theorem AVF(tm:T A0)(df:Df)(k:A0→Hp→N7)(v:A0)(h:Hp):A5J tm df k (.val v h)=k v h:=rfl
theorem AVI(h:Hp)(v:A0)(k:A0→N7):ANB h (.val v) k=k v:=rfl
theorem AJe(h:Hp)(b:Nat)(g:N2→Option A0)(k:A0→N7):ANB h (.read b g) k=R5 (h.at b) (fun o=>R5 (g o) k .none) .none:=rfl
theorem XK(c:T A0)(n:Nat)(e:TypeId)(cl ro:Bool)(k:T A0→Nat→TypeId→Bool→Bool→R)(z:R):Jc (.row c n e cl ro) k z=k c n e cl ro:=rfl
theorem AYm(f:DP)(r:CD)(cm:Nat→Nat→Bool)(A7:Call)(d:Dn)(lo:List A0)(tm:T A0)(df:Df)(h:Hp):JO (.E3 f r) cm A7 d lo tm df h=R5 (f lo tm) (fun v=>JO r cm A7 d (v::lo) tm df h) .none:=rfl
theorem AYF(i:Nat)(p:List Bool)(r:CD)(cm:Nat→Nat→Bool)(A7:Call)(d:Dn)(lo:List A0)(tm:T A0)(df:Df)(h:Hp):JO (.flush i p r) cm A7 d lo tm df h=JO r cm A7 d lo (T.set p tm (some (nth lo i))) df h:=T.X9 _ _ _ _
theorem AZA(cm:Nat→Nat→Bool)(A7:Call)(d:Dn)(lo:List A0)(tm:T A0)(df:Df)(h:Hp):JO .nil cm A7 d lo tm df h=.ok .normal tm df h:=rfl
theorem AYh(k:Nat)(f:DR)(r:CD)(cm:Nat→Nat→Bool)(A7:Call)(d:Dn)(lo:List A0)(tm:T A0)(df:Df)(h:Hp):JO (.BX k f r) cm A7 d lo tm df h=AWO .none (fun v=>JO r cm A7 d (v::lo) tm df h)
 (fun b g=>bif By cm k b d.ws then R5 (h.at b) (fun o=>R5 (g o) (fun v=>JO r cm A7 ⟨d.ns,(k,b)::d.rs,d.ws⟩ (v::lo) tm df h) .none) .none else .none) (f lo tm):=rfl
theorem AX6(z:R)(k:A0→R)(kr:Nat→(N2→Option A0)→R)(v:A0):AWO z k kr (.val v)=k v:=rfl
theorem AWH(z:R)(k:A0→R)(kr:Nat→(N2→Option A0)→R)(b:Nat)(g:N2→Option A0):AWO z k kr (.read b g)=kr b g:=rfl
theorem AYq(n:Nat)(bar:Bool)(own:List (Nat×Bool))(f:DO)(r:CD)(cm:Nat→Nat→Bool)(A7:Call)(d:Dn)(lo:List A0)(tm:T A0)(df:Df)(h:Hp):JO (.JX n bar own f r) cm A7 d lo tm df h =
 ABb (fun v h1=>bif allowed cm n bar own d h1.log then JO r cm A7 ⟨(h.A6,n)::d.ns,d.rs,wrote n h1.log d.ws⟩ (v::lo) tm df (B8 h1 h.base (below h.base h1.log h.log)) else .none) (f A7 lo tm (B8 h h.A6 [])):=rfl
theorem AU4(k:A0→Hp→N7)(v:A0)(h:Hp):ABb k (.val v h)=k v h:=rfl
theorem AVH(g:OD)(want:Bool)(f:DP)(r:CD)(cm:Nat→Nat→Bool)(A7:Call)(d:Dn)(lo:List A0)(tm:T A0)(df:Df)(h:Hp):JO (.NO g want f r) cm A7 d lo tm df h=AP (G4 g lo tm) want (R5 (f lo tm) (fun v=>JO r cm A7 d (v::lo) tm df h) .none) (JO r cm A7 d (undef::lo) tm df h) .none:=rfl
theorem AX4(k:Nat)(g:OD)(want:Bool)(f:DR)(r:CD)(cm:Nat→Nat→Bool)(A7:Call)(d:Dn)(lo:List A0)(tm:T A0)(df:Df)(h:Hp):JO (.uM k g want f r) cm A7 d lo tm df h=AP (G4 g lo tm) want (JO (.BX k f r) cm A7 d lo tm df h) (JO r cm A7 d (undef::lo) tm df h) .none:=rfl
theorem AMT(cm:Nat→Nat→Bool)(k b:Nat):By cm k b []=true:=rfl
theorem AOV(cm:Nat→Nat→Bool)(k:Nat)(bar:Bool)(own:List (Nat×Bool))(d:Dn):allowed cm k bar own d []=true:=rfl
theorem AOT(k:Nat)(ws:List (Nat×Nat)):wrote k [] ws=ws:=rfl
theorem APU(b:Nat)(AM:List Nat):below b [] AM=AM:=rfl
theorem Aah(i:Nat)(lo:List A0)(tm:T A0):G4 (.loc i) lo tm=nth lo i:=rfl
theorem Aa6(p:List Bool)(lo:List A0)(tm:T A0):G4 (.tmp p) lo tm=Qd (tm.get p):=rfl
theorem AIK(v:A0)(lo:List A0)(tm:T A0):G4 (.val v) lo tm=v:=rfl
theorem Aap(v:A0):Qd (some v)=v:=rfl
theorem AYM(v:A0)(l:List A0):nth (v::l) 0=v:=rfl
theorem AYQ(v:A0)(l:List A0)(i:Nat):nth (v::l) (i+1)=nth l i:=rfl
theorem ASC(lo:List A0)(tm:T A0):XW [] lo tm=[]:=rfl
theorem ASz(o:OD)(l:List OD)(lo:List A0)(tm:T A0):XW (o::l) lo tm=G4 o lo tm::XW l lo tm:=rfl
theorem AU8(x:OD)(lo:List A0)(tm:T A0):R6 x lo tm=some (G4 x lo tm):=rfl
theorem AUe(x:OD)(lo:List A0)(tm:T A0):Rj x lo tm=Np (G4 x lo tm) (fun _ _ l _=>some (.int .i64 (.ofNat l))) (fun l _=>some (.int .i64 (.ofNat l))) none:=by unfold Rj;simp only[Aa];rfl
theorem ARR(x:OD)(lo:List A0)(tm:T A0):rU x lo tm=Hq (G4 x lo tm) (fun s=>some (.int .i64 (.ofNat (bl s).length))) none:=by unfold rU;simp only[Aa,R4];rfl
theorem AQd(g:G)(x y:OD)(lo:List A0)(tm:T A0):V0 g x y lo tm=Bi (G4 x lo tm) (fun kd a=>Bi (G4 y lo tm) (fun kd' b=>bif ALw kd kd' then g kd a b else none) none) none:=rfl
theorem AVk(k:IntKind):ALw k k=true:=by cases k<;>rfl
theorem AYJ(kd:IntKind)(x y:Int):AUd kd x y=some (.bool (PG x y)):=Gv _
theorem AZh(kd:IntKind)(x y:Int):ANF kd x y=some (.bool (!PG y x)):=Gv _
theorem AZj(kd:IntKind)(x y:Int):xq kd x y=some (.bool (PG y x)):=Gv _
theorem AYC(kd:IntKind)(x y:Int):AZC kd x y=some (.bool (!PG x y)):=Gv _
theorem AZr(kd:IntKind)(x y:Int):AY2 kd x y=some (.bool (A38 x y)):=Gv _
theorem AYY(kd:IntKind)(x y:Int):iQ kd x y=some (.bool (!A38 x y)):=Gv _
theorem AWu(kd:IntKind)(x y:Int):AB0 kd x y=some (.int kd (W4 kd (AP9 x y))):=by unfold AB0;rw[Cg]
theorem AVB(kd:IntKind)(x y:Int):Nv kd x y=some (.int kd (W4 kd (x-y))):=by unfold Nv;rw[Cg]
theorem ANI(a b:Nat):AP9 (.ofNat a) (.ofNat b)=.ofNat (a+b):=rfl
theorem ATy(a b:Nat):PG (.ofNat a) (.ofNat b)=Nat.blt a b:=rfl
theorem ASb(a b:Nat):A38 (.ofNat a) (.ofNat b)=Nat.beq a b:=rfl
theorem GC{a:Nat}(h:a<9223372036854775808):W4 .i64 (.ofNat a)=.ofNat a:=by show(bif Nat.blt a 9223372036854775808 then _ else _)=_;rw[Nat.blt_eq.mpr h];rfl
theorem BW{a:Nat}(h:a<b):Nat.blt a b=true:=Nat.blt_eq.mpr h
theorem GH{a:Nat}(h:b≤a):Nat.blt a b=false:=by
 cases e:Nat.blt a b with
 | false=>rfl
 | true=>have:=Nat.blt_eq.mp e;omega
theorem W8{a:Nat}(h:a≤b):Nat.ble a b=true:=Nat.ble_eq.mpr h
theorem GD{a:Nat}(h:b<a):Nat.ble a b=false:=by
 cases e:Nat.ble a b with
 | false=>rfl
 | true=>have:=Nat.ble_eq.mp e;omega
theorem AUx(s:Nat)(x i:OD)(lo:List A0)(tm:T A0):Gi s x i lo tm=Hw (G4 i lo tm) (fun i=>Np (G4 x lo tm) (fun b o l _=>bif Nat.blt i l then some (C2 b (o+i*s)) else none) (fun _ _=>none) none) none:=by unfold Gi;simp only[C1];rfl
theorem ASQ(off:Nat)(x:OD)(lo:List A0)(tm:T A0):iJ off x lo tm=FE (G4 x lo tm) (fun b o=>some (C2 b (o+off))) none:=by unfold iJ;simp only[C1];rfl
theorem AQp(a:OD)(lo:List A0)(tm:T A0):Ul a lo tm=FE (G4 a lo tm) (fun b o=>.read b fun ob=>Jc ob (fun c n _ _ _=>bif Nat.blt o n then c.get (path o) else none) none) .none:=rfl
theorem ANM(m:Nat)(a:OD)(lo:List A0)(tm:T A0):KB m a lo tm=FE (G4 a lo tm) (fun b o=>.read b fun ob=>Jc ob (fun c n _ _ _=>bif Nat.ble (o+m) n then R5 (V6 c o m []) (fun l=>some (.agg ⟨l⟩)) none else none) none) .none:=rfl
theorem AOI(op:BinOp)(x y:OD)(lo:List A0)(tm:T A0):Q7 op x y lo tm=Hq (G4 x lo tm) (fun a=>Hq (G4 y lo tm) (fun b=>RS op (bl a) (bl b)) none) none:=rfl
theorem ASk(x y:List UInt8):RS .eql x y=some (.bool (PH x y)):=Gv _
theorem ASU(x y:List UInt8):RS .neq x y=some (.bool (!PH x y)):=Gv _
theorem ASg(x y:List UInt8):RS .lss x y=some (.bool (gU x y)):=Gv _
theorem AU2(x y:List UInt8):RS .geq x y=some (.bool (!gU x y)):=Gv _
theorem ATF(h:x.length+y.length<9223372036854775808):RS .add x y=some (.string (O2 (x++y))):=by show(bif Nat.blt (Nat.add (len x) (len y)) 9223372036854775808 then Tm (x++y) else none)=_;rw[R4,R4];show(bif Nat.blt (x.length+y.length) 9223372036854775808 then Tm (x++y) else none)=_;rw[BW h];rfl
theorem AU9(c a b:OD)(lo:List A0)(tm:T A0):az c a b lo tm=Cq (G4 c lo tm) (fun t=>AAV (some (G4 b lo tm)) (some (G4 a lo tm)) t) none:=rfl
theorem AVd(x:OD)(lo:List A0)(tm:T A0):ADh x lo tm=Cq (G4 x lo tm) (fun b=>some (.bool (!b))) none:=by unfold ADh;simp only[Gv]
theorem APP(g:FuncId)(l:List OD)(A7:Call)(lo:List A0)(tm:T A0)(h:Hp):Dq g l A7 lo tm h=A7 g (XW l lo tm) h:=rfl
section
def D9(r:N7)(φ:Ex→T A0→Df→Hp→Prop):Prop:=match r with|.none=>False|.ok e tm df h=>φ e tm df h
theorem ANu(e:Ex)(tm:T A0)(df:Df)(h:Hp)(φ:Ex→T A0→Df→Hp→Prop):D9 (.ok e tm df h) φ=φ e tm df h:=rfl
theorem D9.mono{r:N7}(h:D9 r φ)(hi:∀e tm df h,φ e tm df h→ψ e tm df h):D9 r ψ:=by
 cases r with
 | none=>exact h
 | ok e tm df h'=>exact hi _ _ _ _ h
theorem D9.Lt{r:N7}(h:D9 r φ)(hi:∀e tm df h,φ e tm df h→D9 (Abs.Lt (.ok e tm df h) kn ke) ψ):D9 (Abs.Lt r kn ke) ψ:=by
 cases r with
 | none=>exact h
 | ok e tm df h'=>exact hi _ _ _ _ h
def AR0(I:Nat→T A0→Df→Hp→Prop)(φ:Ex→T A0→Df→Hp→Prop)(i:Nat)(e:Ex)(tm:T A0)(df:Df)(h:Hp):Prop:=(e=.normal∧I (i+1) tm df h)∨(e≠.normal∧φ e tm df h)
def AGo(φ:Ex→T A0→Df→Hp→Prop)(e:Ex)(tm:T A0)(df:Df)(h:Hp):Prop:=e≠.normal∧φ e tm df h
theorem AGo.ex{k:Nat}(hI:φ (.exit k) tm df h):AGo φ (.exit k) tm df h:=⟨by simp,hI⟩
theorem AJy{a:D}{n:Nat}(I:Nat→T A0→Df→Hp→Prop)(hstep:∀i tm df h,i<n→I i tm df h→D9 (a A7 tm df h) (AR0 I φ i))(hend:∀tm df h,I n tm df h→D9 (a A7 tm df h) (AGo φ)):
 ∀(fuel i:Nat) (tm:T A0) (df:Df) (h:Hp),n<i+fuel→i≤n→I i tm df h→D9 (pf a fuel A7 tm df h) φ:=by
 have out:∀(e:Ex) (tm:T A0) (df:Df) (h:Hp) (fuel:Nat),e≠.normal→φ e tm df h→D9 (Abs.Lt (.ok e tm df h) (pf a fuel A7) (fun i tm df h=>.ok (.exit i) tm df h)) φ:=fun e tm df h fuel hn hp=>by
  cases e with
  | normal=>exact absurd rfl hn
  | exit i=>exact hp
  | ret=>exact hp
  | panic c=>exact hp
 intro fuel;induction fuel with
 | zero=>intro i tm df h h1 h2;omega
 | succ fuel ih =>
  intro i tm df h h1 h2 hI;rw[AOE];by_cases hi:i<n
  · refine(hstep i tm df h hi hI).Lt fun e tm' df' h' hh=>?_;rcases hh with⟨rfl,hh⟩|⟨hn,hh⟩
    ·rw[AW2];grind
    grind
  · have:i=n:=by omega
    subst this;exact(hend tm df h hI).Lt fun e tm' df' h' hh=>out e tm' df' h' fuel hh.1 hh.2
theorem A6E{b:CC}{n:Nat}(hn:n<1000000)(I:Nat→T A0→Df→Hp→Prop)(hstep:∀i tm df h,i<n→I i tm df h→D9 (Dx b A7 tm df h) (AR0 I φ i))(hend:∀tm df h,I n tm df h→D9 (Dx b A7 tm df h) (AGo φ))(h0:I 0 tm df h):D9 (Dx (.loop b) A7 tm df h) φ:=by
 rw[ASn];exact AJy I hstep hend 1000000 0 tm df h (by omega) (BB _) h0
def C0(r:N3)(φ:A0→Hp→Prop):Prop:=match r with|.val v h=>φ v h|_=>False
theorem ABn(v:A0)(h:Hp)(φ:A0→Hp→Prop):C0 (.val v h) φ=φ v h:=rfl
theorem C0.get{φ:A0→Hp→Prop}(h:C0 r φ):∃v h',r=.val v h'∧φ v h':=by
 cases r with
 | val v h'=>exact⟨v,h',rfl,h⟩
 | none=>exact h.elim
 | panic c h'=>exact h.elim
theorem C0.mono{φ ψ:A0→Hp→Prop}(h:C0 r φ)(hi:∀v h,φ v h→ψ v h):C0 r ψ:=by
 cases r with
 | val v h'=>exact hi _ _ h
 | none=>exact h
 | panic c h'=>exact h
def eW(rs:List CR)(φ:A0→Hp→Prop)(e:Ex)(tm:T A0)(df:Df)(h:Hp):Prop:=(e=.normal∨e=.ret)∧df=[]∧C0 (ud rs tm h) φ
theorem eW.ret{φ:A0→Hp→Prop}(hy:C0 (ud rs tm h) φ):eW rs φ .ret tm [] h:=⟨.inr rfl,rfl,hy⟩
theorem eW.end{φ:A0→Hp→Prop}(hy:C0 (ud rs tm h) φ):eW rs φ .normal tm [] h:=⟨.inl rfl,rfl,hy⟩
theorem B5{nt na:Nat}{b:CC}{cd:C9}{φ:A0→Hp→Prop}(hn:(Nat.beq (len args) na&&Nat.ble na nt)=true)(hb:D9 (Dx b A7 (C7 args 0 .nil fun t=>t) [] h) (eW rs φ)):C0 (G8 (.mk nt na b rs) A7 cd args h) φ:=by
 show C0 (bif Nat.beq (len args) na&&Nat.ble na nt then WT args 0 .nil fun tm=>N7.rec (motive:=fun _=>N3) .none (fun e tm df h=>Ex.rec (motive:=fun _=>N3) (leave cd rs df tm .ret h) (fun _=>.none) (leave cd rs df tm .ret h) (fun c=>leave cd rs df tm (.Jj c) h) e) (Dx b A7 tm [] h) else .none) φ;rw[hn,cond_true,Kr,AK];revert hb;cases Dx b A7 (C7 args 0 .nil fun t=>t) [] h with
 | none=>intro h;exact h.elim
 | ok e tm df h' =>
  intro hb;obtain⟨he,hdf,hy⟩:=hb;subst hdf;rcases he with rfl|rfl<;>exact hy
variable {P:Program}
def AY(P:Program)(gs:List Nat)(g:FuncId)(args:List A0)(h:Hp)(r:N3):Prop:=∀(args':List A0) (f:Map) (w:World),Dr gs f→Z6 f h w→M7 f args args'→match r with
 | .none=>True
 | .val v h'=>Enters P g∧Calls P g args'.toArray w fun | .returned v',w'=>∃f',L6 h h'∧L5 f h w f' h' w'∧F5 f' v v' | _,_=>False
 | .panic c h'=>Enters P g∧Calls P g args'.toArray w fun | .panicked c',w'=>∃f',L6 h h'∧L5 f h w f' h' w'∧ER f' c c' | _,_=>False
theorem HJ:S9 P gs A7↔∀g args h,AY P gs g args h (A7 g args h):=⟨fun H g args h args' f w a b c=>H g args args' f h w a b c,fun H g args args' f h w a b c=>H g args h args' f w a b c⟩
theorem A5O{g:FuncId}:AY P gs g args h .none:=fun _ _ _ _ _ _=>trivial
theorem F5.zD(hp:j9 v=true)(h:F5 f v v'):F5 g v v':=by cases h<;>first|(cases hp;done)|(constructor;done)|exact .bool _|exact .int _ _|exact .string _
def ABX(v:A0):Bool:=match v with|.agg a=>a.toList.all j9|v=>j9 v
theorem F5.ABo(hp:ABX v=true)(h:F5 f v v'):F5 g v v':=by
 cases h with
 | agg a a' hs h =>
  refine .agg a a' hs fun i hi=>(h i hi).zD ?_;have:a.toList.all j9=true:=hp;have h1:=Cc.1 this (a[i]) (by simp);rw[Nz (v:=a[i]) (by simp[hi])];exact h1
 | bool b=>exact .bool b
 | int k n=>exact .int k n
 | string s=>exact .string s
 | nilPtr=>exact .nilPtr
 | AW l c=>exact .AW l c
 | IV=>exact .IV
 | nilFunc=>exact .nilFunc
 | nilIface=>exact .nilIface
 | top v=>cases hp
 | ptr b o i h=>cases hp
 | slice b o l c i h hc hl=>cases hp
 | Z9 b o l c lb i o' c' h hc hlb hl hb ho hn=>cases hp
 | map b i h=>cases hp
 | func g a c a' c' ha hc va vc=>cases hp
 | iface t v v' h=>cases hp
 | tuple a a' hs h=>cases hp
def quiet(r:N3)(h:Hp):N3:=match r with
 | .val v h1=>bif ABX v then(match h1.log with | []=>.val v h | _=>.none) else .none
 | _=>.none
end
def B6(l:List A0)(n:Nat)(e:TypeId)(cl:Bool):N2:=.row (C7 l 0 .nil fun t=>t) n e cl false
theorem Q6(h:Hp)(o:N2):(h.new o).A6=h.A6+1:=rfl
theorem Xl(h:Hp)(o:N2):(h.new o).base=h.base:=rfl
theorem A0p(h:Hp)(o:N2):(h.new o).log=h.log:=rfl
theorem Kp(h:Hp)(b:Nat)(o:Option N2):(h.put b o).A6=h.A6:=rfl
theorem XF(h:Hp)(b:Nat)(o:Option N2):(h.put b o).base=h.base:=rfl
theorem Jv{o:Option N2}(hb:h.base≤b):(h.put b o).log=h.log:=by show Jk h.base h.log b=h.log;unfold Jk;rw[GH hb];rfl
theorem Cz(h:Hp)(c:Nat)(o:N2):(h.new o).at c=if h.A6=c then some o else h.at c:=Hp.HG h c o
theorem IJ(h:Hp)(b c:Nat)(o:Option N2):(h.put b o).at c=if b=c then o else h.at c:=Hp.Pt h b c o
theorem A2J(h:Hp)(n:Nat)(l:List Nat)(b:Nat):(B8 h n l).at b=h.at b:=rfl
theorem zR(h:Hp)(n:Nat)(l:List Nat):(B8 h n l).A6=h.A6:=rfl
theorem yq(h:Hp)(n:Nat)(l:List Nat):(B8 h n l).base=n:=rfl
theorem A7E(h:Hp)(n:Nat)(l:List Nat):(B8 h n l).log=l:=rfl
theorem AQm(h:Hp)(n m:Nat)(l k:List Nat):B8 (B8 h n l) m k=B8 h m k:=rfl
theorem yI(h:Hp):B8 h h.base h.log=h:=rfl
theorem ANa(h:Hp)(n:Nat)(l:List Nat)(o:N2):(B8 h n l).new o=B8 (h.new o) n l:=rfl
theorem we(h:Hp)(o:N2):B8 (h.new o) h.base h.log=h.new o:=rfl
theorem AX8(e:TypeId)(x:OD)(A7:Call)(lo:List A0)(tm:T A0)(h:Hp):eN e x A7 lo tm h=AHT e (G4 x lo tm) h:=rfl
theorem AUw(e:TypeId)(l:List A0)(h:Hp):AHT e (.agg ⟨l⟩) h=.val (C2 h.A6 0) (h.new (B6 l l.length e true)):=by show AA h e l (len l) true (fun b h=>N3.val (C2 b 0) h)=_;rw[W6,R4];rfl
theorem APJ(e:TypeId)(z:List A0)(n:Nat)(A7:Call)(lo:List A0)(tm:T A0)(h:Hp):Ik e z n A7 lo tm h=.val (C2 h.A6 0) (h.new (B6 z n e true)):=W6 _ _ _ _ _ _
theorem AIU(a x:OD)(A7:Call)(lo:List A0)(tm:T A0)(h:Hp):Ab a x A7 lo tm h=FE (G4 a lo tm) (fun b o=>Ar h b o [G4 x lo tm] (fun h=>.val undef h) .none) .none:=rfl
theorem ALx(n:Nat)(a x:OD)(A7:Call)(lo:List A0)(tm:T A0)(h:Hp):Y1 n a x A7 lo tm h=FE (G4 a lo tm) (fun b o=>Oh (G4 x lo tm) (fun l=>bif Nat.beq l.length n then Ar h b o l (fun h=>.val undef h) .none else .none) .none) .none:=by unfold Y1;simp only[R4]
theorem ZN(h:Hp)(b o:Nat)(l:List A0)(k:Hp→R)(z:R):Ar h b o l k z=R5 (h.at b) (fun ob=>Jc ob (fun c n e cl ro=>bif ro then z else bif K9 l then bif Nat.ble (o+l.length) n then k (h.put b (some (.row (C7 l o c fun t=>t) n e cl false))) else z else z) z) z:=by
 unfold Ar Is;simp only[R4,Hp.Hh];show R5 (h.at b) _ z=R5 (h.at b) _ z;congr 1;funext ob;cases ob with
 | row c n e cl ro =>
  show(bif ro then z else bif K9 l then bif Nat.ble (Nat.add o l.length) n then C7 l o c fun c=>k (h.put b (some (.row c n e cl false))) else z else z)=_;rw[AK];rfl
 | iter s p=>rfl
 | mp es=>rfl
theorem AP4(l:List A0)(n:Nat)(e:TypeId)(cl:Bool)(k:T A0→Nat→TypeId→Bool→Bool→R)(z:R):Jc (B6 l n e cl) k z=k (C7 l 0 .nil fun t=>t) n e cl false:=rfl
theorem V3(l:List A0)(i:Nat)(c:T A0)(k:Nat):(C7 l i c fun t=>t).get (path k)=if i≤k∧k<i+l.length then l[k-i]? else c.get (path k):=Eh l i c k
theorem It(a:A0):(C7 [a] 0 .nil fun t=>t).get []=some a:=rfl
theorem Fy(a b:A0):(C7 [a,b] 0 .nil fun t=>t).get []=some a:=rfl
theorem PY(a b:A0):(C7 [a,b] 0 .nil fun t=>t).get [true]=some b:=rfl
theorem qE(a b c:A0):(C7 [a,b,c] 0 .nil fun t=>t).get []=some a:=rfl
theorem Nj(a b c:A0):(C7 [a,b,c] 0 .nil fun t=>t).get [true]=some b:=rfl
theorem Pa(a b c:A0):(C7 [a,b,c] 0 .nil fun t=>t).get [false]=some c:=rfl
theorem AVU(ls:List (Nat×Nat))(neg:Bool)(x y:OD)(lo:List A0)(tm:T A0):XI ls neg x y lo tm=Oh (G4 x lo tm) (fun a=>Oh (G4 y lo tm) (fun b=>R5 (AH ls a b) (fun t=>some (.bool (Dp neg (!t)))) none) none) none:=by unfold XI;simp only[Gv]
theorem AOm(a b c d:ByteArray):AH [(0,3),(1,3)] [.string a,.string b] [.string c,.string d]=some (PH (bl a) (bl c)&&PH (bl b) (bl d)):=by show Bool.rec (motive:=fun _=>Option Bool) (some false) (Bool.rec (motive:=fun _=>Option Bool) (some false) (some true) (PH (bl b) (bl d))) (PH (bl a) (bl c))=_;cases PH (bl a) (bl c)<;>cases PH (bl b) (bl d)<;>rfl
theorem AKJ(t:Bool):Dp true t=t:=by cases t<;>rfl
theorem ATh(t:Bool):Dp false t=!t:=by cases t<;>rfl
theorem ANb(e:TypeId)(n:Nat)(z:List A0)(parts:List (Nat×Nat×OD))(A7:Call)(lo:List A0)(tm:T A0)(h:Hp):
 V2 e n z parts A7 lo tm h=CT parts lo tm z (fun l=>.val (F8 h.A6 0 n n) (h.new (B6 l l.length e true))) .none:=by
 unfold V2;simp only[W6,R4];rfl
theorem APN(z:List A0)(parts:List (Nat×Nat×OD))(lo:List A0)(tm:T A0):T7 z parts lo tm=CT parts lo tm z (fun l=>some (.agg ⟨l⟩)) none:=rfl
theorem APh(lo:List A0)(tm:T A0)(z:List A0)(k:List A0→R)(no:R):CT [] lo tm z k no=k z:=rfl
theorem AOX(p:Nat×Nat×OD)(r:List (Nat×Nat×OD))(lo:List A0)(tm:T A0)(z:List A0)(k:List A0→R)(no:R):CT (p::r) lo tm z k no=WG p.1 p.2.1 (G4 p.2.2 lo tm) z (fun z=>CT r lo tm z k no) no:=rfl
theorem AQ4(o n:Nat)(l z:List A0)(k:List A0→R)(no:R):WG o n (.agg ⟨l⟩) z k no=bif Nat.beq l.length n then bif Nat.ble (o+n) z.length then k (over z o l) else no else no:=by show(bif false then no else bif Nat.beq (len l) n then bif Nat.ble (Nat.add o n) (len z) then k (over z o l) else no else no)=_;rw[R4,R4];rfl
theorem APE(kd:IntKind)(x:OD)(lo:List A0)(tm:T A0):Xc kd x lo tm=Bi (G4 x lo tm) (fun _ a=>some (.int kd (W4 kd a))) none:=by unfold Xc;simp only[Cg]
theorem ASm(kd:IntKind)(a b:Nat)(hb:Nat.beq b 0=false):jz kd (.ofNat a) (.ofNat b)=some (.int kd (.ofNat (a%b))):=by have e:A38 (.ofNat b) 0=Nat.beq b 0:=rfl;unfold jz;rw[e,hb,cond_false,Cg];rfl
theorem ANQ(n s:Nat)(x i:OD)(lo:List A0)(tm:T A0):QK n s x i lo tm=Hw (G4 i lo tm) (fun i=>FE (G4 x lo tm) (fun b o=>bif Nat.blt i n then some (C2 b (o+i*s)) else none) none) none:=by unfold QK;simp only[C1];rfl
theorem ATa(kd:IntKind)(n:Int)(r:List A0):K9 (.int kd n::r)=K9 r:=rfl
theorem AT5(s:ByteArray)(r:List A0):K9 (.string s::r)=K9 r:=rfl
theorem ASh(b:Bool)(r:List A0):K9 (.bool b::r)=K9 r:=rfl
theorem ATf(a:Option Addr)(l c:Nat)(r:List A0):K9 (.slice a l c::r)=K9 r:=rfl
theorem AOH(b o l c:Nat)(r:List A0):K9 (F8 b o l c::r)=K9 r:=rfl
theorem AU1(b o:Nat)(r:List A0):K9 (C2 b o::r)=K9 r:=rfl
theorem ATL:K9 []=true:=rfl
theorem AVJ(cm:Nat→Nat→Bool)(k:Nat)(bar:Bool)(own:List (Nat×Bool))(d:Dn)(b:Nat):allowed cm k bar own d [b]=bif Option.rec (motive:=fun _=>Bool) bar (TI own) (owner d.ns b) then(bif By cm k b d.rs then true else false) else false:=rfl
theorem AWK(n:Nat×Nat)(r:List (Nat×Nat))(b:Nat):owner (n::r) b=bif Nat.ble n.1 b then some n.2 else owner r b:=rfl
theorem AVj(b:Nat):owner [] b=none:=rfl
theorem AX9(cm:Nat→Nat→Bool)(k b:Nat)(p:Nat×Nat)(l:List (Nat×Nat)):By cm k b (p::l)=bif Nat.beq p.2 b then(bif cm p.1 k then By cm k b l else false) else By cm k b l:=rfl
theorem ARa{base:Nat}{AM:List Nat}(hb:base≤b):below base [b] AM=AM:=by show(bif Nat.blt b base then _ else _)=_;rw[GH hb];rfl
theorem AXw(k b:Nat)(ws:List (Nat×Nat)):wrote k [b] ws=(k,b)::ws:=rfl
class BL (x:List UInt8) (n:outParam Nat):Prop where
 le:x.length≤n
instance AZX:BL [] 0:=⟨M8 _⟩
instance AZw (a:UInt8) (l:List UInt8) (n:Nat) [h:BL l n]:BL (a::l) (n+1):=⟨by have:=h.le;simp;omega⟩
instance AVM (x y:List UInt8) (a b:Nat) [h:BL x a] [k:BL y b]:BL (x++y) (a+b):=⟨by have:=h.le;have:=k.le;simp;omega⟩
theorem A1S{a:Nat}[h:BL x a][k:BL y b](hl:a+b<9223372036854775808):RS .add x y=some (.string (O2 (x++y))):=ATF (by have:=h.le;have:=k.le;omega)
theorem AT4(l:List UInt8):bl (O2 l)=l:=rfl
theorem APl(x:OD)(l h:Option OD)(lo:List A0)(tm:T A0):Ll x l h lo tm=Hq (G4 x lo tm) (fun s=>m9 h lo tm (bl s).length (bl s).length (fun hi=>m9 l lo tm 0 hi (fun lw=>some (.string (O2 (KK (hi-lw) (gg lw (bl s)))))) none) none) none:=by unfold Ll;simp only[R4];rfl
theorem IY(x:OD)(lo:List A0)(tm:T A0)(d t:Nat)(k:Nat→R)(z:R):m9 (some x) lo tm d t k z=Hw (G4 x lo tm) (fun i=>bif Nat.ble i t then k i else z) z:=by unfold m9;simp only[C1]
theorem Tu(lo:List A0)(tm:T A0)(d t:Nat)(k:Nat→R)(z:R):m9 none lo tm d t k z=k d:=rfl
theorem AWo(x:OD)(lo:List A0)(tm:T A0):ACZ x lo tm=Bi (G4 x lo tm) (fun kd a=>some (.int kd (W4 kd (-a)))) none:=by unfold ACZ;simp only[Cg]
theorem ATc:([]:List A0).length=0:=rfl
theorem AJP{c:T A0}:∀(n:Nat) (l acc:List A0),l.length=n→(∀j,j<n→c.get (path (o+j))=l[j]?)→V6 c o n acc=some (l++acc):=by
 intro n;induction n with
 | zero=>intro l acc hl _;have:=IU hl;subst this;rfl
 | succ n ih =>
  intro l acc hl hc;show R5 (c.get (path (o+n))) (fun v=>V6 c o n (v::acc)) none=_;rw[hc n (by omega),X0 (by omega)];show V6 c o n (l[n]::acc)=_;rw[ih (l.take n) (l[n]::acc) (by simp;omega) fun j hj=>by grind];congr 1;have:l=l.take n++[l[n]]:=by have h1:=AKI n l;rw[mw (by omega),List.drop_of_length_le (by omega)] at h1;exact h1.symm
  grind
theorem Hf(s n:Nat)(hn:n<R8):sure (C4 s n)=n∧T6 (C4 s n)=true∧ARM (C4 s n)=s+1:=by
 have hO:0<R8:=by decide
 have e:C4 s n=R8*(s+1)+n:=rfl;have h1:T6 (C4 s n)=true:=by unfold T6;rw[e];refine W8 ?_;grind
 refine⟨?_,h1,?_⟩
 ·unfold sure;rw[h1,cond_true,e];show(R8*(s+1)+n)%R8=n;rw[Nat.mul_add_mod];exact Hi hn
 ·unfold ARM;rw[e];show(R8*(s+1)+n)/R8=s+1;rw[Nat.mul_add_div hO,AFa hn]
def CG:=L0 @AVC<|L0 @AJB<|L0 @ATB<|L0 @Aaz<|L0 @Aav<|L0 @Aat<|L0 @Aaj<|L0 @AaJ<|L0 @AYm<|L0 @AYF<|L0 @AZA<|L0 @AYh<|L0 @AYq<|L0 @AVH<|L0 @AX4<|L0 @AX6<|L0 @AWH<|L0 @AU4<|L0 @AY1<|L0 @AZB<|L0 @AYk<|L0 @AVF<|L0 @AVI<|L0 @AJe<|L0 @FL<|L0 @LM<|L0 @AX0<|L0 @ADF<|L0 @AUt<|L0 @cond_true.{1}<|L0 @cond_false.{1}<|L0 @AW2<|L0 @AYb<|L0 @AYl<|L0 @ASl<|L0 @ANY<|L0 @AVu<|L0 @AUf<|L0 @AO7<|L0 @AXW<|L0 @AYw<|L0 @AT2<|L0 @Iq<|L0 @ATJ<|L0 @XK<|L0 @ASs<|L0 @A7g<|L0 @A5I<|L0 @A8Z<|L0 @A6Q<|L0 @AAG<|L0 @ASR<|L0 @ALJ<|@AP4
def AaI:=L0 @Bool.not_true<|L0 @Bool.not_false<|L0 @if_true.{1}<|L0 @List.cons.injEq.{0}<|L0 @Bool.true_eq_false<|L0 @A5y<|L0 @and_false<|L0 @false_and<|L0 @and_true<|L0 @true_and<|L0 @and_self<|@if_false.{1}
def Tv(n:Nat)(v:A0):List A0:=List.replicate n v
theorem AJ8(n:Nat)(v:A0):(Tv n v).length=n:=Ad
theorem U4{a:Nat}(h:a≠b):Nat.beq a b=false:=by
 cases e:Nat.beq a b with
 | false=>rfl
 | true=>simp_all
theorem AAS{n:Nat}(h:b<n):Jk n [] b=[b]:=by unfold Jk;rw[BW h];rfl
theorem ARX{n:Nat}(h:n≤b)(l:List Nat):below n [b] l=l:=by show(bif Nat.blt b n then b::l else l)=l;rw[GH h];rfl
structure Ho(φ:Ex→T A0→Df→Hp→Prop)(e:Ex)(tm:T A0)(df:Df)(H:Hp):Prop where
 out:φ e tm df H
@[congr] theorem AYt{k:FuncId→List A0→List A0→R}{z:R}(h:v=v'):AFi v k z=AFi v' k z:=by rw[h]
@[congr] theorem AUL{k:TypeId→A0→R}{kn z:R}(h:v=v'):El v k kn z=El v' k kn z:=by rw[h]
theorem ANj(t:TypeId)(v:A0)(k:TypeId→A0→R)(kn z:R):El (.iface t v) k kn z=k t v:=rfl
theorem ANT(f:OD)(l:List OD)(A7:Call)(lo:List A0)(tm:T A0)(h:Hp):eI f l A7 lo tm h=AFi (G4 f lo tm) (fun g first cap=>A7 g (first++(XW l lo tm++cap)) h) .none:=rfl
theorem AVL(g:FuncId)(a c:List OD)(lo:List A0)(tm:T A0):A5V g a c lo tm=some (.func (.func g) ⟨XW a lo tm⟩ ⟨XW c lo tm⟩):=rfl
theorem AVh(i:Nat)(x:OD)(lo:List A0)(tm:T A0):XZ i x lo tm=ACm (G4 x lo tm) (JZ i) none:=rfl
theorem AD8(x:OD)(lo:List A0)(tm:T A0):An x lo tm=dj (G4 x lo tm):=rfl
theorem AA3(b o:Nat):dj (C2 b o)=some (C2 b o):=rfl
theorem APg(isn:A0→Option Bool)(neg:Bool)(x:OD)(lo:List A0)(tm:T A0):AB isn neg x lo tm=R5 (isn (G4 x lo tm)) (fun t=>some (.bool (Dp neg (!t)))) none:=by unfold AB;simp only[Gv]
theorem ANX(g:G)(x y:OD)(lo:List A0)(tm:T A0):Kz g x y lo tm=Bi (G4 x lo tm) (fun kd a=>Bi (G4 y lo tm) (fun _ b=>g kd a b) none) none:=rfl
theorem A0I{k:IntKind}(hm:AQ k=m)(hh:half k=m)(h0:0<m)(a:Nat):W4 k (.ofNat a)=.ofNat (a%m):=by
 show(bif Nat.blt a (half k) then Int.ofNat a else fin (AQ k) (half k) (Nat.mod a (AQ k)))=_;rw[hm,hh];cases h:Nat.blt a m with
 | true=>rw[cond_true,Hi (Nat.blt_eq.mp h)]
 | false =>
  rw[cond_false];unfold fin;rw[show Nat.blt (Nat.mod a m) m=true from Nat.blt_eq.mpr (ZI a h0),cond_true];rfl
theorem AKu(a:Nat):W4 .u32 (.ofNat a)=.ofNat (a%4294967296):=A0I (m:=4294967296) rfl rfl (by decide) a
theorem QH(a:Nat):W4 .u8 (.ofNat a)=.ofNat (a%256):=A0I (m:=256) rfl rfl (by decide) a
theorem AIP(a:Nat):W4 .u64 (.ofNat a)=.ofNat (a%18446744073709551616):=A0I (m:=18446744073709551616) rfl rfl (by decide) a
theorem AYn{a:Nat}(h:a<18446744073709551616):W4 .u64 (.ofNat a)=.ofNat a:=by rw[AIP,Hi h]
theorem Aa4{a:Nat}(h:a<4294967296):W4 .u32 (.ofNat a)=.ofNat a:=by rw[AKu,Hi h]
theorem w8{a:Nat}(h:a<256):W4 .u8 (.ofNat a)=.ofNat a:=by rw[QH,Hi h]
theorem AMf(k:IntKind)(a b:Nat):ANm k (.ofNat a) (.ofNat b)=some (.int k (W4 k (.ofNat (a*b)))):=by unfold ANm;rw[Cg];rfl
theorem ASV(k:IntKind){a:Nat}(hb:b≠0):A1q k (.ofNat a) (.ofNat b)=some (.int k (W4 k (.ofNat (a/b)))):=by show(bif A38 (.ofNat b) 0 then none else GA k (W4 k (AJx (.ofNat a) (.ofNat b))))=_;rw[show A38 (.ofNat b) 0=Nat.beq b 0 from rfl,U4 hb,cond_false,Cg];rfl
theorem AUp(k:IntKind){a:Nat}(hb:b≠0):jz k (.ofNat a) (.ofNat b)=some (.int k (.ofNat (a%b))):=ASm _ _ _ (U4 hb)
theorem Fh(k:IntKind){a:Nat}(h:b≤a):Nv k (.ofNat a) (.ofNat b)=some (.int k (W4 k (.ofNat (a-b)))):=by rw[AVB];grind
structure Wf(h:Hp):Prop where
 dead:∀b,h.A6≤b→h.at b=none
 base:h.base≤h.A6
theorem Wf.lt(hw:Wf h){o:N2}(hb:h.at b=some o):b<h.A6:=by
 rcases DX b h.A6 with h1|h1
 ·exact h1
 ·rw[hw.dead b h1] at hb;cases hb
theorem Wf.new(hw:Wf h)(o:N2):Wf (h.new o):=⟨fun b hb=>by rw[Q6] at hb;rw[Cz,if_neg (by omega)];exact hw.dead b (by omega),by rw[Xl,Q6];have:=hw.base;omega⟩
theorem Wf.put(hw:Wf h)(hb:b<h.A6)(o:Option N2):Wf (h.put b o):=⟨fun c hc=>by rw[Kp] at hc;rw[IJ,if_neg (by omega)];exact hw.dead c hc,by rw[XF,Kp];exact hw.base⟩
theorem Wf.sb(hw:Wf h)(l:List Nat):Wf (B8 h h.A6 l):=⟨hw.dead,M8 _⟩
theorem Wf.AHk(hw:Wf h){n:Nat}(hn:n≤h.A6)(l:List Nat):Wf (B8 h n l):=⟨hw.dead,hn⟩
structure Fr(P:Nat→Prop)(h H:Hp):Prop where
 base:H.base=h.base
 log:H.log=h.log
 A6:h.A6≤H.A6
 M5:∀b,b<h.A6→¬P b→H.at b=h.at b
theorem Fr.refl(P:Nat→Prop)(h:Hp):Fr P h h:=⟨rfl,rfl,M8 _,fun _ _ _=>rfl⟩
theorem Fr.trans{P:Nat→Prop}{a b c:Hp}(x:Fr P a b)(y:Fr Q b c)(hq:∀k,k<a.A6→Q k→P k):Fr P a c:=⟨y.base.trans x.base,y.log.trans x.log,JJ x.A6 y.A6,fun k hk hp=>(y.M5 k (Ep hk x.A6) fun h=>hp (hq k hk h)).trans (x.M5 k hk hp)⟩
theorem Fr.mono{P:Nat→Prop}{a b:Hp}(x:Fr P a b)(h:∀k,k<a.A6→P k→Q k):Fr Q a b:=⟨x.base,x.log,x.A6,fun k hk hq=>x.M5 k hk fun hp=>hq (h k hk hp)⟩
theorem Fr.new{P:Nat→Prop}(o:N2):Fr P h (h.new o):=⟨rfl,rfl,by rw[Q6];omega,fun b hb _=>by rw[Cz,if_neg (by omega)]⟩
theorem Fr.put{P:Nat→Prop}(o:Option N2)(hp:P b)(hb:h.base≤b):Fr P h (h.put b o):=⟨rfl,Jv hb,M8 _,fun c _ hc=>by rw[IJ,if_neg (fun e=>hc (by rw[←e];exact hp))]⟩
theorem Fr.CJ{P:Nat→Prop}{a b:Hp}(x:Fr P a b)(o:N2):Fr P a (b.new o):=x.trans (Fr.new (P:=N5) o) fun _ _ h=>h.elim
theorem Fr.O6{P:Nat→Prop}{a b:Hp}(x:Fr P a b)(o:Option N2)(hp:c<a.A6→P c)(hb:a.base≤c):Fr P a (b.put c o):=x.trans (Fr.put (P:=fun k=>k=c) o rfl (by rw[x.base];exact hb)) fun k hk e=>by subst e;exact hp hk
theorem FO{c:T A0}(h:∀k,k<vs.length→c.get (path (o+k))=vs[k]?):V6 c o vs.length []=some vs:=by have:=AJP vs.length vs [] rfl h;grind
def Has(h:Hp)(b o:Nat)(vs:List A0):Prop:=∃c m e cl ro,h.at b=some (.row c m e cl ro)∧o+vs.length≤m∧∀k,k<vs.length→c.get (path (o+k))=vs[k]?
theorem Has.cells(hb:Has h b o vs){n:Nat}(hn:n=vs.length):cellsOf h b o n=some vs:=by subst hn;obtain⟨c,m,e,cl,ro,hat,hm,hc⟩:=hb;show R5 (h.at b) (fun ob=>CV ob o vs.length) none=_;rw[hat];show(bif Nat.ble (o+vs.length) m then V6 c o vs.length [] else none)=_;rw[W8 hm,cond_true,FO hc]
theorem Has.K7(hb:Has h b o vs)(e:H.at b=h.at b):Has H b o vs:=by obtain⟨c,m,e',cl,ro,hat,h2⟩:=hb;exact⟨c,m,e',cl,ro,by rw[e];exact hat,h2⟩
theorem Has.lt(hb:Has h b o vs)(hw:Wf h):b<h.A6:=by obtain⟨c,m,e',cl,ro,hat,_⟩:=hb;exact hw.lt hat
theorem Has.drop(hb:Has h b o vs){k:Nat}(hk:k≤vs.length):Has h b (o+k) (vs.drop k):=by obtain⟨c,m,e',cl,ro,hat,h2,h3⟩:=hb;refine⟨c,m,e',cl,ro,hat,by rw[zV];omega,fun j hj=>?_⟩;grind
theorem Has.take(hb:Has h b o vs)(k:Nat):Has h b o (vs.take k):=by obtain⟨c,m,e',cl,ro,hat,h2,h3⟩:=hb;refine⟨c,m,e',cl,ro,hat,by rw[FB];omega,fun j hj=>?_⟩;grind
theorem O3{n:Nat}{e:TypeId}{cl:Bool}(hat:h.at b=some (B6 vs n e cl))(hn:vs.length≤n):Has h b 0 vs:=⟨_,_,_,_,_,hat,by omega,fun k hk=>by rw[V3,if_pos ⟨by omega,by omega⟩];congr 1;omega⟩
def M4(l:List Nat):List A0:=l.map fun x=>.int .u8 (.ofNat x)
theorem O4(l:List Nat):(M4 l).length=l.length:=by simp[M4]
theorem Q1{l:List Nat}{k x:Nat}(h:l[k]?=some x):(M4 l)[k]?=some (.int .u8 (.ofNat x)):=by simp[M4,h]
theorem Ih(a b:List Nat):M4 (a++b)=M4 a++M4 b:=by simp[M4]
theorem Kw(l:List Nat):K9 (M4 l)=true:=by
 induction l with
 | nil=>rfl
 | cons x l ih=>exact ih
theorem VP(l:List Nat)(k:Nat):(M4 l).take k=M4 (l.take k):=by simp[M4]
theorem A0A(l:List Nat)(k:Nat):(M4 l).drop k=M4 (l.drop k):=by simp[M4]
def Sl(s:Nat)(h:Hp)(v:A0)(n:Nat)(vs:List A0):Prop:=vs.length=n*s∧((n=0∧(v=.slice none 0 0∨∃b o c,v=F8 b o 0 c))∨∃b o c,v=F8 b o n c∧0<n∧Has h b o vs)
theorem Sl.len{n:Nat}(ho:Sl s h v n vs):Np v (fun _ _ l _=>some (Value.int .i64 (.ofNat l))) (fun l _=>some (Value.int .i64 (.ofNat l))) none=some (.int .i64 (.ofNat n)):=by obtain⟨_,⟨rfl,rfl|⟨b,o,c,rfl⟩⟩|⟨b,o,c,rfl,_⟩⟩:=ho<;>rfl
theorem Sl.pos{n:Nat}(ho:Sl s h v n vs)(hn:0<n):∃b o c,v=F8 b o n c∧Has h b o vs:=by
 obtain⟨_,⟨rfl,_⟩|⟨b,o,c,rfl,_,h1⟩⟩:=ho
 ·omega
 ·exact⟨b,o,c,rfl,h1⟩
def Ch(v:A0)(c:Nat):Prop:=∃o l k,v=F8 c o l k
theorem X3{l k:Nat}:Ch (F8 b o l k) c→c=b:=fun⟨_,_,_,h⟩=>by cases h;rfl
theorem Sl.K7{n:Nat}(ho:Sl s h v n vs)(e:∀c,0<n→Ch v c→H.at c=h.at c):Sl s H v n vs:=by
 obtain⟨hl,h1|⟨b,o,c,rfl,h0,h1⟩⟩:=ho
 ·exact⟨hl,.inl h1⟩
 ·exact⟨hl,.inr ⟨b,o,c,rfl,h0,h1.K7 (e b h0 ⟨o,n,c,rfl⟩)⟩⟩
theorem Sl.lt{n:Nat}(ho:Sl s h v n vs)(hw:Wf h)(hn:0<n)(hc:Ch v c):c<h.A6:=by obtain⟨b,o,k,rfl,h1⟩:=ho.pos hn;have:=X3 hc;subst this;exact h1.lt hw
def u0(e:TypeId)(h:Hp)(b:Nat)(vs:List A0):Prop:=∃c,h.at b=some (.row c vs.length e false false)∧∀k,k<vs.length→c.get (path k)=vs[k]?
theorem u0.has{e:TypeId}(ho:u0 e h b vs):Has h b 0 vs:=by obtain⟨c,h1,h2⟩:=ho;exact⟨c,_,_,_,_,h1,by omega,fun k hk=>by grind⟩
theorem u0.K7{e:TypeId}(ho:u0 e h b vs)(he:H.at b=h.at b):u0 e H b vs:=by obtain⟨c,h1,h2⟩:=ho;exact⟨c,by rw[he];exact h1,h2⟩
theorem u0.lt{e:TypeId}(ho:u0 e h b vs)(hw:Wf h):b<h.A6:=by obtain⟨c,h1,h2⟩:=ho;exact hw.lt h1
theorem Dy{e:TypeId}(hb:b=h.A6):u0 e (h.new (B6 vs vs.length e false)) b vs:=by refine⟨_,by rw[Cz,if_pos hb.symm];rfl,fun k hk=>?_⟩;rw[V3,if_pos ⟨BB _,by omega⟩,EC]
theorem Ty{e:TypeId}{c:T A0}(hc:∀k,k<vs.length→c.get (path k)=vs[k]?)(i:Nat)(v:A0)(hi:i<vs.length):u0 e (h.put b (some (.row (C7 [v] i c fun t=>t) vs.length e false false))) b (vs.set i v):=by refine⟨_,by rw[IJ,if_pos rfl,Bu],fun k hk=>?_⟩;rw[Bu] at hk;rw[V3,A7o];grind
def Out(e:TypeId)(s:Nat)(P:Nat→Prop)(h:Hp)(v:A0)(n:Nat)(vs:List A0):Prop:=vs.length=n*s∧K9 vs=true∧((n=0∧((∃b,v=F8 b 0 0 0)∨v=.slice none 0 0))∨∃b,v=F8 b 0 n (C4 s n)∧0<n∧u0 e h b vs∧P b)
theorem Out.nil{e:TypeId}{P:Nat→Prop}:Out e s P h (.slice none 0 0) 0 []:=⟨by simp,rfl,.inl ⟨rfl,.inr rfl⟩⟩
theorem Out.sl{e:TypeId}{P:Nat→Prop}{n:Nat}(ho:Out e s P h v n vs):Sl s h v n vs:=by
 obtain⟨hl,_,⟨rfl,⟨b,rfl⟩|rfl⟩|⟨b,rfl,h1,h2,_⟩⟩:=ho
 ·constructor<;>grind
 ·constructor<;>grind
 ·exact⟨hl,.inr ⟨b,0,_,rfl,h1,h2.has⟩⟩
theorem Out.K7{e:TypeId}{P:Nat→Prop}{n:Nat}(ho:Out e s P h v n vs)(he:∀c,P c→Ch v c→H.at c=h.at c):Out e s P H v n vs:=by
 obtain⟨hl,h1,h2|⟨b,rfl,h3,h4,h5⟩⟩:=ho
 ·exact⟨hl,h1,.inl h2⟩
 ·exact⟨hl,h1,.inr ⟨b,rfl,h3,h4.K7 (he b h5 ⟨0,n,_,rfl⟩),h5⟩⟩
theorem Out.mono{e:TypeId}{P:Nat→Prop}{n:Nat}(ho:Out e s P h v n vs)(hp:∀c,P c→Q c):Out e s Q h v n vs:=by
 obtain⟨hl,h1,h2|⟨b,rfl,h3,h4,h5⟩⟩:=ho
 ·exact⟨hl,h1,.inl h2⟩
 constructor<;>grind
theorem Out.S6{e:TypeId}{P:Nat→Prop}{n:Nat}(ho:Out e s P h v n vs)(hn:0<n)(hc:Ch v c):P c:=by
 obtain⟨hl,h1,⟨rfl,_⟩|⟨b,rfl,h3,h4,h5⟩⟩:=ho
 ·omega
 ·have:=X3 hc;subst this;exact h5
def DJ(e:TypeId)(s:Nat)(x y:A0)(h:Hp):N3:=wq h s y (fun n new=>Np x (HI e s h n new) (Nu e s h n new) .none) .none
theorem AVS(e:TypeId)(s:Nat)(x y:OD)(A7:Call)(lo:List A0)(tm:T A0)(h:Hp):A3Z e s x y A7 lo tm h=DJ e s (G4 x lo tm) (G4 y lo tm) h:=rfl
theorem mB(h:Hp)(s b o l c:Nat)(k:Nat→List A0→R)(z:R):wq h s (F8 b o l c) k z=bif Nat.beq l 0 then k 0 [] else R5 (cellsOf h b o (l*s)) (k l) z:=rfl
theorem ABx(h:Hp)(b:Nat)(k:T A0→Nat→TypeId→Bool→Bool→R)(z:R):Is h b k z=R5 (h.at b) (fun ob=>Jc ob k z) z:=rfl
theorem VA(e:TypeId)(s:Nat)(l:List A0)(n:Nat)(H:Hp):opened e s l n H=.val (F8 H.A6 0 n (C4 s n)) (H.new (B6 l l.length e false)):=by unfold opened;rw[W6,C1,R4];rfl
theorem XO{new:List A0}(hone:K9 new=true):∀l:List A0,K9 l=true→K9 (l++new)=true:=by
 intro l;induction l with
 | nil=>intro _;exact hone
 | cons a l ih =>
  intro hl;show(bif Bc a then false else K9 (l++new))=true;have hl':(bif Bc a then false else K9 l)=true:=hl;grind
theorem Jr{e:TypeId}{n:Nat}{x:A0}{new:List A0}(hx:(∃b,x=F8 b 0 0 0)∨x=.slice none 0 0)(h0:0<n)(h1:n≤100000)(hc:cellsOf h yb yo (n*s)=some new):
 DJ e s x (F8 yb yo n yc) h=.val (F8 h.A6 0 n (C4 s n)) (h.new (B6 new new.length e false)):=by
 have hb:Nat.beq n 0=false:=U4 (by omega);unfold DJ;rw[mB,hb,cond_false,hc];show Np x (HI e s h n new) (Nu e s h n new) .none=_;rcases hx with⟨b,rfl⟩|rfl
 ·rw[LM];unfold HI;rw[C1,show Nat.add 0 n=n from Ag n,show sure 0=0 from rfl,GD h0,cond_false,W8 (by omega:n≤16777216),cond_true];exact VA e s new n h
 ·rw[ADF];unfold Nu;rw[hb,cond_false,W8 (by omega:n≤16777216),cond_true];exact VA e s new n h
theorem tp{e:TypeId}{n:Nat}{new:List A0}(h0:0<m)(h1:n+m≤100000)(hl:0<n)(hvs:vs.length=n*s)(hnew:new.length=m*s)(hone:K9 new=true)(hc:cellsOf h yb yo (m*s)=some new)(ho:u0 e h b vs):
 ∃c2,DJ e s (F8 b 0 n (C4 s n)) (F8 yb yo m yc) h=.val (F8 h.A6 0 (n+m) (C4 s (n+m))) ((h.put b none).new (.row c2 (vs++new).length e false false))∧∀k,k<(vs++new).length→c2.get (path k)=(vs++new)[k]?:=by
 have hb:Nat.beq m 0=false:=U4 (by omega);have hb0:Nat.beq n 0=false:=U4 (by omega);obtain⟨c,hat,hcs⟩:=ho;obtain⟨s1,s2,s3⟩:=Hf s n (by unfold R8;omega);have hN:Nat.add (n*s) new.length=(vs++new).length:=by grind
 refine⟨C7 new (n*s) c fun t=>t,?_,fun k hk=>?_⟩
 · revert s1 s2 s3;have hO:GJ e s (C7 new (n*s) c fun t=>t) (vs++new).length (n+m) (h.put b none)=.val (F8 h.A6 0 (n+m) (C4 s (n+m))) ((h.put b none).new (.row (C7 new (n*s) c fun t=>t) (vs++new).length e false false)):=by
    unfold GJ;rw[C1,Hp.DM,C1];rfl
   revert hO;generalize C4 s (n+m)=k2;generalize C4 s n=k1;intro hO s1 s2 s3;unfold DJ;rw[mB,hb,cond_false,hc];show Np (F8 b 0 n k1) (HI e s h m new) (Nu e s h m new) .none=_;rw[LM];unfold HI;rw[C1];rw[show Nat.add n m=n+m from rfl,s1,GD (by omega),cond_false,W8 (by omega),cond_true,hb0,cond_false,s2,cond_true,ABx,hat,FL,XK,cond_false,s3,hone,Dg e,show Nat.beq (s+1) (Nat.succ s)=true from Dg _,show Nat.mul n s=n*s from rfl,W8 (by rw[hvs];exact M8 _),Dg 0,bm,bm,bm,bm,cond_true,Hp.Hh,AK,R4,hN];exact hO
 ·rw[V3];grind
theorem ANV{e:TypeId}{P:Nat→Prop}{x y:A0}{n:Nat}{new:List A0}(hw:Wf h)(ho:Out e s P h x n vs)(hy:Sl s h y m new)(hone:K9 new=true)(hm:0<m)(hnm:n+m≤100000)(hP:∀b,P b→h.base≤b)(hPn:P h.A6):
 ∃v' H,DJ e s x y h=.val v' H∧Out e s P H v' (n+m) (vs++new)∧Wf H∧H.A6=h.A6+1∧Fr (fun c=>0<n∧Ch x c) h H∧(∃k,v'=F8 h.A6 0 (n+m) k):=by
 obtain⟨yb,yo,yc,rfl,hhas⟩:=hy.pos hm;have hln:=hy.1;have hc:=hhas.cells hln.symm;have hlen:(vs++new).length=(n+m)*s:=by rw[Bz,ho.1,hln,Mm]
 have hall:K9 (vs++new)=true:=XO hone vs ho.2.1;obtain⟨hl,h1,⟨hn,hx⟩|⟨b,rfl,hn0,hown,hPb⟩⟩:=ho
 · have hv:vs=[]:=IU (by rw[hl,hn,UM]);have e1:=Jr (e:=e) (yc:=yc) hx hm (by omega) hc;have en:n+m=m:=by omega
   rw[en,hv,BS];rw[en,hv,BS] at hlen;refine⟨_,_,e1,⟨hlen,hone,.inr ⟨_,rfl,hm,?_,hPn⟩⟩,hw.new _,rfl,Fr.new _,⟨_,rfl⟩⟩;exact Dy rfl
 · have hlt:b<h.A6:=hown.lt hw;obtain⟨c2,ea,hc2⟩:=tp (yc:=yc) hm hnm hn0 hl hln hone hc hown;refine⟨_,_,ea,⟨hlen,hall,.inr ⟨_,rfl,by omega,?_,hPn⟩⟩,(hw.put hlt _).new _,rfl,?_,⟨_,rfl⟩⟩
   ·exact⟨c2,by rw[Cz];exact if_pos rfl,hc2⟩
   ·exact((Fr.refl _ _).O6 none (fun _=>⟨hn0,_,_,_,rfl⟩) (hP b hPb)).CJ _
end Abs
end Go
end
