/-
Symbolic runs of the functions that the law reaches, part 07.
Conditions: none.
-/
import Derived.Test.YtekknahndoonjaaGreatDoorRun04
import Derived.Test.YtekknahndoonjaaGreatDoorRun06
import Derived.Test.YtekknahndoonjaaGreatDoorED
import Derived.Test.YtekknahndoonjaaGreatDoorSW
import Derived.Test.YtekknahndoonjaaGreatDoorEnt
import Derived.Test.YtekknahndoonjaaGreatDoorLitE
set_option linter.all false
set_option maxRecDepth 100000
noncomputable section
namespace Go
namespace Abs
variable {N b fill s:Nat} {f:Map} {i:VT} {h h0:Hp} {lv ov rv v xv:A0} {C l:List Nat} {W:World}
section
variable {P:Program} {gs:List Nat}
def AUP(N:Nat)(v:A0):Prop:=(∃g,v=.func g ⟨[]⟩ ⟨[]⟩)∨j9 v=true∨v=.chan (some 0)∨∃b o l c,v=F8 b o l c∧b<N
def low(N:Nat)(f:Map):Map:=fun b=>if b<N then f b else none
theorem A3C(hb:b<N):low N f b=f b:=if_pos hb
theorem On(h:low N f b=some i):b<N∧f b=some i:=by unfold low at h;grind
theorem F5.low{N:Nat}{f:Map}{v v':A0}(hv:AUP N v)(h:F5 f v v'):F5 (low N f) v v':=by
 rcases hv with⟨g,rfl⟩|hp|rfl|⟨b,o,l,c,rfl,hb⟩
 · cases h with
   | func _ _ _ a' c' ha hc va vc=>constructor<;>grind
 ·exact h.zD hp
 ·constructor<;>grind
 · cases h with
   | slice _ _ _ _ i hi hc hl=>exact .slice _ _ _ _ i (by rw[A3C hb];exact hi) hc hl
   | Z9 _ _ _ _ lb i o' c' hi h1 h2 h3 h4 h5 h6=>exact .Z9 _ _ _ _ lb i o' c' (by rw[A3C hb];exact hi) h1 h2 h3 h4 h5 h6
def AQk(N:Nat)(o:N2):Prop:=∃c m e cl ro,o=.row c m e cl ro∧∀(k:Nat) (v:A0),k<m→c.get (path k)=some v→AUP N v
theorem AQk.rel{o:N2}{x:Obj}(hl:AQk N o)(h:GI f i o x):GI (low N f) i o x:=by
 obtain⟨c,m,e,cl,ro,rfl,hl⟩:=hl;cases h with
 | row cells n elem cl ro arr elem' fz he hs hn hcl hro hc =>
  refine .row _ _ _ _ _ arr elem' fz he hs hn hcl hro fun k v hk hv=>?_;obtain⟨v',h1,h2⟩:=hc k v hk hv;exact⟨v',h1,h2.low (hl k v hk hv)⟩
structure AUj(N:Nat)(h0:Hp):Prop where
 A6:h0.A6=N
 base:h0.base=N
 rows:∀(b:Nat) (o:N2),h0.at b=some o→b<N∧AQk N o
theorem AJa{w:World}(h0l:AUj N h0)(hr:Z6 f h w)(hB:∀b o,h0.at b=some o→h.at b=some o):Z6 (low N f) h0 w:=by
 refine⟨fun b o i hb ho=>?_,fun b c i j hb hc h1 h2=>?_,fun b i hb=>⟨by rw[h0l.A6];exact(On hb).1,(hr.fresh b i (On hb).2).2⟩,fun b hb=>?_,by rw[h0l.base,h0l.A6];exact M8 _⟩
 ·obtain⟨hN,hf⟩:=On hb;obtain⟨x,hx,hor⟩:=hr.obj b o i hf (hB b o ho);exact⟨x,hx,(h0l.rows b o ho).2.rel hor⟩
 ·obtain⟨hb',hfb⟩:=On hb;obtain⟨hc',hfc⟩:=On hc;obtain⟨o1,e1⟩:=A0k.1 h1;obtain⟨o2,e2⟩:=A0k.1 h2;exact hr.inj b c i j hfb hfc (by rw[hB b _ e1];rfl) (by rw[hB c _ e2];rfl)
 · cases h:h0.at b with
   | none=>rfl
   | some o=>have:=(h0l.rows b o h).1;rw[h0l.A6] at hb;omega
theorem AUg{call0:Call}(hgs:∀g∈gs,g<N)(H:S9 P gs call0){g:FuncId}{args:List A0}{h1:Hp}(h0l:AUj N h0)(hp:∀a∈args,AUP N a)(hrun:call0 g args h0=.val v h1)(hlog:h1.log=[])(hpv:ABX v=true)(hB:∀b o,h0.at b=some o→h.at b=some o):AY P gs g args h (.val v h):=by
 intro args' f w hG hr hl;have hl0:M7 (low N f) args args':=⟨hl.1,fun i v hv=>by obtain⟨v',h1,h2⟩:=hl.2 i v hv;exact⟨v',h1,h2.low (hp v (s6 hv))⟩⟩
 have hG0:Dr gs (low N f):=fun g hg=>by obtain⟨i,h1,h2⟩:=hG g hg;exact⟨i,by rw[A3C (hgs g hg)];exact h1,h2⟩
 have h2:=H g args args' (low N f) h0 w hG0 (AJa h0l hr hB) hl0;rw[hrun] at h2;refine⟨h2.1,h2.2.mono fun e w' he=>?_⟩;cases e with
 | panicked c=>exact he.elim
 | outgrown=>exact he.elim
 | returned v' =>
  obtain⟨f',hA,hC,hv⟩:=he;have hk:=fun c hc=>hC.K7 c hc fun b i hb _ _=>by refine⟨?_,by rw[hlog];simp⟩;rw[h0l.base];exact(On hb).1
  refine⟨f,L6.refl h,⟨hr,Map.le_refl f,⟨fun b o i hb ho=>?_,hr.inj,fun b i hb=>⟨(hr.fresh b i hb).1,Ep (hr.fresh b i hb).2 hC.size⟩,hr.dead,hr.base⟩,hC.size,hC.tape,hC.os,hC.out,fun c hc _=>hk c hc,fun b i h1 h2=>by(rw[h1] at h2;cases h2)⟩,hv.ABo hpv⟩;obtain⟨x,hx,hor⟩:=hr.obj b o i hb ho;grind
theorem AH0(h:j9 v=true):AUP N v:=.inr (.inl h)
theorem A77{l:List A0}(hl:∀v∈l,AUP N v):AQk N (bg l):=by refine⟨_,_,_,_,_,rfl,fun k v hk hv=>?_⟩;rw[V3,if_pos ⟨by omega,by omega⟩] at hv;grind
theorem A0v(l:List Nat):∀v∈AFS l,j9 v=true:=fun v hv=>by obtain⟨n,_,rfl⟩:=FY.1 hv;rfl
theorem Tt(b:Nat):AR2.at b=if b=5 then some (bg (AFS Ek)) else if b=0 then some (bg Ds) else none:=by
 have e:AR2=⟨T.set (path 5) (T.set (path 0) .nil (some (bg Ds))) (some (bg (AFS Ek))),16,16,[]⟩:=by rfl
 rw[e];have pi:∀i,(path i=path b)↔b=i:=fun i=>⟨fun h=>(bP h).symm,fun h=>by rw[h]⟩
 unfold Hp.at;simp only[T.A9,pi];rfl
theorem AH6:∀v∈Ds,AUP N v:=fun v hv=>by
 unfold Ds at hv;simp only[m8,Lg,or_false] at hv;rcases hv with rfl|rfl|rfl|rfl|rfl|rfl|rfl
 all_goals first|exact .inl ⟨_,rfl⟩|exact .inr (.inl rfl)
theorem AQG:AUj 16 AR2:=by
 refine⟨rfl,rfl,fun b o h=>?_⟩;rw[Tt] at h
 repeat' split at h
 ·cases h;exact⟨by omega,A77 fun v hv=>AH0 (A0v _ v hv)⟩
 ·cases h;exact⟨by omega,A77 AH6⟩
 ·cases h
end
attribute [local irreducible] RB Uz AIN VZ Oi AOe ANN JW gm
theorem ATk:∀g∈Ap.gs,g<16:=by decide
theorem oK:S9 Proofs.Tryz.prog Ap.gs (gm Proofs.Tryz.prog Ap 100):=A7l TB Xe 100
theorem AQs:∀e∈[tQ,A1x,ACf,ALI],∃A7,S9 Proofs.Tryz.prog Ap.gs A7∧e.runs A7=true:=by
 have hA:∀e∈([]:List A9B),∃A7,S9 Proofs.Tryz.prog Ap.gs A7∧e.runs A7=true:=fun e h=>by cases h
 have h1:∃A7,S9 Proofs.Tryz.prog Ap.gs A7∧tQ.runs A7=true:=⟨_,OG TB Xe (A2Z hA) 100,AP5⟩
 have hB:∀e∈[tQ],∃A7,S9 Proofs.Tryz.prog Ap.gs A7∧e.runs A7=true:=fun e h=>by rw[LZ.1 h];exact h1
 have h2:∃A7,S9 Proofs.Tryz.prog Ap.gs A7∧A1x.runs A7=true:=⟨_,OG TB Xe (A2Z hB) 100,AQf⟩
 have hC:∀e∈[tQ,A1x],∃A7,S9 Proofs.Tryz.prog Ap.gs A7∧e.runs A7=true:=fun e h=>by simp only[m8,Lg,or_false] at h;rcases h with rfl|rfl<;>assumption
 have h3:∃A7,S9 Proofs.Tryz.prog Ap.gs A7∧ACf.runs A7=true:=⟨_,OG TB Xe (A2Z hC) 100,APq⟩
 have hD:∀e∈[tQ,A1x,ACf],∃A7,S9 Proofs.Tryz.prog Ap.gs A7∧e.runs A7=true:=fun e h=>by simp only[m8,Lg,or_false] at h;rcases h with rfl|rfl|rfl<;>assumption
 have h4:∃A7,S9 Proofs.Tryz.prog Ap.gs A7∧ALI.runs A7=true:=⟨_,OG TB Xe (AJ9 hD) 100,AOD⟩
 intro e h;simp only[m8,Lg,or_false] at h;rcases h with rfl|rfl|rfl|rfl<;>assumption
theorem ALQ:∃h1,JW Proofs.Tryz.prog Ap (AXl [tQ,A1x,ACf,ALI]) [] 100 4 [] AR2=.val (.bool true) h1∧h1.log=[]:=by
 have h:=AKc;unfold ARc at h;split at h
 · rename_i h1 e;refine⟨h1,e,?_⟩;split at h
   ·assumption
   ·cases h
 ·cases h
theorem AS6:∀g args h r,AIy g args h=some r→AY Proofs.Tryz.prog Ap.gs g args h r:=by
 intro g args h r hr;unfold AIy at hr;split at hr
 · rename_i r' hs;cases hr;unfold AWx at hs;split at hs
   · rename_i hh;obtain⟨rfl,rfl,hb,hf,h16⟩:=hh;cases hs;obtain⟨h1,e1,e2⟩:=ALQ;refine AUg ATk (OG TB Xe (AJ9 AQs) 100) AQG (fun a ha=>by cases ha) e1 e2 rfl fun b o ho=>?_;rw[Tt] at ho
     repeat' split at ho
     ·subst_vars;rw[←ho];exact hf
     ·subst_vars;rw[←ho];exact hb
     ·cases ho
   ·cases hs
 · split at hr
   ·rename_i v hv;cases hr;exact AK9 oK ATk AGQ hv h
   ·exact ATS oK ATk AHc hr
def CY(n:Nat):Call:=JW Proofs.Tryz.prog Ap AIy PK n
theorem AWn(n:Nat):S9 Proofs.Tryz.prog Ap.gs (CY n):=OG TB Xe AS6 n
theorem APp{x:GN}{rk:A0}{nn:Nat}(q:ANK h x lv ov rv rk xv)(gb:AHQ h)(gf:lM h)(h16:16≤h.A6)(hlog:h.log=[])(hnn:nn<65536)(hfi:fill<256):
 ∃H,CY 13 3 [.agg ⟨dS x lv ov rv rk xv⟩,.int .u16 (.ofNat nn),bN fill] h=.val (.bool true) H∧H.log=[]:=by
 obtain⟨r,H,e,rfl,hl⟩:=(AP6 (A7:=JW Proofs.Tryz.prog Ap AIy PK 12) (cd:=fun g=>Xu (ACH Proofs.Tryz.prog Ap g) (JW Proofs.Tryz.prog Ap AIy PK 12)) (AL7 KZ 11) (A9T KZ 3) (A0h KZ 11) (ARV KZ 11) (AQE KZ 2) (AG0 KZ 5) (AD0 KZ 8) (AHg KZ 4) (A7q KZ 1) (A86 KZ 9) q gb gf h16 hnn hfi).get;refine⟨H,?_,by rw[hl,hlog]⟩;have:=HQ (n:=12) (g:=3) (args:=[.agg ⟨dS x lv ov rv rk xv⟩,.int .u16 (.ofNat nn),bN fill]) (H:=h) KZ AO8 rfl rfl;exact this.trans e
def XY(s:Nat)(W:World)(v:A0)(n:Nat)(l:List Nat):Prop:=(v=.slice none 0 0∧n=0∧l=[])∨∃c o cap,v=.slice (some ⟨c,o,none⟩) n cap∧n≤cap∧cap<R8∧c<W.heap.size∧l.length=n*s ∧
 (l≠[]→∃arr ty fz,W.heap[c]?=some (.cells arr ty fz)∧o+l.length≤arr.size∧∀(j:Nat) (x:Nat),l[j]?=some x→x<256∧arr[o+j]?=some (.int .u8 (.ofNat x)))
def AKC(c:Nat):Nat:=if c=5 then 5 else 16+c
def bC(v:A0):A0:=match v with|.slice (some a) l c=>F8 (AKC a.block) a.off l c|v=>v
def Vd(v:A0)(l:List Nat):List Nat:=match v,l with|.slice (some a) _ _,_::_=>if a.block=5 then[] else[a.block]|_,_=>[]
def AKK(v:A0):A0:=bif j9 v then v else .chan (some 0)
theorem A4n(f:Map)(v:A0):F5 f (AKK v) v:=by
 unfold AKK;cases h:j9 v with
 | false=>exact .top v
 | true =>
  rw[cond_true];cases v with
  | bool b=>exact .bool b
  | int k n=>exact .int k n
  | string s=>exact .string s
  | pointer a=>cases a with | none=>exact .nilPtr | some a=>cases h
  | slice a l c=>cases a with | none=>exact .AW l c | some a=>cases h
  | map a=>cases a with | none=>exact .IV | some a=>cases h
  | nilFunc=>exact .nilFunc
  | nilIface=>exact .nilIface
  | _=>cases h
def A7X(W:World)(c:Nat):Option N2:=match W.heap[c]? with
 | some (.cells arr _ _)=>some (.row (C7 (arr.toList.map AKK) 0 .nil fun t=>t) arr.size ANH true true)
 | _=>none
def A5k(W:World)(c:Nat):Nat:=match W.heap[c]? with
 | some (.cells arr _ _)=>arr.size
 | _=>0
def hA(W:World)(C:List Nat):Hp:=C.foldr (fun c h=>⟨T.set (path (16+c)) h.bl (A7X W c),16+W.heap.size,16+W.heap.size,[]⟩) ⟨AR2.bl,16+W.heap.size,16+W.heap.size,[]⟩
theorem Zg(W:World)(C:List Nat):(hA W C).A6=16+W.heap.size∧(hA W C).base=16+W.heap.size∧(hA W C).log=[]:=by cases C<;>exact⟨rfl,rfl,rfl⟩
theorem pL(W:World)(C:List Nat)(b:Nat):(hA W C).at b=if 16≤b∧b-16∈C then A7X W (b-16) else AR2.at b:=by
 induction C with
 | nil=>rw[if_neg (by simp)];rfl
 | cons c C ih =>
  have e:(hA W (c::C)).at b=if path (16+c)=path b then A7X W c else(hA W C).at b:=T.A9 _ _ _ _
  rw[e];by_cases h:16+c=b
  ·subst h;rw[if_pos rfl,if_pos ⟨by omega,by simp⟩,zL]
  · rw[if_neg (fun hp=>h (bP hp)),ih];by_cases h2:16≤b∧b-16∈C
    ·rw[if_pos h2,if_pos ⟨h2.1,by simp[h2.2]⟩]
    · rw[if_neg h2,if_neg];rintro⟨h3,h4⟩;rcases m8.1 h4 with h5|h5
      ·omega
      ·exact h2 ⟨h3,h5⟩
structure AG4(W:World):Prop where
 g0:∃e fz,W.heap[0]?=some (.cells Ds.toArray e fz)
 g1:∃e fz,W.heap[5]?=some (.cells (AFS Ek).toArray e fz)
def fA(W:World):Map:=fun b=>if b=0 then some ⟨0,0,7,0⟩ else if b=5 then some ⟨5,0,256,0⟩ else if 16≤b∧b-16<W.heap.size then some ⟨b-16,0,A5k W (b-16),0⟩ else none
theorem ACe{c:Nat}(hc:c<W.heap.size):fA W (16+c)=some ⟨c,0,A5k W c,0⟩:=by unfold fA;rw[if_neg (by omega),if_neg (by omega),if_pos ⟨by omega,by omega⟩,zL]
theorem A60{l:List A0}{arr:Array A0}{e:TypeId}{fz:Nat×Nat}(hl:arr.size=l.length)(h:∀(k:Nat) (v:A0),l[k]?=some v→∃v',arr[k]?=some v'∧F5 f v v'):GI f ⟨b,0,l.length,s⟩ (bg l) (.cells arr e fz):=by unfold bg;refine .row _ _ _ _ _ arr e fz (.inr rfl) hl (by simp) (fun _=>⟨rfl,rfl⟩) (fun h=>by cases h) fun k v hk hv=>?_;rw[V3,if_pos ⟨by omega,by omega⟩,EC] at hv;show ∃v',arr[0+k]?=some v'∧_;rw[Ag];exact h k v hv
theorem AGE{l:List A0}(hl:∀v∈l,j9 v=true):∀(k:Nat) (v:A0),l[k]?=some v→∃v',l.toArray[k]?=some v'∧F5 f v v':=fun k v hv=>by refine⟨v,by rw[A18];exact hv,?_⟩;have:=A4n f v;unfold AKK at this;rwa[hl v (s6 hv)] at this
theorem AGb:∀(k:Nat) (v:A0),Ds[k]?=some v→∃v',Ds.toArray[k]?=some v'∧F5 f v v':=fun k v hv=>by
 refine⟨v,by rw[A18];exact hv,?_⟩;have hm:=s6 hv;unfold Ds at hm;simp only[m8,Lg,or_false] at hm;rcases hm with rfl|rfl|rfl|rfl|rfl|rfl|rfl
 all_goals first|exact .nilFunc|exact .func _ _ _ _ _ rfl rfl (fun i hi=>absurd hi (xM _)) (fun i hi=>absurd hi (xM _))
def ADn(W:World)(C:List Nat):Prop:=∀c∈C,c≠5∧∃(arr:Array A0) (ty:TypeId) (fz:Nat×Nat) (o:Nat) (n:Int),W.heap[c]?=some (.cells arr ty fz)∧arr[o]?=some (Value.int .u8 n)
theorem AWU(hg:AG4 W)(hC:ADn W C):Z6 (fA W) (hA W C) W:=by
 have lt:∀ {c:Nat} {o:Obj},W.heap[c]?=some o→c<W.heap.size:=fun h=>(RY.1 h).1;obtain⟨⟨e0,z0,g0⟩,⟨e1,z1,g1⟩⟩:=hg;have key:∀b i,fA W b=some i→b<16+W.heap.size∧i.S6<W.heap.size:=fun b i h=>by
  unfold fA at h
  repeat' split at h
  all_goals first|cases h|skip
  all_goals subst_vars
  ·exact⟨by have:=lt g0;omega,lt g0⟩
  ·exact⟨by have:=lt g1;omega,lt g1⟩
  ·rename_i h16;exact⟨by omega,h16.2⟩
 have cC:∀c∈C,c<W.heap.size:=fun c hc=>by obtain⟨_,arr,ty,fz,o,n,h1,_⟩:=hC c hc;exact lt h1
 refine⟨fun b o i hb ho=>?_,fun b c i j hb hc h1 h2 hij=>?_,fun b i hb=>by rw[(Zg W C).1];exact key b i hb,fun b hb=>?_,by rw[(Zg W C).1,(Zg W C).2.1];exact M8 _⟩
 · rw[pL] at ho;split at ho
   · rename_i h16;obtain⟨_,arr,ty,fz,o',n,h1,_⟩:=hC _ h16.2;obtain⟨c,rfl⟩:∃c,b=16+c:=⟨b-16,by omega⟩
     rw[zL] at h1 ho h16;rw[ACe (lt h1)] at hb;cases hb;unfold A7X at ho;unfold A5k;rw[h1] at ho ⊢;cases ho;refine⟨_,rfl,.row _ _ _ _ _ arr ty fz (.inr rfl) rfl (by simp) (fun _=>⟨rfl,rfl⟩) (fun h=>by cases h) fun k v hk hv=>?_⟩;rw[V3,if_pos ⟨by omega,by simp;omega⟩,EC,Rp] at hv;have hk':arr.toList[k]?=some arr[k]:=by rw[AN5,AFo hk]
     rw[hk'] at hv;cases hv;exact⟨arr[k],by show arr[0+k]?=_;rw[Ag,AFo hk],A4n _ _⟩
   · rw[Tt] at ho
     repeat' split at ho
     all_goals first|cases ho|skip
     all_goals subst_vars
     ·have:fA W 5=some ⟨5,0,(AFS Ek).length,0⟩:=rfl;rw[this] at hb;cases hb;exact⟨_,g1,A60 (by simp) (AGE (A0v _))⟩
     ·have:fA W 0=some ⟨0,0,Ds.length,0⟩:=rfl;rw[this] at hb;cases hb;exact⟨_,g0,A60 (by simp) AGb⟩
 · have glob:∀b,(AR2.at b).isSome→b=0∨b=5:=fun b h=>by
    rw[Tt] at h
    repeat' split at h
    all_goals first|omega|cases h
   have gi:∀b i,(b=0∨b=5)→fA W b=some i→i.S6=b:=fun b i hb h=>by rcases hb with rfl|rfl<;>(cases h;rfl)
   have no8:∀c,c∈C→¬(c=0∨c=5):=fun c hc hg=>by
    obtain⟨n5,arr,ty,fz,o,n,k1,k2⟩:=hC c hc;rcases hg with rfl|rfl
    ·rw[g0] at k1;cases k1;rw[A18] at k2;have hm:=s6 k2;unfold Ds at hm;simp at hm
    ·exact n5 rfl
   have argi:∀b i,16≤b∧b-16∈C→fA W b=some i→i.S6=b-16:=fun b i hb h=>by
    obtain⟨c,rfl⟩:∃c,b=16+c:=⟨b-16,by omega⟩
    rw[zL] at hb ⊢;rw[ACe (cC c hb.2)] at h;cases h;rfl
   rw[pL] at h1 h2;by_cases p1:16≤b∧b-16∈C
   · by_cases p2:16≤c∧c-16∈C
     ·have e1:=argi b i p1 hb;have e2:=argi c j p2 hc;omega
     ·rw[if_neg p2] at h2;have q:=glob c h2;have e1:=argi b i p1 hb;have e2:=gi c j q hc;exact absurd (by rw[←e1,hij,e2];exact q) (no8 (b-16) p1.2)
   · rw[if_neg p1] at h1;have q:=glob b h1;have e1:=gi b i q hb;by_cases p2:16≤c∧c-16∈C
     ·have e2:=argi c j p2 hc;exact absurd (by rw[←e2,←hij,e1];exact q) (no8 (c-16) p2.2)
     ·rw[if_neg p2] at h2;have e2:=gi c j (glob c h2) hc;omega
 · rw[(Zg W C).1] at hb;rw[pL,if_neg]
   · rw[Tt]
     repeat' rw[if_neg (by omega)]
   ·rintro⟨h16,hc⟩;have:=cC _ hc;omega
theorem Yj{n:Nat}(h:XY s W v n l):ADn W (Vd v l):=by
 intro c hc;rcases h with⟨rfl,_,rfl⟩|⟨b,o,cap,rfl,_,_,_,_,hu⟩
 ·simp[Vd] at hc
 · cases l with
   | nil=>simp[Vd] at hc
   | cons x r =>
    have hc':c∈(if b=5 then[] else[b]):=hc;by_cases h5:b=5
    ·rw[if_pos h5] at hc';cases hc'
    ·rw[if_neg h5,LZ] at hc';subst hc';obtain⟨arr,ty,fz,h1,h2,h3⟩:=hu (by simp);exact⟨h5,arr,ty,fz,o+0,_,h1,(h3 0 x rfl).2⟩
theorem XY.byte{n:Nat}(h:XY s W v n l):∀x∈l,x<256:=by
 intro x hx;rcases h with⟨rfl,_,rfl⟩|⟨b,o,cap,rfl,_,_,_,_,hu⟩
 ·cases hx
 ·obtain⟨arr,ty,fz,h1,h2,h3⟩:=hu (by intro e;rw[e] at hx;cases hx);obtain⟨j,hj,rfl⟩:=List.getElem_of_mem hx;exact(h3 j _ (X0 hj)).1
theorem XY.sl{n:Nat}(hg:AG4 W)(hs:0<s)(h:XY s W v n l)(hC:∀c∈Vd v l,c∈C):Sl s (hA W C) (bC v) n (M4 l):=by
 rcases h with⟨rfl,rfl,rfl⟩|⟨b,o,cap,rfl,h1,h2,h3,h4,hu⟩
 ·exact⟨by simp[M4],.inl ⟨rfl,.inl rfl⟩⟩
 · refine⟨by rw[O4];exact h4,?_⟩;cases l with
   | nil =>
    have hn:n=0:=by
     rcases Br n with h|h
     ·exact h
     ·have:=Nat.mul_pos h hs;simp at h4;omega
    subst hn;exact .inl ⟨rfl,.inr ⟨_,_,_,rfl⟩⟩
   | cons x r =>
    obtain⟨arr,ty,fz,k1,k2,k3⟩:=hu (by simp);have hn:0<n:=by
     rcases Br n with h|h
     ·rw[h,UM] at h4;simp at h4
     ·exact h
    by_cases h5:b=5
    · subst h5;obtain⟨e1,z1,g1⟩:=hg.g1;rw[g1] at k1;cases k1;refine .inr ⟨5,o,cap,rfl,hn,C7 (AFS Ek) 0 .nil fun t=>t,(AFS Ek).length,ANH,true,true,?_,by rw[O4];simpa using k2,fun k hk=>?_⟩
      ·rw[pL,if_neg (by omega),Tt,if_pos rfl];rfl
      ·rw[O4] at hk;obtain⟨q1,q2⟩:=k3 k _ (X0 hk);have hlt:=(RY.1 q2).1;rw[A18] at q2;rw[V3,if_pos ⟨by omega,by simpa using hlt⟩,EC,q2,Q1 (X0 hk)]
    · refine .inr ⟨16+b,o,cap,?_,hn,C7 (arr.toList.map AKK) 0 .nil fun t=>t,arr.size,ANH,true,true,?_,by rw[O4];exact k2,fun k hk=>?_⟩
      ·show F8 (AKC b) o n cap=_;unfold AKC;rw[if_neg h5]
      ·rw[pL,if_pos ⟨by omega,by rw[zL];exact hC b (by show b∈(if b=5 then[] else[b]);rw[if_neg h5];exact LZ.2 rfl)⟩,zL];unfold A7X;rw[k1]
      ·rw[O4] at hk;obtain⟨q1,q2⟩:=k3 k _ (X0 hk);have hlt:=(RY.1 q2).1;rw[V3,if_pos ⟨by omega,by simp;omega⟩,EC,Rp,AN5,q2,Q1 (X0 hk)];rfl
theorem XY.rel{n:Nat}(h:XY s W v n l):F5 (fA W) (bC v) v:=by
 rcases h with⟨rfl,_,rfl⟩|⟨b,o,cap,rfl,h1,h2,h3,_⟩
 ·exact .AW 0 0
 · show F5 (fA W) (F8 (AKC b) o n cap) _;unfold AKC;by_cases h5:b=5
   ·rw[if_pos h5];subst h5;have:=F5.slice (f:=fA W) 5 o n cap ⟨5,0,256,0⟩ rfl h2 h1;rw[show(⟨5,0,256,0⟩:VT).o+o=o by simp] at this;exact this
   ·rw[if_neg h5];have:=F5.slice (f:=fA W) (16+b) o n cap ⟨b,0,A5k W b,0⟩ (ACe h3) h2 h1;rw[show(⟨b,0,A5k W b,0⟩:VT).o+o=o by simp] at this;exact this
theorem AQS(W:World)(C:List Nat):AHQ (hA W C)∧lM (hA W C):=by
 unfold AHQ lM;constructor
 ·rw[pL,if_neg (by omega),Tt,if_neg (by omega),if_pos rfl]
 ·rw[pL,if_neg (by omega),Tt,if_pos rfl]
theorem DW(h:∀x∈l,x<256)(i:Nat):l.getD i 0<256:=by
 rw[lj];cases hx:l[i]? with
 | none=>exact Nat.zero_lt_succ _
 | some x=>exact h x (s6 hx)
def A2g:Nat→List Nat→Ix
 | 0,_=>[]
 | n+1,l=>(l.getD 0 0,l.getD 1 0)::A2g n (l.drop 2)
def Za:Nat→List Nat→List (Nat×Nat×Nat)
 | 0,_=>[]
 | n+1,l=>(l.getD 0 0,l.getD 1 0,l.getD 2 0)::Za n (l.drop 3)
def aw:Nat→List Nat→List Q4
 | 0,_=>[]
 | n+1,l=>(l.getD 0 0,l.getD 1 0,l.getD 2 0,l.getD 3 0)::aw n (l.drop 4)
theorem pq(n:Nat):∀l,(A2g n l).length=n:=by
 induction n with
 | zero=>intro l;rfl
 | succ n ih=>intro l;show(A2g n (l.drop 2)).length+1=n+1;rw[ih]
theorem yk(n:Nat):∀l,(Za n l).length=n:=by
 induction n with
 | zero=>intro l;rfl
 | succ n ih=>intro l;show(Za n (l.drop 3)).length+1=n+1;rw[ih]
theorem yU(n:Nat):∀l,(aw n l).length=n:=by
 induction n with
 | zero=>intro l;rfl
 | succ n ih=>intro l;show(aw n (l.drop 4)).length+1=n+1;rw[ih]
theorem AKw(n:Nat):∀l:List Nat,l.length=n*2→A4h (A2g n l)=M4 l:=by
 induction n with
 | zero=>intro l h;simp at h;subst h;rfl
 | succ n ih =>
  intro l h
  match l,h with
  | a::b::r,h =>
   have h2:r.length=n*2:=by simp at h;omega
   have e:A4h (A2g (n+1) (a::b::r))=[bN a,bN b]++A4h (A2g n r):=rfl;rw[e,ih r h2];rfl
  | [],h=>simp at h
  | [_],h=>simp at h;omega
theorem AGf(n:Nat):∀l:List Nat,l.length=n*3→A7c (Za n l)=M4 l:=by
 induction n with
 | zero=>intro l h;simp at h;subst h;rfl
 | succ n ih =>
  intro l h
  match l,h with
  | a::b::c::r,h =>
   have h2:r.length=n*3:=by simp at h;omega
   have e:A7c (Za (n+1) (a::b::c::r))=[bN a,bN b,bN c]++A7c (Za n r):=rfl;rw[e,ih r h2];rfl
  | [],h=>simp at h
  | [_],h=>simp at h;omega
  | [_,_],h=>simp at h;omega
theorem AIE(n:Nat):∀l:List Nat,l.length=n*4→AUS (aw n l)=M4 l:=by
 induction n with
 | zero=>intro l h;simp at h;subst h;rfl
 | succ n ih =>
  intro l h
  match l,h with
  | a::b::c::d::r,h =>
   have h2:r.length=n*4:=by simp at h;omega
   have e:AUS (aw (n+1) (a::b::c::d::r))=[bN a,bN b,bN c,bN d]++AUS (aw n r):=rfl;rw[e,ih r h2];rfl
  | [],h=>simp at h
  | [_],h=>simp at h;omega
  | [_,_],h=>simp at h;omega
  | [_,_,_],h=>simp at h;omega
theorem AQ7(n:Nat):∀l:List Nat,(∀x∈l,x<256)→AXE (A2g n l):=by
 induction n with
 | zero=>intro l _ q hq;cases hq
 | succ n ih =>
  intro l h q hq;rcases m8.1 hq with h1|h1
  ·rw[h1];exact⟨DW h 0,DW h 1⟩
  ·exact ih _ (fun x hx=>h x (A40 hx)) q h1
theorem AJM(n:Nat):∀l:List Nat,(∀x∈l,x<256)→AMm (Za n l):=by
 induction n with
 | zero=>intro l _ q hq;cases hq
 | succ n ih =>
  intro l h q hq;rcases m8.1 hq with h1|h1
  ·rw[h1];exact⟨DW h 0,DW h 1,DW h 2⟩
  ·exact ih _ (fun x hx=>h x (A40 hx)) q h1
theorem ALl(n:Nat):∀l:List Nat,(∀x∈l,x<256)→∀q∈aw n l,ALa q:=by
 induction n with
 | zero=>intro l _ q hq;cases hq
 | succ n ih =>
  intro l h q hq;rcases m8.1 hq with h1|h1
  ·rw[h1];exact⟨DW h 0,DW h 1,DW h 2,DW h 3⟩
  ·exact ih _ (fun x hx=>h x (A40 hx)) q h1
theorem XY.len{n:Nat}(h:XY s W v n l):l.length=n*s:=by
 rcases h with⟨_,rfl,rfl⟩|⟨_,_,_,_,_,_,_,h,_⟩
 ·rw[UM];rfl
 ·exact h
theorem XY.arg{n:Nat}(h:XY s W v n l)(H:Hp):ATe H (bC v) n:=by
 rcases h with⟨rfl,rfl,_⟩|⟨b,o,cap,rfl,h1,h2,_⟩
 ·exact .inl ⟨rfl,rfl⟩
 ·exact .inr ⟨_,_,_,rfl,h1,h2⟩
theorem XY.cell{n:Nat}(h:XY s W v n l):Cell (bC v):=by
 rcases h with⟨rfl,_⟩|⟨b,o,cap,rfl,_⟩
 ·exact DF
 ·exact VO
theorem AWV{w0 w1 w2 w3 A2G nn:Nat}{rk:A0}{n1 n2 n3 n4 n5:Nat}{l1 l2 l3 l5:List Nat}(hg:AG4 W)(b0:w0<256)(b1:w1<256)(b2:w2<256)(b3:w3<256)(hnn:nn<65536)(hfi:fill<256)(hl:XY 3 W lv n1 l1)(ho:XY 1 W ov n2 l2)(hr':XY 2 W rv n3 l3)(hk:XY 0 W rk n4 [])(hx:XY 4 W xv n5 l5)(k1:n1<9223372036854775808)(k2:n2<9223372036854775808)(k3:n3<9223372036854775808)(k5:n5<9223372036854775808):
 Calls Proofs.Tryz.prog 3 #[.agg ⟨[lv,bN w0,bN w1,bN w2,bN w3,ov,.int .u16 (.ofNat A2G),rv,rk,xv]⟩,.int .u16 (.ofNat nn),bN fill] W fun e W'=>e=.returned (.bool true)∧W'.os=W.os∧W'.tape=W.tape∧W'.output=W.output∧W.heap.size≤W'.heap.size∧∀c,c<W.heap.size→W'.heap[c]?=W.heap[c]?:=by
 have hC:ADn W (Vd lv l1++(Vd ov l2++(Vd rv l3++Vd xv l5))):=fun c hc=>by
  rcases Gt.1 hc with h|h
  ·exact Yj hl c h
  rcases Gt.1 h with h|h
  ·exact Yj ho c h
  rcases Gt.1 h with h|h
  ·exact Yj hr' c h
  ·exact Yj hx c h
 generalize hCC:Vd lv l1++(Vd ov l2++(Vd rv l3++Vd xv l5))=C at *;have m1:∀c∈Vd lv l1,c∈C:=fun c h=>by rw[←hCC];simp[h]
 have m2:∀c∈Vd ov l2,c∈C:=fun c h=>by rw[←hCC];simp[h]
 have m3:∀c∈Vd rv l3,c∈C:=fun c h=>by rw[←hCC];simp[h]
 have m5:∀c∈Vd xv l5,c∈C:=fun c h=>by rw[←hCC];simp[h]
 have hr:=AWU hg hC;have hn:=Zg W C;have hw:Wf (hA W C):=⟨hr.dead,hr.base⟩
 have a1:=hl.sl hg (by omega) m1;have a2:=ho.sl hg (by omega) m2;have a3:=hr'.sl hg (by omega) m3;have a5:=hx.sl hg (by omega) m5;rw[←AGf n1 l1 hl.len] at a1;rw[←AKw n3 l3 hr'.len] at a3;rw[←AIE n5 l5 hx.len] at a5;have e2:l2.length=n2:=by have:=ho.len;omega
 have q:ANK (hA W C) ⟨Za n1 l1,w0,w1,w2,w3,l2,A2G,A2g n3 l3,aw n5 l5⟩ (bC lv) (bC ov) (bC rv) (bC rk) (bC xv):=⟨hw,by rw[yk];exact a1,by rw[yk];exact k1,AJM n1 l1 hl.byte,b0,b1,b2,by rw[e2];exact a2,by rw[e2];exact k2,ho.byte,by rw[pq];exact a3,by rw[pq];exact hr'.arg _,by rw[pq];exact k3,AQ7 n3 l3 hr'.byte,hk.cell,by rw[yU];exact a5,by rw[yU];exact k5,ALl n5 l5 hx.byte⟩
 obtain⟨H,e,hlog⟩:=APp q (AQS W C).1 (AQS W C).2 (by rw[hn.1];omega) hn.2.2 hnn hfi;have hG:Dr Ap.gs (fA W):=fun g hg=>by
  have hg':g∈[0,5]:=hg;simp only[m8,Lg,or_false] at hg';rcases hg' with rfl|rfl
  ·exact⟨⟨0,0,7,0⟩,rfl,rfl,rfl⟩
  ·exact⟨⟨5,0,256,0⟩,rfl,rfl,rfl⟩
 have hagg:F5 (fA W) (.agg ⟨dS ⟨Za n1 l1,w0,w1,w2,w3,l2,A2G,A2g n3 l3,aw n5 l5⟩ (bC lv) (bC ov) (bC rv) (bC rk) (bC xv)⟩) (.agg ⟨[lv,bN w0,bN w1,bN w2,bN w3,ov,.int .u16 (.ofNat A2G),rv,rk,xv]⟩):=.agg _ _ rfl fun i hi=>by
  match i,hi with
  | 0,_=>exact hl.rel
  | 1,_=>exact .int _ _
  | 2,_=>exact .int _ _
  | 3,_=>exact .int _ _
  | 4,_=>exact .int _ _
  | 5,_=>exact ho.rel
  | 6,_=>exact .int _ _
  | 7,_=>exact hr'.rel
  | 8,_=>exact hk.rel
  | 9,_=>exact hx.rel
 have hl1:=M7.cons hagg (.cons (.int .u16 (.ofNat nn)) (.cons (.int .u8 (.ofNat fill)) (.nil (fA W))));have hok:=AWn 13 3 _ _ _ _ W hG hr hl1;rw[e] at hok;refine hok.2.mono fun e W' he=>?_;cases e with
 | panicked c=>exact he.elim
 | outgrown=>exact he.elim
 | returned v' =>
  obtain⟨f',hA',hCs,hv'⟩:=he;cases hv';refine⟨rfl,hCs.os,hCs.tape,hCs.out,hCs.size,fun c hc=>hCs.K7 c hc fun b i hb _ _=>⟨?_,by rw[hlog];simp⟩⟩;rw[hn.2.1,←hn.1];exact(hr.fresh b i hb).1
end Abs
end Go
end
