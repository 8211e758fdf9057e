/-
DeviceNews: the argument that describes a device, opened.
Conditions: none.
-/
import Derived.Test.YtekknahndoonjaaGreatDoorRows
import Derived.ProofKit
import Derived.OpenShut
import Derived.ChangeArms
import Derived.Stop.LaidTwo
import Derived.Lib.LaidTab
import Derived.Lib.LaidU8
import Derived.LaidLaws
import Derived.Test.YtekknahndoonjaaGreatDoorRun07
set_option linter.all false
set_option maxRecDepth 100000
noncomputable section
namespace Go
namespace Abs
section
open RowKit Proofs
section
variable {H:Type} {enc:TypeId×Value→H} {W:World} {sp:Nat→Bool} {held:Bool}
theorem dW{n:Int}(h:(Lit.int .u8 n).wf=true):∃m:Nat,m<256∧n=.ofNat m:=by have:=bounds_u8 h;exact⟨n.toNat,by omega,by show n=(n.toNat:Int);omega⟩
theorem ATQ{a:Addr}{cs:List Value}(hs:a.spot=none)(h:W.cells? 0 a 1=some cs){x:Value}(e:cs=[x]):W.cell? ⟨a.block,a.off,none⟩=some x:=by subst e;unfold World.cells? at h;rw[if_pos (Nat.zero_le _)] at h;have h0:=mapM_some_get h 0 0 rfl;obtain⟨b,o,s⟩:=a;cases hs;exact h0
theorem AEC{α:Type}{Q:Nat→α→Prop}:∀(n:Nat),(∀i,i<n→∃p,Q i p)→∃l:List α,l.length=n∧∀(i:Nat) (p:α),l[i]?=some p→Q i p:=by
 intro n;induction n with
 | zero=>intro _;exact⟨[],rfl,fun i p h=>by simp at h⟩
 | succ n ih =>
  intro h;obtain⟨l,h1,h2⟩:=ih fun i hi=>h i (by omega);obtain⟨p,hp⟩:=h n (by omega);refine⟨l++[p],by simp[h1],fun i q hq=>?_⟩;by_cases hi:i<n
  ·rw[List.getElem?_append_left (by omega)] at hq;exact h2 i q hq
  · have hlt:=(List.getElem?_eq_some_iff.1 hq).1;simp[h1] at hlt;have:i=n:=by omega
    subst this;rw[List.getElem?_append_right (by omega),h1,Nat.sub_self] at hq;cases hq;exact hp
theorem A06{a:Addr}(hs:a.spot=none)(k:Nat):(a.add k).block=a.block∧(a.add k).off=a.off+k∧(a.add k).spot=none:=by
 unfold Addr.add;split
 ·rename_i h;subst h;exact⟨rfl,by simp,hs⟩
 ·exact⟨rfl,rfl,rfl⟩
theorem A2A{b o:Nat}{v:Value}(h:W.cell? ⟨b,o,none⟩=some v):∃arr ty fz,W.heap[b]?=some (.cells arr ty fz)∧arr[o]?=some v:=by
 unfold World.cell? at h;split at h
 ·rename_i c t f heq;exact⟨c,t,f,heq,by simpa using h⟩
 ·cases h
def A9Y:Tryz.prog.cellsOf 5=1:=by kernel_rfl
def oI:Tryz.prog.underlying 5=some (.int .u8):=by kernel_rfl
def AAJ:Tryz.prog.underlying 24=some (.slice 5):=by kernel_rfl
theorem AWc{v:Value}{n base:Nat}{x:DataW H×List MemPlace}(h:DataW.trod enc Tryz.prog W 0 sp held n 24 [v]=some x)(hok:Cell.okWide Tryz.prog W .any base 24 v):∃l,XY 1 W v l.length l∧l.length<9223372036854775808:=by
 rcases DataW.trod_slice AAJ h with⟨e,_⟩|⟨a,len,cap,elems,rest,m,rfl,e,_,_,h1,h2,h3,h4,_,_⟩
 ·cases e;exact⟨[],.inl ⟨rfl,rfl,rfl⟩,by simp⟩
 · cases e;have hs:a.spot=none∧a.block<W.heap.size:=by
    have h5:len≤cap∧(cap:Int)≤IntKind.i64.max∧W.has Tryz.prog .any base a 5 cap:=by unfold Cell.okWide at hok;rw[AAJ] at hok;unfold Cell.ok at hok;rw[AAJ] at hok;exact hok
    obtain⟨_,_,_,hsp,row,cells,hsh,_⟩:=h5;refine⟨hsp,?_⟩;rcases Nat.lt_or_ge a.block W.heap.size with hlt|hge
    ·exact hlt
    ·unfold World.shape? at hsh;rw[Array.getElem?_eq_none hge] at hsh;cases hsh
   obtain⟨hsp,hblk⟩:=hs;rw[A9Y] at h4;obtain⟨l,hl,hq⟩:=AEC (Q:=fun i (p:Nat)=>p<256∧W.cell? ⟨a.block,a.off+i,none⟩=some (.int .u8 (.ofNat p))) len fun i hi=>by
    have h5:=h4 i hi;obtain⟨y,hy⟩:∃y,elems[i]?=some y:=⟨_,List.getElem?_eq_getElem (by omega)⟩
    rw[hy] at h5;obtain⟨cs,h6,h7⟩:=Option.bind_eq_some_iff.1 h5;obtain⟨n,e1,_,wf⟩:=DataW.trod_int oI h7;obtain⟨p,hp,rfl⟩:=dW wf;obtain⟨a1,a2,a3⟩:=A06 hsp (i*1);have k1:=ATQ a3 h6 e1;rw[a1,a2,Nat.mul_one] at k1;exact⟨p,hp,k1⟩
   refine⟨l,.inr ⟨a.block,a.off,cap,?_,by omega,by unfold R8;unfold maxLen at h2;omega,hblk,by rw[Nat.mul_one],fun hne=>?_⟩,by unfold maxLen at h2;omega⟩
   ·obtain⟨b,o,s⟩:=a;cases hsp;rw[hl]
   · have hpos:0<l.length:=by cases l with|nil=>exact absurd rfl hne|cons _ _=>simp
     obtain⟨arr,ty,fz,k1,_⟩:=A2A (hq 0 _ (List.getElem?_eq_getElem hpos)).2;have same:∀ {k v},W.cell? ⟨a.block,k,none⟩=some v→arr[k]?=some v:=fun{k v} hk=>by obtain⟨arr',ty',fz',k2,k3⟩:=A2A hk;rw[k1] at k2;cases k2;exact k3
     refine⟨arr,ty,fz,k1,?_,fun j x hx=>⟨(hq j x hx).1,same (hq j x hx).2⟩⟩;have:=same (hq (l.length-1) _ (List.getElem?_eq_getElem (by omega))).2;have:=(Array.getElem?_eq_some_iff.1 this).1;omega
theorem AWP{α:Type}{l:List α}{k:Nat}{x:α}(h:(l.drop k).take 1=[x]):l[k]?=some x:=by have:=congrArg (fun l=>l[0]?) h;simpa using this
theorem ASH{a:Addr}{n:Nat}{cs:List Value}(hs:a.spot=none)(h:W.cells? 0 a n=some cs){j:Nat}(hj:j<n){x:Value}(e:cs[j]?=some x):W.cell? ⟨a.block,a.off+j,none⟩=some x:=by
 unfold World.cells? at h;rw[if_pos (Nat.zero_le _)] at h;have h0:=mapM_some_get h j j (by simp[hj]);rw[e] at h0;obtain⟨b,o,s⟩:=a;cases hs;cases j with
 | zero=>exact h0
 | succ j=>exact h0
def AOd:Tryz.prog.cellsOf 76=3:=by kernel_rfl
def AP3:Tryz.prog.underlying 76=some (.array 3 5):=by kernel_rfl
def ALh:Tryz.prog.cellsOf 255=2:=by kernel_rfl
def AKx:Tryz.prog.underlying 255=some (.array 2 5):=by kernel_rfl
def AFM:Tryz.prog.cellsOf 23=4:=by kernel_rfl
def APX:Tryz.prog.underlying 23=some (.array 4 5):=by kernel_rfl
def APv:Tryz.prog.cellsOf 22=1:=by kernel_rfl
def AOL:Tryz.prog.underlying 22=some (.slice 76):=by kernel_rfl
def AFq:Tryz.prog.cellsOf 28=1:=by kernel_rfl
def AOG:Tryz.prog.underlying 28=some (.slice 255):=by kernel_rfl
def ANW:Tryz.prog.cellsOf 31=1:=by kernel_rfl
def APz:Tryz.prog.underlying 31=some (.slice 23):=by kernel_rfl
def ANS:Tryz.prog.cellsOf 33=10:=by kernel_rfl
def AQ1:Tryz.prog.cellsOf 26=6:=by kernel_rfl
def APo:Tryz.prog.cellsOf 30=3:=by kernel_rfl
def AP1:Tryz.prog.cellsOf 24=1:=by kernel_rfl
def AOc:Tryz.prog.cellsOf 27=1:=by kernel_rfl
theorem openAr{e s:Nat}{cs:List Value}{n:Nat}{x:DataW H×List MemPlace}(he:Tryz.prog.underlying e=some (.array s 5))(h:DataW.trod enc Tryz.prog W 0 sp held n e cs=some x):∀i,i<s→∃a:Nat,a<256∧cs[i]?=some (.int .u8 (.ofNat a)):=fun i hi=>by
 obtain⟨xs,m,rfl,_,hl,hxl,hE⟩:=DataW.trod_array he h;rw[A9Y] at hE;have h1:=hE i hi;obtain⟨y,hy⟩:∃y,xs[i]?=some y:=⟨_,List.getElem?_eq_getElem (by omega)⟩
 rw[hy,Nat.mul_one] at h1;obtain⟨n,e1,_,wf⟩:=DataW.trod_int oI h1;obtain⟨a,ha,rfl⟩:=dW wf;exact⟨a,ha,AWP e1⟩
theorem openSl{t e s:Nat}{v:Value}{n base:Nat}{x:DataW H×List MemPlace}(hu:Tryz.prog.underlying t=some (.slice e))(he:Tryz.prog.underlying e=some (.array s 5))(hc:Tryz.prog.cellsOf e=s)(hs0:0<s)(h:DataW.trod enc Tryz.prog W 0 sp held n t [v]=some x)(hok:Cell.okWide Tryz.prog W .any base t v):∃k l,XY s W v k l∧k<9223372036854775808:=by
 rcases DataW.trod_slice hu h with⟨e,_⟩|⟨a,len,cap,elems,rest,m,rfl,e,_,_,h1,h2,h3,h4,_,_⟩
 ·cases e;exact⟨0,[],.inl ⟨rfl,rfl,rfl⟩,by omega⟩
 · cases e;have hs:a.spot=none∧a.block<W.heap.size:=by
    have h5:len≤cap∧(cap:Int)≤IntKind.i64.max∧W.has Tryz.prog .any base a e cap:=by unfold Cell.okWide at hok;rw[hu] at hok;unfold Cell.ok at hok;rw[hu] at hok;exact hok
    obtain⟨_,_,_,hsp,row,cells,hsh,_⟩:=h5;refine⟨hsp,?_⟩;rcases Nat.lt_or_ge a.block W.heap.size with hlt|hge
    ·exact hlt
    ·unfold World.shape? at hsh;rw[Array.getElem?_eq_none hge] at hsh;cases hsh
   obtain⟨hsp,hblk⟩:=hs;rw[hc] at h4;obtain⟨l,hl,hq⟩:=AEC (Q:=fun i (p:Nat)=>p<256∧W.cell? ⟨a.block,a.off+i,none⟩=some (.int .u8 (.ofNat p))) (len*s) fun i hi=>by
    have hi3:i/s<len:=Nat.div_lt_of_lt_mul (by rw[Nat.mul_comm];exact hi);have hm3:i%s<s:=Nat.mod_lt _ hs0;have hd3:=Nat.div_add_mod' i s;have h5:=h4 (i/s) hi3;obtain⟨y,hy⟩:∃y,elems[i/s]?=some y:=⟨_,List.getElem?_eq_getElem (by omega)⟩
    rw[hy] at h5;obtain⟨cs,h6,h7⟩:=Option.bind_eq_some_iff.1 h5;obtain⟨p,hp,e1⟩:=openAr he h7 (i%s) hm3;obtain⟨a1,a2,a3⟩:=A06 hsp (i/s*s);have k1:=ASH a3 h6 hm3 e1;rw[a1,a2,show a.off+i/s*s+i%s=a.off+i by omega] at k1;exact⟨p,hp,k1⟩
   refine⟨len,l,.inr ⟨a.block,a.off,cap,?_,by omega,by unfold R8;unfold maxLen at h2;omega,hblk,hl,fun hne=>?_⟩,by unfold maxLen at h2;omega⟩
   ·obtain⟨b,o,s⟩:=a;cases hsp;rfl
   · have hpos:0<l.length:=by cases l with|nil=>exact absurd rfl hne|cons _ _=>simp
     obtain⟨arr,ty,fz,k1,_⟩:=A2A (hq 0 _ (List.getElem?_eq_getElem hpos)).2;have same:∀ {k v},W.cell? ⟨a.block,k,none⟩=some v→arr[k]?=some v:=fun{k v} hk=>by obtain⟨arr',ty',fz',k2,k3⟩:=A2A hk;rw[k1] at k2;cases k2;exact k3
     refine⟨arr,ty,fz,k1,?_,fun j x hx=>⟨(hq j x hx).1,same (hq j x hx).2⟩⟩;have:=same (hq (l.length-1) _ (List.getElem?_eq_getElem (by omega))).2;have:=(Array.getElem?_eq_some_iff.1 this).1;omega
theorem ATp{v:Value}{n base:Nat}{x:DataW H×List MemPlace}(h:DataW.trod enc Tryz.prog W 0 sp held n 22 [v]=some x)(hok:Cell.okWide Tryz.prog W .any base 22 v):∃k l,XY 3 W v k l∧k<9223372036854775808:=openSl AOL AP3 AOd (by decide) h hok
theorem AKn{v:Value}{n base:Nat}{x:DataW H×List MemPlace}(h:DataW.trod enc Tryz.prog W 0 sp held n 28 [v]=some x)(hok:Cell.okWide Tryz.prog W .any base 28 v):∃k l,XY 2 W v k l∧k<9223372036854775808:=openSl AOG AKx ALh (by decide) h hok
theorem ATb{v:Value}{n base:Nat}{x:DataW H×List MemPlace}(h:DataW.trod enc Tryz.prog W 0 sp held n 31 [v]=some x)(hok:Cell.okWide Tryz.prog W .any base 31 v):∃k l,XY 4 W v k l∧k<9223372036854775808:=openSl APz APX AFM (by decide) h hok
theorem AM1{t u:TypeId}{cs:Array Value}{ts:List TypeId}{base i:Nat}{v:Value}(hts:Tryz.prog.cellTypes Tryz.prog.depth t=some ts)(h:Row.okWide Tryz.prog W .any base t cs)(hv:cs[i]?=some v)(hu:ts[i%ts.length]?=some u):Cell.okWide Tryz.prog W .any base u v:=by obtain⟨ts',h1,_,h2⟩:=h;rw[hts] at h1;cases h1;obtain⟨u',h3,h4⟩:=h2 i v hv;rw[hu] at h3;cases h3;exact h4
end
theorem AUy{W:World}{n:String}{k:IntKind}{zs:List Int}{g:Nat}{t e:TypeId}{c:Nat}(h:Lib.VarReads Tryz.prog W n (Lib.tabData k zs))(hg:Tryz.prog.globalNamed n=some g)(ht:(Tryz.prog.globals[g]?).map (·.type)=some t)(hu:Tryz.prog.underlying t=some (.array c e))(he:Tryz.prog.underlying e=some (.int k))(hce:Tryz.prog.cellsOf e=1)(hct:Tryz.prog.cellsOf t=c):∃ty fz,W.heap[g]?=some (.cells (zs.map fun z=>Value.int k z).toArray ty fz):=by
 obtain⟨g',t',cs,fuel,p,hg',ht',hv,hd⟩:=h;rw[hg] at hg';cases hg';rw[ht] at ht';cases ht';have e1:=Lib.cells_of_tab hu he hce hct hd;unfold World.var? at hv;rw[hg] at hv;simp only[Option.bind_some] at hv;split at hv
 ·rename_i cs' ty fz heq;cases hv;obtain⟨l⟩:=cs;simp at e1;subst e1;exact⟨ty,fz,heq⟩
 ·cases hv
end
section
open RowKit Proofs
section
variable {H:Type} {enc:TypeId×Value→H} {W:World} {sp:Nat→Bool} {held:Bool}
theorem XY.zero{s:Nat}{v:Value}{n:Nat}{l:List Nat}(h:XY s W v n l):XY 0 W v n []:=by
 rcases h with⟨rfl,rfl,_⟩|⟨c,o,cap,rfl,h1,h2,h3,_⟩
 ·exact .inl ⟨rfl,rfl,rfl⟩
 ·exact .inr ⟨c,o,cap,rfl,h1,h2,h3,by simp,fun h=>absurd rfl h⟩
def APR:Tryz.prog.cellTypes Tryz.prog.depth 33=some [22,5,5,5,5,24,27,28,28,31]:=by kernel_rfl
def AFX:Tryz.prog.underlying 27=some (.int .u16):=by kernel_rfl
theorem AAY{n:Int}(h:(Lit.int .u16 n).wf=true):∃m:Nat,m<65536∧n=.ofNat m:=by have:=bounds_u16 h;exact⟨n.toNat,by omega,by show n=(n.toNat:Int);omega⟩
theorem AVq{v:Value}{n:Nat}{x:DataW H×List MemPlace}(h:DataW.trod enc Tryz.prog W 0 sp held n 5 [v]=some x):∃a:Nat,a<256∧v=.int .u8 (.ofNat a):=by obtain⟨n,e1,_,wf⟩:=DataW.trod_int oI h;obtain⟨a,ha,rfl⟩:=dW wf;cases e1;exact⟨a,ha,rfl⟩
theorem AKX{v:Value}{n:Nat}{x:DataW H×List MemPlace}(h:DataW.trod enc Tryz.prog W 0 sp held n 27 [v]=some x):∃a:Nat,a<65536∧v=.int .u16 (.ofNat a):=by obtain⟨n,e1,_,wf⟩:=DataW.trod_int AFX h;obtain⟨a,ha,rfl⟩:=AAY wf;cases e1;exact⟨a,ha,rfl⟩
theorem fieldAt{n:Nat}{t:TypeId}{ys:List (DataW H×List MemPlace)}{j:Nat}{cs:List Value}(h:DataW.trod enc Tryz.prog W 0 sp held n t cs=ys[j]?)(hj:j<ys.length):∃y,DataW.trod enc Tryz.prog W 0 sp held n t cs=some y:=⟨ys[j],by rw[h,List.getElem?_eq_getElem hj]⟩
theorem ASo{cs:Array Value}{n base:Nat}{x:DataW H×List MemPlace}(h:DataW.trod enc Tryz.prog W 0 sp held n 33 cs.toList=some x)(hok:Row.okWide Tryz.prog W .any base 33 cs):
 ∃(w0 w1 w2 w3 A2G:Nat) (lv ov rv rk xv:Value) (n1 n2 n3 n4 n5:Nat) (l1 l2 l3 l5:List Nat),w0<256∧w1<256∧w2<256∧w3<256∧cs.toList=[lv,bN w0,bN w1,bN w2,bN w3,ov,.int .u16 (.ofNat A2G),rv,rk,xv]∧XY 3 W lv n1 l1∧XY 1 W ov n2 l2∧XY 2 W rv n3 l3∧XY 0 W rk n4 []∧XY 4 W xv n5 l5∧n1<9223372036854775808∧n2<9223372036854775808∧n3<9223372036854775808∧n5<9223372036854775808:=by
 obtain⟨ys,m,rfl,_,hl,hyl,hf⟩:=DataW.trod_struct Tryz.underlying33 h;rw[ANS] at hl;obtain⟨v0,v1,v2,v3,v4,v5,v6,v7,v8,v9,hcs⟩:=ARh hl;have arr:∀ {k v},cs.toList[k]?=some v→cs[k]?=some v:=fun{k v} h=>by rw[←Array.getElem?_toList];exact h
 have okc:∀ {k:Nat} {v:Value} {u:TypeId},[v0,v1,v2,v3,v4,v5,v6,v7,v8,v9][k]?=some v→[22,5,5,5,5,24,27,28,28,31][k%10]?=some u→Cell.okWide Tryz.prog W .any base u v:=fun{k v u} h1 h2=>AM1 APR hok (arr (by rw[hcs];exact h1)) h2;rw[hcs] at hf;have fX:DataW.trod enc Tryz.prog W 0 sp held m 26 [v0,v1,v2,v3,v4,v5]=ys[0]?:=by have h1:=hf 0 _ rfl;change DataW.trod enc Tryz.prog W 0 sp held m 26 (([v0,v1,v2,v3,v4,v5,v6,v7,v8,v9].drop 0).take (Tryz.prog.cellsOf 26))=_ at h1;rw[AQ1] at h1;exact h1
 have fS:DataW.trod enc Tryz.prog W 0 sp held m 30 [v6,v7,v8]=ys[1]?:=by have h1:=hf 1 _ rfl;change DataW.trod enc Tryz.prog W 0 sp held m 30 (([v0,v1,v2,v3,v4,v5,v6,v7,v8,v9].drop 6).take (Tryz.prog.cellsOf 30))=_ at h1;rw[APo] at h1;exact h1
 have fR:DataW.trod enc Tryz.prog W 0 sp held m 31 [v9]=ys[2]?:=by have h1:=hf 2 _ rfl;change DataW.trod enc Tryz.prog W 0 sp held m 31 (([v0,v1,v2,v3,v4,v5,v6,v7,v8,v9].drop 9).take (Tryz.prog.cellsOf 31))=_ at h1;rw[ANW] at h1;exact h1
 have hyl3:ys.length=3:=hyl;obtain⟨yX,tX⟩:=fieldAt fX (by omega);obtain⟨yS,tS⟩:=fieldAt fS (by omega);obtain⟨yR,tR⟩:=fieldAt fR (by omega);obtain⟨xs,mx,rfl,_,_,hxl,hx⟩:=DataW.trod_struct Tryz.underlying26 tX;obtain⟨zs,ms,hms,_,_,hzl,hz⟩:=DataW.trod_struct Tryz.underlying30 tS;have hxl3:xs.length=3:=hxl;have hzl3:zs.length=3:=hzl;have gL:DataW.trod enc Tryz.prog W 0 sp held mx 22 [v0]=xs[0]?:=by have h1:=hx 0 _ rfl;change DataW.trod enc Tryz.prog W 0 sp held mx 22 (([v0,v1,v2,v3,v4,v5].drop 0).take (Tryz.prog.cellsOf 22))=_ at h1;rw[APv] at h1;exact h1
 have gW:DataW.trod enc Tryz.prog W 0 sp held mx 23 [v1,v2,v3,v4]=xs[1]?:=by have h1:=hx 1 _ rfl;change DataW.trod enc Tryz.prog W 0 sp held mx 23 (([v0,v1,v2,v3,v4,v5].drop 1).take (Tryz.prog.cellsOf 23))=_ at h1;rw[AFM] at h1;exact h1
 have gO:DataW.trod enc Tryz.prog W 0 sp held mx 24 [v5]=xs[2]?:=by have h1:=hx 2 _ rfl;change DataW.trod enc Tryz.prog W 0 sp held mx 24 (([v0,v1,v2,v3,v4,v5].drop 5).take (Tryz.prog.cellsOf 24))=_ at h1;rw[AP1] at h1;exact h1
 have kV:DataW.trod enc Tryz.prog W 0 sp held ms 27 [v6]=zs[0]?:=by have h1:=hz 0 _ rfl;change DataW.trod enc Tryz.prog W 0 sp held ms 27 (([v6,v7,v8].drop 0).take (Tryz.prog.cellsOf 27))=_ at h1;rw[AOc] at h1;exact h1
 have kA:DataW.trod enc Tryz.prog W 0 sp held ms 28 [v7]=zs[1]?:=by have h1:=hz 1 _ rfl;change DataW.trod enc Tryz.prog W 0 sp held ms 28 (([v6,v7,v8].drop 1).take (Tryz.prog.cellsOf 28))=_ at h1;rw[AFq] at h1;exact h1
 have kB:DataW.trod enc Tryz.prog W 0 sp held ms 28 [v8]=zs[2]?:=by have h1:=hz 2 _ rfl;change DataW.trod enc Tryz.prog W 0 sp held ms 28 (([v6,v7,v8].drop 2).take (Tryz.prog.cellsOf 28))=_ at h1;rw[AFq] at h1;exact h1
 obtain⟨_,tL⟩:=fieldAt gL (by omega);obtain⟨_,tW⟩:=fieldAt gW (by omega);obtain⟨_,tO⟩:=fieldAt gO (by omega);obtain⟨_,tV⟩:=fieldAt kV (by omega);obtain⟨_,tA⟩:=fieldAt kA (by omega);obtain⟨_,tB⟩:=fieldAt kB (by omega);obtain⟨n1,l1,s1,b1⟩:=ATp tL (okc (k:=0) rfl rfl);obtain⟨l2,s2,b2⟩:=AWc tO (okc (k:=5) rfl rfl);obtain⟨n3,l3,s3,b3⟩:=AKn tA (okc (k:=7) rfl rfl);obtain⟨n4,l4,s4,b4⟩:=AKn tB (okc (k:=8) rfl rfl);obtain⟨n5,l5,s5,b5⟩:=ATb tR (okc (k:=9) rfl rfl);obtain⟨A2G,_,rfl⟩:=AKX tV;obtain⟨w0,a0,e0⟩:=openAr APX tW 0 (by omega);obtain⟨w1,a1,e1⟩:=openAr APX tW 1 (by omega);obtain⟨w2,a2,e2⟩:=openAr APX tW 2 (by omega);obtain⟨w3,a3,e3⟩:=openAr APX tW 3 (by omega);cases e0;cases e1;cases e2;cases e3;exact⟨w0,w1,w2,w3,A2G,v0,v5,v7,v8,v9,n1,l2.length,n3,n4,n5,l1,l2,l3,l5,a0,a1,a2,a3,hcs,s1,s2,s3,s4.zero,s5,b1,b2,b3,b5⟩
end
end
end Abs
end Go
end
