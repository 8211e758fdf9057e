/-
Symbolic runs of the law's functions and of the program's, part 6.
Conditions: none.
-/
import Derived.Test.YtefdgihgbhbibaaGreatDoorRun05
import Derived.Test.YtefdgihgbhbibaaGreatDoorRunLit
set_option linter.unusedVariables false
set_option linter.unusedSimpArgs false
set_option linter.defProp false
set_option maxRecDepth 10000
namespace Go
namespace cG
def aSV (call:Call):Prop:=∀ h o b1 b2 sC tR xs ys,Wf h→eJ.Ok o→Rd h b1 sC (o.code++xs)→Rd h b2 tR (o.data++ys)→b1<h.next→b2<h.next→b1≠b2→tR≠b1→sC≠b2→sC<h.next→tR<h.next→Yields (call 53 [bE b1 0,bE b2 0] h) (aFQ o b1 b2 sC tR xs ys h)
theorem tA {cm:Nat→Nat→Bool} {k:Nat} {bar:Bool} {own:List (Nat×Bool)} {d:Dn} {l:List Nat} (h:∀ x∈l,allowed cm k bar own d [x]=true):allowed cm k bar own d l=true:=by
 induction l with
 | nil=>rfl
 | cons a l ih =>
  have h1:=h a (by simp)
  have h2:=ih fun x hx=>h x (by simp [hx])
  have e1:allowed cm k bar own d [a]=bif Option.rec (motive:=fun _=>Bool) bar (rB own) (owner d.ns a) then (bif kT cm k a d.rs then true else false) else false:=rfl
  have e2:allowed cm k bar own d (a::l)=bif Option.rec (motive:=fun _=>Bool) bar (rB own) (owner d.ns a) then (bif kT cm k a d.rs then allowed cm k bar own d l else false) else false:=rfl
  rw [e1] at h1
  rw [e2,h2]
  exact h1
theorem zY {n:Nat} {l dL:List Nat} (h:∀ x∈l,n≤x):below n l dL=dL:=by
 induction l with
 | nil=>rfl
 | cons a l ih =>
  have e:below n (a::l) dL=bif Nat.blt a n then a::below n l dL else below n l dL:=rfl
  rw [e,cI (h a (by simp)),cond_false]
  exact ih fun x hx=>h x (by simp [hx])
theorem Rd.aQ3 {h H:Hp} {bx lo:Nat} {xs:List Nat} (hr:Rd h bx lo xs) (e1:H.at bx=h.at bx) (e2:∀ c o x,c=lo→Has h c o (dR [x])→H.at c=h.at c):Rd H bx lo xs:=by
 obtain ⟨h2,⟨v,⟨c,e',cl,hat,hc⟩,h4,h5⟩,h6⟩:=hr
 refine ⟨h2,⟨v,⟨c,e',cl,by rw [e1];exact hat,hc⟩,h4.bT fun k h0 hk=>?_,h5⟩,h6⟩
 obtain ⟨b,o,cp,rfl,g1,g2,g3⟩:=id h4
 have:=fB hk
 subst this
 obtain ⟨x,hx⟩:∃ x,xs.take 1=[x]:=by
  cases xs with
  | nil=>exact absurd h0 (by decide)
  | cons x r=>exact ⟨x,rfl⟩
 have g4:=(g3 h0).take 1
 rw [Ec,hx] at g4
 exact e2 k o x (h5 k hk) g4
theorem aK6 {H:Hp} {b n m o x:Nat} {li:Bool} {ov:Value} {c:T Value} {e:TypeId} {cl ro:Bool} (hat:H.at b=some (.row c 4 e cl ro)) (hc:∀ j,j<4→c.get (path j)=(cQ li n m ov)[j]?) (ho:∀ k z,ov≠.int k z) (hh:Has H b o (dR [x])):False:=by
 obtain ⟨c',m',e',cl',ro',hat',hm,hg⟩:=hh
 rw [hat] at hat'
 cases hat'
 have h0:=hg 0 Nat.one_pos
 have h1:(dR [x]).length=1:=rfl
 rw [h1] at hm
 rw [Nat.add_zero,hc o (by omega)] at h0
 match o,hm with
 | 0,_=>cases h0
 | 1,_=>cases h0
 | 2,_=>cases h0
 | 3,_ =>
  have h2:some ov=some (A1 x):=h0
  cases h2
  exact ho _ _ rfl
theorem oT.aQ4 {H:Hp} {ov:Value} {ps:List (eJ×Value)} {lo:Nat} (ho:oT H ov ps lo):∀ k z,ov≠.int k z:=by
 obtain ⟨bo,_,⟨_,_,⟨_,⟨b,rfl⟩|rfl⟩|⟨b,rfl,_⟩⟩,_⟩:=ho<;>(intro k z h;cases h)
structure PrL (v:Value) (b2 b3 c1 c2 l1 l2 n m:Nat) (ops:List eJ) (lo:Nat) (h:Hp) (i:Nat) (tm:T Value) (df:Df) (H:Hp):Prop where
 df:df=[(49,[bE b3 0])]
 t2:tm.get [false]=some (bE b2 0)
 t3:tm.get [true,true]=some (bE b3 0)
 t10:tm.get [false,false,true]=some (bE c1 0)
 t11:tm.get [true,true,false]=some (bE c2 0)
 t57:tm.get [true,false,true,false,false]=some (A0 ops.length)
 t58:tm.get [false,false,true,false,false]=some (A0 i)
 rd1:Rd H c1 l1 (dB (ops.drop i))
 rd2:Rd H c2 l2 (dF (ops.drop i))
 r3:p8 H b3 1 4 [.bool false]
 wf:Wf H
 fr:Fr (fun _=>False) h H
 low:lo≤H.next
 st:∃ ov ps,p8 H b2 4 30 (cQ false n m ov)∧oT H ov ps lo∧ps.map (·.1)=ops.take i
theorem aK7 {ops:List eJ} {i:Nat} {x:eJ} (h:ops[i]?=some x):dB (ops.drop i)=x.code++dB (ops.drop (i+1))∧dF (ops.drop i)=x.data++dF (ops.drop (i+1)):=by
 have hi:=(List.getElem?_eq_some_iff.1 h).1
 have e:=(List.getElem?_eq_some_iff.1 h).2
 rw [List.drop_eq_getElem_cons hi,e]
 exact ⟨by simp [dB],by simp [dF]⟩
theorem aK8 {call:Call} (hpop:aSV call) {v:Value} {b2 b3 c1 c2 l1 l2 n m lo:Nat} {ops:List eJ} {h:Hp} (hw:Wf h) (hok:∀ o∈ops,eJ.Ok o) (hnum:ops.length≤100) (hb:h.next≤b2∧h.next≤b3∧h.next≤c1∧h.next≤c2∧b2≠b3∧b2≠c1∧b2≠c2∧b3≠c1∧b3≠c2∧c1≠c2∧l2≠c1∧l1≠c2∧l1<lo∧l2<lo∧b2<lo∧b3<lo∧c1<lo∧c2<lo) {tm:T Value} {df:Df} {H:Hp} (hst:PrL v b2 b3 c1 c2 l1 l2 n m ops lo h 0 tm df H) :
 bC (iP (.loop sU) call tm df H) (fun ex tm df H=>ex=.exit 0∧PrL v b2 b3 c1 c2 l1 l2 n m ops lo h ops.length tm df H):=by
 obtain ⟨hb2,hb3,hc1,hc2,n23,n2c1,n2c2,n3c1,n3c2,n12,hl2,hl1,l1lo,l2lo,b2lo,b3lo,c1lo,c2lo⟩:=hb
 refine cT (n:=ops.length) (by omega) (PrL v b2 b3 c1 c2 l1 l2 n m ops lo h) (fun i tm df H hi hI=>?_) (fun tm df H hI=>?_) hst
 · obtain ⟨rfl,t2,t3,t10,t11,t57,t58,rd1,rd2,r3,wf,fr,hlo,⟨ov,ps,⟨hvl,c7,a7,hc7⟩,hops,hps⟩⟩:=hI
   obtain ⟨x,hx⟩:∃ x,ops[i]?=some x:=⟨ops[i],List.getElem?_eq_getElem hi⟩
   obtain ⟨ec,ed⟩:=aK7 hx
   rw [ec] at rd1
   rw [ed] at rd2
   have l7:=wf.lt a7
   have hwb:=hw.base
   have hHbn:=wf.base
   have hHb:H.base=h.base:=fr.base
   have hpl:ps.length≤100:=by
    have:=congrArg List.length hps
    rw [List.length_map,List.length_take] at this
    omega
   obtain ⟨r,H',eo,⟨dv,rfl,d1,d2⟩,rd1',rd2',wf',fr'⟩:=(hpop (aS H H.next []) x c1 c2 l1 l2 (dB (ops.drop (i+1))) (dF (ops.drop (i+1))) (wf.sb []) (hok x (List.mem_of_getElem? hx)) (rd1.bT fun _ _=>rfl) (rd2.bT fun _ _=>rfl) (by rw [cL];omega) (by rw [cL];omega) n12 hl2 hl1 (by rw [cL];omega) (by rw [cL];omega)).get
   have nH':H.next≤H'.next:=fr'.next
   have bH':H'.base=H.next:=fr'.base
   have lH':∀ y∈H'.log,y=c1∨y=c2:=fun y hy=>by
    rcases fr'.ls y hy with h|h
    · cases h
    · exact h
   have fHH':∀ c,c<H.next→c≠c1→c≠c2→H'.at c=H.at c:=fun c hc h1 h2=>fr'.at_ c hc fun h=>h.elim h1 h2
   have wfK:Wf (aS H' H.base H.log):=wf'.Iq (by omega) _
   have hopsK:oT (aS H' H.base H.log) ov ps lo:=hops.bT wf fun c h1 hc=>fHH' c hc (by omega) (by omega)
   obtain ⟨v',Z,happ,hopsZ,wZ,fZ,nZ,hv1⟩:=Nf (x:=x) wfK hopsK (by rw [cL];omega) (by rw [mL,hHb];omega) (by omega) d1 fun c h0 hc=>⟨by have:=(d2 h0 c hc).1;rw [cL] at this;omega,fun h0' hb=>by
    have h1:=(d2 h0 c hc).1
    rw [cL] at h1
    have h2:=hops.lt wf h0' hb
    omega⟩
   rw [cL] at happ nZ
   have happ':∀ n g,aS ((aS H' H.base H.log).new (aT (fW x.kind x.from_ x.len x.b dv) 5 68 true)) n g=aS (H'.new (aT (fW x.kind x.from_ x.len x.b dv) 5 68 true)) n g:=fun n g=>rfl
   simp only [happ'] at happ
   have atZ:∀ c,c<lo→c≠c1→c≠c2→Z.at c=H.at c:=fun c hc h1 h2=>by
    rw [fZ.at_ c (by rw [cL];omega) (by omega),dM,fHH' c (by omega) h1 h2]
   have aZ7:Z.at b2=some (.row c7 4 30 true false):=by rw [atZ b2 b2lo n2c1 n2c2];exact a7
   have l7Z:=wZ.lt aZ7
   have bZ:Z.base=H.base:=fZ.base
   have lZ:Z.log=H.log:=fZ.log
   have g1:Nat.blt i ops.length=true:=bU hi
   have g7:c7.get (path (0+3))=some ov:=by rw [Nat.zero_add,hc7 3 (by decide)];rfl
   have w1:aR .i64 (.ofNat (i+1))=.ofNat (i+1):=bF (by omega)
   have k1:Nat.beq b2 b2=true:=Nat.beq_refl _
   have k3:comp Bl 1 8=true:=by decide
   have k4:∀ l,below H.base [b2] l=l:=fun l=>Ld (by omega)
   have k5:jN (H'.next+2) [] b2=[b2]:=kQ (by omega)
   have k6:Nat.ble H.next b2=false:=eN l7
   have k7:Nat.ble H'.next b2=false:=eN (by omega)
   have k8:Nat.ble (H'.next+1) b2=false:=eN (by omega)
   have kb:below H.base H'.log H.log=H.log:=zY fun y hy=>by rcases lH' y hy with h|h<;>omega
   have kal:∀ own ws,allowed (comp Bl) 4 true own ⟨[],[(1,b2)],ws⟩ H'.log=true:=fun own ws=>tA fun y hy=>by
    have hne:Nat.beq b2 y=false:=dO (by rcases lH' y hy with h|h<;>omega)
    rw [Pw]
    show (bif true then (bif (bif Nat.beq b2 y then _ else true) then true else false) else false)=true
    rw [hne];rfl
   have x5:(fW x.kind x.from_ x.len x.b dv).length=5:=rfl
   have eo':call 53 [bE c1 0,bE c2 0] (aS H H.next [])=.val (.agg ⟨fW x.kind x.from_ x.len x.b dv⟩) H':=eo
   have hgoal:∀ tm',tm'.get [false]=some (bE b2 0)→tm'.get [true,true]=some (bE b3 0)→tm'.get [false,false,true]=some (bE c1 0)→tm'.get [true,true,false]=some (bE c2 0)→tm'.get [true,false,true,false,false]=some (A0 ops.length)→tm'.get [false,false,true,false,false]=some (A0 (i+1))→yJ (PrL v b2 b3 c1 c2 l1 l2 n m ops lo h) (fun ex tm df H=>ex=.exit 0∧PrL v b2 b3 c1 c2 l1 l2 n m ops lo h ops.length tm df H) i .normal tm' [(49,[bE b3 0])] (aS (Z.put b2 (some (.row (aL [v'] (0+3) c7 fun t=>t) 4 30 true false))) H.base H.log):=by
    intro tm' q2 q3 q10 q11 q57 q58
    have fK:Fr (fun c=>lo≤c∨c=b2∨c=c1∨c=c2) H (aS H' H.base H.log):=⟨rfl,rfl,nH',fun c hc hn=>fHH' c hc (fun h=>hn (.inr (.inr (.inl h)))) fun h=>hn (.inr (.inr (.inr h)))⟩
    have fY:Fr (fun c=>lo≤c∨c=b2∨c=c1∨c=c2) H (Z.put b2 (some (.row (aL [v'] (0+3) c7 fun t=>t) 4 30 true false))):=(fK.trans (fZ.mono (Q:=fun c=>lo≤c∨c=b2∨c=c1∨c=c2) fun _ _ h=>.inl h) fun _ _ h=>h).cJ _ (fun _=>.inr (.inl rfl)) (by omega)
    rw [aBP fY]
    have atY:∀ c,c<H'.next→c<lo∨¬ lo≤c→c≠b2→(Z.put b2 (some (.row (aL [v'] (0+3) c7 fun t=>t) 4 30 true false))).at c=H'.at c:=fun c hc hlc hn=>by
     rw [aJ,if_neg (fun e=>hn e.symm),fZ.at_ c (by rw [cL];exact hc) (by omega),dM]
    refine .go ⟨rfl,q2,q3,q10,q11,q57,q58,rd1'.aQ3 (atY c1 (by omega) (.inl c1lo) (fun e=>n2c1 e.symm)) fun c o y hc hh=>?_,rd2'.aQ3 (atY c2 (by omega) (.inl c2lo) (fun e=>n2c2 e.symm)) fun c o y hc hh=>?_,r3.bT ?_,wZ.put l7Z _,?_,by rw [aV];omega,⟨v',ps++[(x,dv)],uR (i:=3) hvl hc7 (by decide) (by rw [aJ,if_pos rfl]),?_,?_⟩⟩
    · by_cases e:c=b2
      · subst e
        exact (aK6 (by rw [fHH' c l7 n2c1 n2c2];exact a7) hc7 hops.aQ4 hh).elim
      · exact atY c (by omega) (by omega) e
    · by_cases e:c=b2
      · subst e
        exact (aK6 (by rw [fHH' c l7 n2c1 n2c2];exact a7) hc7 hops.aQ4 hh).elim
      · exact atY c (by omega) (by omega) e
    · rw [aJ,if_neg n23];exact atZ b3 b3lo n3c1 n3c2
    · exact fr.trans fY fun c hc h=>by rcases h with h|h|h|h<;>omega
    · exact hopsZ.bT wZ fun c hc _=>by rw [aJ,if_neg (by omega)]
    · rw [List.map_append,qC hx,hps];rfl
   unfold fW at eo' happ x5
   unfold sU
   rcases happ with happ|⟨bo,hb1,hb2',hb3',happ⟩
   · simp only [↓aQ,NV,reduceCtorEq,oS,pQ,t2,t10,t11,t57,t58,g1,g7,a7,w1,eo',kb,kal,bH',zA,gE,happ,x5,nZ,bZ,lZ,aZ7,k1,k3,k4,k5,k6,k7,k8,hv1]
     exact hgoal _ (by simp [t2]) (by simp [t3]) (by simp [t10]) (by simp [t11]) (by simp [t57]) (by simp)
   · have k9:jN (H'.next+1) [] bo=[bo]:=kQ (by omega)
     have k10:∀ l,below H.base [bo] l=l:=fun l=>Ld (by omega)
     have k12:Nat.beq b2 bo=false:=dO (by omega)
     have k13:Nat.ble H'.next bo=false:=eN hb2'
     have hbH:bo<H.next:=hops.lt wf hb3'.1 hb3'.2
     have k14:Nat.ble H.next bo=false:=eN hbH
     simp only [↓aQ,NV,reduceCtorEq,oS,pQ,t2,t10,t11,t57,t58,g1,g7,a7,w1,eo',kb,kal,bH',zA,gE,happ,x5,nZ,bZ,lZ,aZ7,k1,k3,k4,k5,k6,k7,k8,k9,k10,k12,k13,k14,hv1]
     exact hgoal _ (by simp [t2]) (by simp [t3]) (by simp [t10]) (by simp [t11]) (by simp [t57]) (by simp)
 · obtain ⟨rfl,t2,t3,t10,t11,t57,t58,rd1,rd2,r3,wf,fr,hlo,st⟩:=hI
   have e1:Nat.blt ops.length ops.length=false:=cI (Nat.le_refl _)
   unfold sU
   simp only [↓aQ,NW,reduceCtorEq,t57,t58,e1]
   exact .ex ⟨rfl,rfl,by simp [t2],by simp [t3],by simp [t10],by simp [t11],by simp [t57],by simp [t58],rd1,rd2,r3,wf,fr,hlo,st⟩
def aEk (call:Call) (n:Nat):Prop:=∀ H cv text,Wf H→iL H cv (Rc.enc (cU n) text)→text.length≤1000→(∀ x∈text,x<256)→Yields (call 52 [A0 n,cv,A0 text.length] H) (aD7 text H)
theorem It.eH {v:Value} {b2 b3 b4:Nat} {vs:List Value} {xs:List Nat} {h:Hp} {tm:T Value} {df:Df} {H H':Hp} (hp:It v b2 b3 b4 vs xs h tm df H) (hw:Wf h) (hb4:b4<H.next) (wf':Wf H') (f:Fr (fun _=>False) H H'):It v b2 b3 b4 vs xs h tm df H':=by
 obtain ⟨hdf,t0,t2,t3,t4,r2,r3,rd,ord,wf,fr⟩:=hp
 have nx:=fr.next
 exact ⟨hdf,t0,t2,t3,t4,r2.bT (f.at_ _ (r2.lt wf) fun h=>h),r3.bT (f.at_ _ (r3.lt wf) fun h=>h),rd.bT fun c hc=>f.at_ c (by have:=rd.lo;rcases hc with h|h<;>omega) fun h=>h,ord,wf',fr.trans f fun _ _ h=>h⟩
theorem RdO.aSX {h:Hp} {bx lo:Nat} {xs:List Nat} (hr:RdO h bx lo xs) (hw:Wf h):bx<h.next:=by
 obtain ⟨h2,⟨v,⟨c,e',cl,hat,hc⟩,h4,h5⟩,h6⟩:=hr
 exact hw.lt hat
theorem aD7.rd {text:List Nat} {h:Hp} {r:Value} {H:Hp} (hp:aD7 text h r H) (hb:∀ x∈text,x<256):∃ bx lo,r=bE bx 0∧h.next≤bx∧bx<H.next∧h.next≤lo∧lo<H.next∧Rd H bx lo text∧Wf H∧Fr (fun _=>False) h H:=by
 obtain ⟨bx,v,rfl,h1,h2,h3,h4,h5,h6,h7⟩:=hp
 obtain ⟨b,o,c,rfl,g1,g2,g3⟩:=id h4
 have hb':=h5 b ⟨_,_,_,rfl⟩
 exact ⟨bx,b,rfl,h1,h2,hb'.1,by omega,⟨hb,⟨_,h3,h4,fun c hc=>fB hc⟩,by omega⟩,h6,h7⟩
theorem aSY {n:Nat} {p q:List Bool} {tm:T Value} {h:Hp} {b b':Nat} {c c':T Value} {m m':Nat} {e e':TypeId} {cl ro cl' ro':Bool} {l:List Value} {w:Value} (ht:tm.get p=some (bE b 0)) (hat:h.at b=some (.row c m e cl ro)) (hm:n≤m) (hl:cR c 0 n []=some l) (ht':tm.get q=some (bE b' 0)) (hat':h.at b'=some (.row c' m' e' cl' ro')) (hm':0<m') (hl':c'.get (path 0)=some w):Hr [.cell true n p,.cell false 1 q] tm h=.val (.tuple ⟨[.agg ⟨l⟩,w]⟩) h:=by
 have e1:Ae (.cell true n p) tm h=some (.agg ⟨l⟩):=uM ht hat hm hl
 have e2:Ae (.cell false 1 q) tm h=some w:=by
  show kO (pS (tm.get q)) (fun b o=>pU h b (fun c n _ _ _=>bif Nat.blt o n then c.get (path o) else none) none) none=_
  rw [ht']
  show pU h b' (fun c n _ _ _=>bif Nat.blt 0 n then c.get (path 0) else none) none=_
  rw [Se,hat',rH,Az,bU hm',cond_true,hl']
 show eC (eC (Ae (.cell true n p) tm h) (fun v=>eC (eC (Ae (.cell false 1 q) tm h) (fun v=>some [v]) none) (fun l=>some (v::l)) none) none) _ _=_
 rw [e1,e2];rfl
def aK9 (n m:Nat) (ops:List eJ) (h:Hp) (r:Value) (H:Hp):Prop:=∃ ov,r=.tuple ⟨[.agg ⟨cQ false n m ov⟩,.bool true]⟩∧gD H ov ops (fun c=>h.next≤c)∧Wf H∧Fr (fun _=>False) h H
theorem aLa (n m:Nat) (ops:List eJ):gF n m ops=be 1 80++(be 1 0++(be 3 n++(be 3 m++(be 2 ops.length++(be 3 (dB ops).length++(be 3 (Rc.enc (cU 1) (dB ops)).length++(be 3 (dF ops).length++(be 3 (Rc.enc (cU 2) (dF ops)).length++(Rc.enc (cU 1) (dB ops)++(Rc.enc (cU 2) (dF ops)++Ag (gK n m ops))))))))))):=by
 unfold gF
 conv=>lhs;arg 1;unfold gK xK
 simp only [List.append_assoc]
theorem Ni (n m:Nat) (ops:List eJ):∀ x∈gF n m ops,x<256:=by
 intro x hx
 rcases List.mem_append.1 hx with h|h
 · exact wV n m ops x h
 · unfold Ag zS at h
   obtain ⟨y,_,h2⟩:=List.mem_flatMap.1 h
   exact qN _ _ x h2
theorem Gz (n m:Nat) (ops:List eJ):(gF n m ops).length=22+(Rc.enc (cU 1) (dB ops)).length+(Rc.enc (cU 2) (dF ops)).length+4:=by
 unfold gF gK
 rw [List.length_append,List.length_append,List.length_append,Gy,uS]
theorem aGd {call:Call} {cd:cE} (hN:aEj call) (hT:Ao call RO) (hD1:aEk call 1) (hD2:aEk call 2) (hpop:aSV call) (hcd:∀ b H,cd 49 [bE b 0] .ret H=.ok .ret H) {h:Hp} {n m:Nat} {ops:List eJ} {v:Value} (hw:Wf h) (hp:kF.Ok n m ops) (hv:RO h v (gF n m ops)) :
 Yields (dD Lx call cd [v] h) (aK9 n m ops h):=by
 have hnum:=hp.num
 have hn:=hp.n
 have hm:=hp.m
 have hcl:=qT ops
 have hdl:=qU ops hp.rt
 have hout0:=hp.out
 have hla:(Rc.enc (cU 1) (dB ops)).length≤4*(dB ops).length+4:=s9
 have hlb:(Rc.enc (cU 2) (dF ops)).length≤4*(dF ops).length+4:=s9
 have hwb:=hw.base
 have hbyte:=Ni n m ops
 have hlen:=Gz n m ops
 obtain ⟨bv,ov0,rfl,hv0,hv1,hv2⟩:=id hv
 have hbv:=hv2.lt hw
 have hXe:=aLa n m ops
 have hsl:=uS (gK n m ops)
 generalize hA:Rc.enc (cU 1) (dB ops)=A at *
 generalize hB:Rc.enc (cU 2) (dF ops)=B at *
 generalize hS:Ag (gK n m ops)=S at *
 generalize hX:gF n m ops=X at *
 refine Er (g:=49) (a:=[bE (h.next+1) 0]) rfl ?_
 obtain ⟨K,hK⟩:∃ K,((h.new (aT D5 4 30 true)).new (aT [.bool false] 1 4 true)).new (aT [cB bv ov0 X.length (cM 1 X.length)] 1 132 true)=K:=⟨_,rfl⟩
 have wK:Wf K:=by rw [← hK];exact ((hw.new _).new _).new _
 have fK:Fr (fun _=>False) h K:=by rw [← hK];exact ((Fr.new _).dE _).dE _
 have nK:K.next=h.next+3:=by rw [← hK];rfl
 have a2:K.at h.next=some (aT D5 4 30 true):=by rw [← hK,aM,aF,aF,if_neg (by omega),aM,aF,if_neg (by omega),aM,if_pos rfl]
 have a3:K.at (h.next+1)=some (aT [.bool false] 1 4 true):=by rw [← hK,aM,aF,aF,if_neg (by omega),aM,aF,if_pos rfl]
 have a4:K.at (h.next+2)=some (aT [cB bv ov0 X.length (cM 1 X.length)] 1 132 true):=by rw [← hK,aM,aF,aF,if_pos rfl]
 have row2:p8 K h.next 4 30 D5:=⟨rfl,_,a2,fun j hj=>by rw [bM,if_pos ⟨Nat.zero_le _,by show j<0+4;omega⟩,Nat.sub_zero]⟩
 have row3:p8 K (h.next+1) 1 4 [.bool false]:=⟨rfl,_,a3,fun j hj=>by rw [bM,if_pos ⟨Nat.zero_le _,by show j<0+1;omega⟩,Nat.sub_zero]⟩
 have rd0:RdO K (h.next+2) h.next (be 1 80++(be 1 0++(be 3 n++(be 3 m++(be 2 ops.length++(be 3 (dB ops).length++(be 3 A.length++(be 3 (dF ops).length++(be 3 B.length++(A++(B++S))))))))))):=⟨by rw [← hXe];exact hbyte,⟨cB bv ov0 X.length (cM 1 X.length),⟨_,_,_,a4,by rw [bM,if_pos ⟨Nat.le_refl _,by simp⟩];rfl⟩,by rw [← hXe];exact hv.bT fun c _ hc=>fK.at_ c (by rw [fB hc];exact hbv) fun h=>h,fun c hc=>by rw [fB hc];exact hbv⟩,by omega⟩
 have S0:∀ tm',tm'.get []=some (cB bv ov0 X.length (cM 1 X.length))→tm'.get [false]=some (bE h.next 0)→tm'.get [true,true]=some (bE (h.next+1) 0)→tm'.get [false,true]=some (bE (h.next+2) 0)→It (cB bv ov0 X.length (cM 1 X.length)) h.next (h.next+1) (h.next+2) D5 (be 1 80++(be 1 0++(be 3 n++(be 3 m++(be 2 ops.length++(be 3 (dB ops).length++(be 3 A.length++(be 3 (dF ops).length++(be 3 B.length++(A++(B++S))))))))))) h tm' [(49,[bE (h.next+1) 0])] K:=fun tm' q0 q2 q3 q4=>⟨rfl,q0,q2,q3,q4,row2,row3,rd0,⟨by omega,by omega,by omega,by omega,by omega⟩,wK,fK⟩
 refine bC.seq (φ:=fun tm' df' H'=>df'=[]∧H'=(h.new (aT D5 4 30 true)).new (aT [.bool false] 1 4 true)∧tm'.get []=some (cB bv ov0 X.length (cM 1 X.length))∧tm'.get [false]=some (bE h.next 0)∧tm'.get [true,true]=some (bE (h.next+1) 0)) ?_ ?_
 · simp only [↓aQ,NW,reduceCtorEq]
   exact ⟨rfl,rfl,rfl,by simp [dQ],by simp,by simp⟩
 rintro tm1 Vw H1 ⟨rfl,rfl,t0,t2,t3⟩
 refine bC.seq (φ:=fun tm' df' H'=>df'=[(49,[bE (h.next+1) 0])]∧H'=(h.new (aT D5 4 30 true)).new (aT [.bool false] 1 4 true)∧tm'.get []=some (cB bv ov0 X.length (cM 1 X.length))∧tm'.get [false]=some (bE h.next 0)∧tm'.get [true,true]=some (bE (h.next+1) 0)) ?_ ?_
 · simp only [↓aQ,NW,reduceCtorEq,aK5,Lz,aJG,t3,List.nil_append]
   exact ⟨rfl,rfl,rfl,t0,t2,t3⟩
 clear t0 t2 t3
 rintro tm2 df2 H2 ⟨rfl,rfl,t0,t2,t3⟩
 refine bC.seq (φ:=fun tm' df' H'=>It (cB bv ov0 X.length (cM 1 X.length)) h.next (h.next+1) (h.next+2) D5 (be 1 80++(be 1 0++(be 3 n++(be 3 m++(be 2 ops.length++(be 3 (dB ops).length++(be 3 A.length++(be 3 (dF ops).length++(be 3 B.length++(A++(B++S))))))))))) h tm' df' H') ?_ ?_
 · simp only [↓aQ,NW,reduceCtorEq,t0,Mc,hK]
   exact ⟨rfl,S0 _ (by simp [t0]) (by simp [t2]) (by simp [t3]) (by simp)⟩
 clear t0 t2 t3
 rintro tm3 df3 H3 hS
 obtain ⟨r1,G1,e1,_,_,s1,_⟩:=hS.take hT hw (by simp;omega)
 have e1':call 50 [bE (h.next+2) 0,A0 1] H3=.val r1 G1:=e1
 refine bC.seq (φ:=fun tm' df' H'=>It (cB bv ov0 X.length (cM 1 X.length)) h.next (h.next+1) (h.next+2) D5 (be 1 0++(be 3 n++(be 3 m++(be 2 ops.length++(be 3 (dB ops).length++(be 3 A.length++(be 3 (dF ops).length++(be 3 B.length++(A++(B++S)))))))))) h tm' df' H') ?_ ?_
 · have t4:=hS.t4
   simp only [↓aQ,NW,reduceCtorEq,t4,e1']
   exact ⟨rfl,s1 _ (by simp [hS.t0]) (by simp [hS.t2]) (by simp [hS.t3]) (by simp [t4])⟩
 clear hS s1 e1 e1'
 rintro tm4 df4 H4 hS
 obtain ⟨G1,e1,s1,k1⟩:=hS.num hN hw (by decide) (by decide) (by simp;omega)
 refine bC.seq (φ:=fun tm' df' H'=>It (cB bv ov0 X.length (cM 1 X.length)) h.next (h.next+1) (h.next+2) (D5.set 0 (.bool false)) (be 3 n++(be 3 m++(be 2 ops.length++(be 3 (dB ops).length++(be 3 A.length++(be 3 (dF ops).length++(be 3 B.length++(A++(B++S))))))))) h tm' df' H') ?_ ?_
 · obtain ⟨hvl,c2,ac2,hc2⟩:=hS.r2
   have t4:=hS.t4
   have t2:=hS.t2
   have aG:G1.at h.next=some (.row c2 4 30 true false):=by rw [k1];exact ac2
   have q1:Nat.beq 0 1=false:=rfl
   simp only [↓aQ,NW,reduceCtorEq,pQ,t2,t4,e1,q1,aG]
   exact ⟨rfl,((s1 tm4 hS.t0 hS.t2 hS.t3 hS.t4).put hw hc2 (j:=0) (x:=.bool false) (by decide)).re (by simp [hS.t0]) (by simp [t2]) (by simp [hS.t3]) (by simp [t4])⟩
 clear hS s1 e1 k1
 rintro tm5 df5 H5 hS
 obtain ⟨G1,e1,s1,k1⟩:=hS.num hN hw (by have h0:n<16777216:=(by omega);exact h0) (by decide) (by simp;omega)
 obtain ⟨G2,e2,s2,k2⟩:=(s1 tm5 hS.t0 hS.t2 hS.t3 hS.t4).num hN hw (by have h0:m<16777216:=(by omega);exact h0) (by decide) (by simp;omega)
 refine bC.seq (φ:=fun tm' df' H'=>It (cB bv ov0 X.length (cM 1 X.length)) h.next (h.next+1) (h.next+2) (((D5.set 0 (.bool false)).set 1 (A0 n)).set 2 (A0 m)) (be 2 ops.length++(be 3 (dB ops).length++(be 3 A.length++(be 3 (dF ops).length++(be 3 B.length++(A++(B++S))))))) h tm' df' H') ?_ ?_
 · obtain ⟨hvl,c2,ac2,hc2⟩:=hS.r2
   have t4:=hS.t4
   have t2:=hS.t2
   have aG:G2.at h.next=some (.row c2 4 30 true false):=by rw [k2,k1];exact ac2
   have p1:=(s2 tm5 hS.t0 hS.t2 hS.t3 hS.t4).put hw hc2 (j:=1) (x:=A0 n) (by decide)
   obtain ⟨hvl2,c3,ac3,hc3⟩:=p1.r2
   rw [aJ,if_pos rfl] at ac3
   cases ac3
   have p2:=p1.put hw hc3 (j:=2) (x:=A0 m) (by decide)
   simp only [↓aQ,NW,reduceCtorEq,pQ,t2,t4,e1,e2,aG]
   exact ⟨rfl,p2.re (by simp [hS.t0]) (by simp [t2]) (by simp [hS.t3]) (by simp [t4])⟩
 clear hS s1 e1 k1 s2 e2 k2
 rintro tm6 df6 H6 hS
 have hpat:((D5.set 0 (.bool false)).set 1 (A0 n)).set 2 (A0 m)=cQ false n m (.slice none 0 0):=rfl
 rw [hpat] at hS
 obtain ⟨G1,e1,s1,k1⟩:=hS.num hN hw (by have h0:ops.length<65536:=(by omega);exact h0) (by decide) (by simp;omega)
 refine bC.seq (φ:=fun tm' df' H'=>It (cB bv ov0 X.length (cM 1 X.length)) h.next (h.next+1) (h.next+2) (cQ false n m (.slice none 0 0)) (be 3 (dB ops).length++(be 3 A.length++(be 3 (dF ops).length++(be 3 B.length++(A++(B++S)))))) h tm' df' H'∧tm'.get [true,false]=some (A0 ops.length)) ?_ ?_
 · have t4:=hS.t4
   simp only [↓aQ,NW,reduceCtorEq,t4,e1]
   exact ⟨rfl,s1 _ (by simp [hS.t0]) (by simp [hS.t2]) (by simp [hS.t3]) (by simp [t4]),by simp⟩
 clear hS s1 e1 k1
 rintro tm7 df7 H7 ⟨hS,t5⟩
 obtain ⟨G1,e1,s1,_⟩:=hS.num hN hw (by have h0:(dB ops).length<16777216:=(by omega);exact h0) (by decide) (by simp;omega)
 obtain ⟨G2,e2,s2,_⟩:=(s1 tm7 hS.t0 hS.t2 hS.t3 hS.t4).num hN hw (by have h0:A.length<16777216:=(by omega);exact h0) (by decide) (by simp;omega)
 obtain ⟨G3,e3,s3,_⟩:=(s2 tm7 hS.t0 hS.t2 hS.t3 hS.t4).num hN hw (by have h0:(dF ops).length<16777216:=(by omega);exact h0) (by decide) (by simp;omega)
 obtain ⟨G4,e4,s4,_⟩:=(s3 tm7 hS.t0 hS.t2 hS.t3 hS.t4).num hN hw (by have h0:B.length<16777216:=(by omega);exact h0) (by decide) (by simp;omega)
 refine bC.seq (φ:=fun tm' df' H'=>It (cB bv ov0 X.length (cM 1 X.length)) h.next (h.next+1) (h.next+2) (cQ false n m (.slice none 0 0)) (A++(B++S)) h tm' df' H'∧tm'.get [true,false]=some (A0 ops.length)∧tm'.get [false,false]=some (A0 ((dB ops).length))∧tm'.get [true,true,true]=some (A0 A.length)∧tm'.get [false,true,true]=some (A0 ((dF ops).length))∧tm'.get [true,false,true]=some (A0 B.length)) ?_ ?_
 · have t4:=hS.t4
   simp only [↓aQ,NW,reduceCtorEq,t4,e1,e2,e3,e4]
   exact ⟨rfl,s4 _ (by simp [hS.t0]) (by simp [hS.t2]) (by simp [hS.t3]) (by simp [t4]),by simp [t5],by simp,by simp,by simp,by simp⟩
 clear hS s1 e1 s2 e2 s3 e3 s4 e4 t5
 rintro tm8 df8 H8 ⟨hS,t5,t6,t7,t8,t9⟩
 refine bC.seq (φ:=fun tm' df' H'=>It (cB bv ov0 X.length (cM 1 X.length)) h.next (h.next+1) (h.next+2) (cQ false n m (.slice none 0 0)) (A++(B++S)) h tm' df' H'∧tm'.get [true,false]=some (A0 ops.length)∧tm'.get [false,false]=some (A0 ((dB ops).length))∧tm'.get [true,true,true]=some (A0 A.length)∧tm'.get [false,true,true]=some (A0 ((dF ops).length))∧tm'.get [true,false,true]=some (A0 B.length)) ?_ ?_
 · have q0:=hS.t0
   have w1:aR .i64 (.ofNat (22+A.length))=.ofNat (22+A.length):=bF (by omega)
   have w2:aR .i64 (.ofNat (22+A.length+B.length))=.ofNat (22+A.length+B.length):=bF (by omega)
   have w3:aR .i64 (.ofNat (22+A.length+B.length+4))=.ofNat (22+A.length+B.length+4):=bF (by omega)
   have q1:Nat.beq X.length (22+A.length+B.length+4)=true:=by rw [hlen];exact Nat.beq_refl _
   simp only [↓aQ,NW,reduceCtorEq,q0,t7,t9,w1,w2,w3,q1]
   exact ⟨rfl,hS.re (by simp [q0]) (by simp [hS.t2]) (by simp [hS.t3]) (by simp [hS.t4]),by simp [t5],by simp [t6],by simp [t7],by simp [t8],by simp [t9]⟩
 clear hS t5 t6 t7 t8 t9
 rintro tm9 df9 H9 ⟨hS,t5,t6,t7,t8,t9⟩
 obtain ⟨r1,G1,e1,ra1,rb1,s1,_⟩:=hS.take hT hw (by simp;omega)
 have S1:=s1 tm9 hS.t0 hS.t2 hS.t3 hS.t4
 obtain ⟨pv,G2,e2,hpd⟩:=(hD1 G1 r1 (dB ops) S1.wf (by rw [hA];exact ra1) (by omega) (wS ops)).get
 obtain ⟨c1,l1,rfl,x1,x2,x3,x4,rd1,w2,f2⟩:=hpd.rd (wS ops)
 have S2:=S1.eH hw (S1.rd.aSX S1.wf) w2 f2
 refine bC.seq (φ:=fun tm' df' H'=>It (cB bv ov0 X.length (cM 1 X.length)) h.next (h.next+1) (h.next+2) (cQ false n m (.slice none 0 0)) (B++S) h tm' df' H'∧H'=G2∧tm'.get [true,false]=some (A0 ops.length)∧tm'.get [false,true,true]=some (A0 ((dF ops).length))∧tm'.get [true,false,true]=some (A0 B.length)∧tm'.get [false,false,true]=some (bE c1 0)) ?_ ?_
 · have t4:=hS.t4
   simp only [↓aQ,NW,reduceCtorEq,t4,t6,t7,e1,e2]
   exact ⟨rfl,S2.re (by simp [hS.t0]) (by simp [hS.t2]) (by simp [hS.t3]) (by simp [t4]),rfl,by simp [t5],by simp [t8],by simp [t9],by simp⟩
 have nG1:=S1.fr.next
 have nG2:=f2.next
 have hl4:h.next+2<G1.next:=S1.rd.aSX S1.wf
 clear hS t5 t6 t7 t8 t9 s1 e1 e2 S2 S1
 rintro tm10 df10 H10 ⟨hS,rfl,t5,t8,t9,t10⟩
 obtain ⟨r2,G3,e1,ra2,rb2,s1,fT⟩:=hS.take hT hw (by omega)
 have S1:=s1 tm10 hS.t0 hS.t2 hS.t3 hS.t4
 obtain ⟨pv,G4,e2,hpd⟩:=(hD2 G3 r2 (dF ops) S1.wf (by rw [hB];exact ra2) (by omega) (wT hp.rt)).get
 obtain ⟨c2,l2,rfl,y1,y2,y3,y4,rd2,w4,f4⟩:=hpd.rd (wT hp.rt)
 have S2:=S1.eH hw (S1.rd.aSX S1.wf) w4 f4
 have nG3:=fT.next
 have nG4:=f4.next
 have rd1':Rd G4 c1 l1 (dB ops):=rd1.bT fun c hc=>by
  have hcl:c<H10.next∧c≠h.next+2:=by rcases hc with h|h<;>omega
  rw [f4.at_ c (by omega) fun h=>h,fT.at_ c hcl.1 hcl.2]
 refine bC.seq (φ:=fun tm' df' H'=>It (cB bv ov0 X.length (cM 1 X.length)) h.next (h.next+1) (h.next+2) (cQ false n m (.slice none 0 0)) S h tm' df' H'∧H'=G4∧tm'.get [true,false]=some (A0 ops.length)∧tm'.get [false,false,true]=some (bE c1 0)∧tm'.get [true,true,false]=some (bE c2 0)) ?_ ?_
 · have t4:=hS.t4
   simp only [↓aQ,NW,reduceCtorEq,t4,t8,t9,e1,e2]
   exact ⟨rfl,S2.re (by simp [hS.t0]) (by simp [hS.t2]) (by simp [hS.t3]) (by simp [t4]),rfl,by simp [t5],by simp [t10],by simp⟩
 clear hS t5 t8 t9 t10 s1 e1 e2 S2 S1
 rintro tm11 df11 H11 ⟨hS,rfl,t5,t10,t11⟩
 refine bC.seq (φ:=fun tm' df' H'=>PrL (cB bv ov0 X.length (cM 1 X.length)) h.next (h.next+1) c1 c2 l1 l2 n m ops H11.next h ops.length tm' df' H') ?_ ?_
 · refine bC.seq (φ:=fun tm' df' H'=>H'=H11∧PrL (cB bv ov0 X.length (cM 1 X.length)) h.next (h.next+1) c1 c2 l1 l2 n m ops H11.next h 0 tm' df' H') ?_ ?_
   · obtain ⟨rfl,q0,q2,q3,q4,r2,r3,rd,ord,wf,fr⟩:=hS
     simp only [↓aQ,NW,reduceCtorEq,t5]
     exact ⟨rfl,rfl,rfl,by simp [q2],by simp [q3],by simp [t10],by simp [t11],by simp,by simp,rd1',rd2,r3,wf,fr,Nat.le_refl _,_,[],r2,oT.nil,rfl⟩
   rintro tm12 df12 H12 ⟨rfl,hL⟩
   exact bC.Be ((aK8 hpop hw (fun o ho=>(hp.rt o ho).ok) (by omega) ⟨by omega,by omega,by omega,by omega,by omega,by omega,by omega,by omega,by omega,by omega,by omega,by omega,by omega,by omega,by omega,by omega,by omega,by omega⟩ hL).mono fun ex tm df H hh=>⟨hh.1,hh.2⟩)
 clear hS t5 t10 t11
 rintro tm12 df12 H12 ⟨rfl,t2,t3,t10,t11,t57,t58,_,_,⟨hl3,c3,a3',hc3⟩,wf,fr,hlo,⟨ov,ps,⟨hvl,c7,a7,hc7⟩,hops,hps⟩⟩
 rw [List.take_length] at hps
 have hld:=Ep hvl hc7
 have hal:=iT (li:=false) (n:=n) (m:=m) hops.one
 have hl4:(cQ false n m ov).length=4:=rfl
 have l2':=wf.lt a7
 have l3':=wf.lt a3'
 have m1:(h.next=h.next+1)=False:=by simp
 simp only [↓aQ,NV,reduceCtorEq,pQ,t2,t3,a7,hld,hal,hl4,a3',m1]
 refine ⟨.inr rfl,rfl,hcd _ _,?_⟩
 have hfin:cR (aL (cQ false n m ov) 0 c7 fun t=>t) 0 4 []=some (cQ false n m ov):=sV _ _ _ _ _
 rw [aSY (b:=h.next) (b':=h.next+1) (by simp [t2]) (by rw [aJ,if_neg (by omega),aJ,if_pos rfl]) (Nat.le_refl _) hfin (by simp [t3]) (by rw [aJ,if_pos rfl]) (by omega) (by rw [bM,if_pos ⟨Nat.le_refl _,by simp⟩];rfl)]
 refine ⟨ov,rfl,?_,(wf.put l2' _).put (by rw [aV];exact l3') _,(fr.cJ _ (fun h=>by omega) (by omega)).cJ _ (fun h=>by omega) (by omega)⟩
 rw [← hps]
 refine ((hops.bT (H:=(H12.put h.next _).put (h.next+1) _) wf fun c h1 _=>by rw [aJ,if_neg (by omega),aJ,if_neg (by omega)]).toR).mono fun c hc=>by omega
def aSZ (xs:List Nat):List UInt8:=xs.map UInt8.ofNat
theorem aB1 {xs:List Nat} (h:∀ x∈xs,x<256):bytesOf (dR xs)=some (aSZ xs):=by
 induction xs with
 | nil=>rfl
 | cons x xs ih =>
  have h1:=ih fun y hy=>h y (by simp [hy])
  have h2:=h x (by simp)
  show (bif Nat.blt x 256 then eC (bytesOf (dR xs)) (fun r=>some (UInt8.ofNat x::r)) none else none)=_
  rw [bU h2,cond_true,h1];rfl
theorem aVW (x:OD) (lo:List Value) (tm:T Value):mI x lo tm=pF (bW x lo tm):=rfl
theorem aLb {H:Hp} {v:Value} {xs:List Nat} (hs:Sl 1 H v xs.length (dR xs)) (hb:∀ x∈xs,x<256) (k:Value→eL):prK H (pF v) k=k (.string (jM (aSZ xs))):=by
 obtain ⟨hl,⟨h0,h1⟩|⟨b,o,c,rfl,h0,hh⟩⟩:=hs
 · have:xs=[]:=List.eq_nil_of_length_eq_zero h0
   subst this
   rcases h1 with rfl|⟨b,o,c,rfl⟩<;>rfl
 · have e:pF (cB b o xs.length c)=(bif Nat.beq xs.length 0 then PR.val (.string (jM [])) else .read b fun ob=>eC (kR ob o xs.length) (fun cs=>eC (bytesOf cs) Ad none) none):=rfl
   obtain ⟨cc,m,e',cl,ro,hat,hm,hc⟩:=hh
   rw [eZ] at hm hc
   have hld:cR cc o xs.length []=some (dR xs):=by
    have:=dV (c:=cc) (o:=o) (vs:=dR xs) fun k hk=>hc k (by rw [eZ] at hk;exact hk)
    rwa [eZ] at this
   have hcb:kR (.row cc m e' cl ro) o xs.length=some (dR xs):=by
    show (bif Nat.ble (o+xs.length) m then cR cc o xs.length [] else none)=_
    rw [cX hm,cond_true,hld]
   rw [e,dO (by omega),cond_false,aQw,hat,rH,hcb,rH,aB1 hb];rfl
theorem Yx (l:List UInt8):Uk l l=true:=by rw [aAW];simp
theorem aB2 {call:Call} {cd:cE} {h:Hp} {a b:Value} {xs:List Nat} (ha:Sl 1 h a xs.length (dR xs)) (hb:Sl 1 h b xs.length (dR xs)) (hx:∀ x∈xs,x<256):dD Gh call cd [a,b] h=.val (.bool true) h:=by
 have e1:=aLb ha hx
 have e2:=aLb hb hx
 have e3:=Yx (aSZ xs)
 refine EqR.get ?_
 refine aP rfl ?_
 simp only [↓aQ,NW,reduceCtorEq,cN,cP,aVW,e1,e2,e3]
 refine .ret ?_
 simp only [↓aQ,NW,reduceCtorEq,eS]
 exact ⟨rfl,rfl⟩
def aVX (call:Call):Prop:=∀ H a b xs,Sl 1 H a xs.length (dR xs)→Sl 1 H b xs.length (dR xs)→(∀ x∈xs,x<256)→call 26 [a,b] H=.val (.bool true) H
def aLc (call:Call):Prop:=∀ h n m ops v,Wf h→kF.Ok n m ops→RO h v (gF n m ops)→Yields (call 28 [v] h) (aK9 n m ops h)
theorem RO.sl {h:Hp} {v:Value} {xs:List Nat} (hr:RO h v xs):Sl 1 h v xs.length (dR xs):=by
 obtain ⟨b,o,rfl,h0,h1,h2⟩:=hr
 exact ⟨by rw [eZ,Nat.mul_one],.inr ⟨b,o,_,rfl,h0,h2⟩⟩
theorem aB3 {call:Call} {cd:cE} (hps:aKZ call) (hbe:aVX call) (hpr:aLc call) (hpk:aK4 call) {h:Hp} {n m:Nat} {ops:List eJ} {v:Value} (hw:Wf h) (hp:kF.Ok n m ops) (hv:RO h v (gF n m ops)) :
 Yields (dD Gk call cd [v] h) (aF7 false n m (fun o=>o=ops) h):=by
 have hwb:=hw.base
 have hlen:=Gz n m ops
 have hbyte:=Ni n m ops
 have hcl:=qT ops
 have hdl:=qU ops hp.rt
 have hout0:=hp.out
 have hnum:=hp.num
 have hm:=hp.m
 have hla:(Rc.enc (cU 1) (dB ops)).length≤4*(dB ops).length+4:=s9
 have hlb:(Rc.enc (cU 2) (dF ops)).length≤4*(dF ops).length+4:=s9
 obtain ⟨bv,ov0,rfl,hv0,hv1,hv2⟩:=id hv
 have hbv:=hv2.lt hw
 obtain ⟨t1,t2,hcut⟩:=hv.cut (n:=(gF n m ops).length - 4) (by omega)
 have hbl:(gK n m ops).length=(gF n m ops).length - 4:=by unfold gF;rw [List.length_append,uS];omega
 have etk:(gF n m ops).take ((gF n m ops).length - 4)=gK n m ops:=by
  rw [← hbl];unfold gF;rw [List.take_left]
 have edr:(gF n m ops).drop ((gF n m ops).length - 4)=Ag (gK n m ops):=by
  rw [← hbl];unfold gF;rw [List.drop_left]
 have hc1:=Lr (b:=bv) (o:=ov0) (l:=(gF n m ops).length) (L:=(gF n m ops).length) (hi:=(gF n m ops).length - 4) (by omega) hv1
 have hc2:=hcut.two
 have hr2:=hcut.r2
 rw [edr] at hr2
 have hsl1:Sl 1 h (cB bv ov0 ((gF n m ops).length - 4) (cM 1 (gF n m ops).length)) (gK n m ops).length (dR (gK n m ops)):=by
  refine ⟨by rw [eZ,Nat.mul_one],.inr ⟨bv,ov0,_,by rw [hbl],by omega,?_⟩⟩
  have:=hv2.take ((gF n m ops).length - 4)
  rw [Ec,etk] at this
  exact this
 have hb2:∀ c,gY t2 c→c=bv:=fun c hc=>fB (hcut.b2 c hc)
 have hvsl:=hv.sl
 generalize hX:gF n m ops=X at *
 obtain ⟨K,hK⟩:∃ K,h.new (aT D5 4 30 true)=K:=⟨_,rfl⟩
 have wK:Wf K:=by rw [← hK];exact hw.new _
 have fK:Fr (fun _=>False) h K:=by rw [← hK];exact Fr.new _
 have nK:K.next=h.next+1:=by rw [← hK];rfl
 have a2:K.at h.next=some (aT D5 4 30 true):=by rw [← hK,aM,if_pos rfl]
 have hslK:Sl 1 K (cB bv ov0 (X.length - 4) (cM 1 X.length)) (gK n m ops).length (dR (gK n m ops)):=hsl1.gV (Q:=fun _=>False) hw fK (fun _ h=>h.elim)
 obtain ⟨r1,G1,e1,s1,b1,w1,f1⟩:=(hps (aS K K.next []) (cB bv ov0 (X.length - 4) (cM 1 X.length)) (gK n m ops) (wK.sb []) hslK (by omega) (wV n m ops)).get
 have nG1:K.next≤G1.next:=f1.next
 have bG1:G1.base=K.next:=f1.base
 have lG1:G1.log=[]:=f1.log
 have aG1:∀ c,c<K.next→G1.at c=K.at c:=fun c hc=>f1.at_ c hc fun h=>h
 have s4:=uS (gK n m ops)
 have hbe1:=hbe (aS G1 G1.next []) r1 t2 (Ag (gK n m ops)) (by rw [s4];exact s1) (hr2.sl.bT fun c _ hc=>by
  rw [dM,aG1 c (by rw [hb2 c hc,nK];omega)]
  exact fK.at_ c (by rw [hb2 c hc];exact hbv) fun h=>h) (fun x hx=>by
  unfold Ag zS at hx
  obtain ⟨y,_,h2⟩:=List.mem_flatMap.1 hx
  exact qN _ _ x h2)
 obtain ⟨L,hL⟩:∃ L,aS G1 K.base K.log=L:=⟨_,rfl⟩
 have wL:Wf L:=by rw [← hL];exact w1.Iq (by have:=wK.base;omega) _
 have fL:Fr (fun _=>False) h L:=by
  rw [← hL]
  exact fK.trans (P:=fun _=>False) (Q:=fun _=>False) ⟨rfl,rfl,nG1,fun c hc _=>aG1 c hc⟩ fun _ _ h=>h
 have nL:L.next=G1.next:=by rw [← hL];rfl
 have aL2:L.at h.next=some (aT D5 4 30 true):=by rw [← hL,dM,aG1 _ (by omega)];exact a2
 have hvL:RO L (cB bv ov0 X.length (cM 1 X.length)) X:=hv.bT fun c _ hc=>fL.at_ c (by rw [fB hc];exact hbv) fun h=>h
 obtain ⟨r2,G2,e2,ov,rfl,p1,w2,f2⟩:=(hpr L n m ops _ wL hp (by rw [hX];exact hvL)).get
 have nG2:=f2.next
 have hone:bY [ov]=true:=by
  rcases p1 with ⟨_,rfl|⟨b,o,c,rfl⟩⟩|⟨b,o,c,rfl,_⟩<;>rfl
 have hal:bY (cQ false n m ov)=true:=iT hone
 obtain ⟨Y,hY,wY,fY,aY,nY⟩:=eP w2 D5 (cQ false n m ov) 4 30
 have p1Y:=p1.eH w2 fY
 obtain ⟨r3,G3,e3,pv,rfl,ro3,bo3,w3,f3⟩:=(hpk Y n m ops ov _ wY hp p1Y).get
 have nG3:=f3.next
 have aY3:G3.at G2.next=Y.at G2.next:=f3.at_ _ (by omega) fun h=>h
 rw [aY] at aY3
 have f03:Fr (fun _=>False) h G3:=((fL.trans f2 fun _ _ h=>h).trans fY fun _ _ h=>h).trans f3 fun _ _ h=>h
 have a23:G3.at h.next=some (aT D5 4 30 true):=by rw [f3.at_ _ (by omega) fun h=>h,fY.at_ _ (by omega) fun h=>h,f2.at_ _ (by omega) fun h=>h];exact aL2
 rw [hX] at ro3
 have hbe2:=hbe G3 pv (cB bv ov0 X.length (cM 1 X.length)) X ro3.sl (hvsl.gV (Q:=fun _=>False) hw f03 (fun _ h=>h.elim)) hbyte
 have p3:=p1Y.eH wY f3
 have q1:Nat.blt X.length 26=false:=cI (by omega)
 have s1':gP .i64 (.ofNat X.length) (.ofNat 4)=some (.int .i64 (aR .i64 (.ofNat (X.length - 4)))):=jI _ (by omega)
 have s2':aR .i64 (.ofNat (X.length - 4))=.ofNat (X.length - 4):=bF (by omega)
 unfold cQ at e2 hY aY aY3 hal e3
 refine aP rfl ?_
 simp only [↓aQ,NV,reduceCtorEq,pQ,sW,dQ,hK,q1,s1',s2',aJY,aQU,hc1,hc2,e1,lG1,bG1,hbe1,hL,e2,iX,nW,oD,hal,hY,aY,e3,hbe2,aY3,a23]
 refine .ret ?_
 rw [Cb (b:=h.next) (by simp) (by rw [aJ,if_pos rfl]) (Nat.le_refl _) (sV _ _ _ _ _)]
 simp only [↓aQ,NW,reduceCtorEq]
 refine ⟨ov,ops,rfl,hp,rfl,(p3.aKT w3 fun c h1 h2=>by rw [aJ,if_neg (by omega)]).mono fun c hc=>by omega,w3.put (by omega) _,f03.cJ _ (fun h=>absurd h (Nat.lt_irrefl _)) hwb⟩
def Jn (call:Call):Prop:=∀ h n m ops v,Wf h→kF.Ok n m ops→RO h v (gF n m ops)→Yields (call 10 [v] h) (aF7 false n m (fun o=>o=ops) h)
def Ce (r:fV) (φ:List PanicEntry→Hp→Prop):Prop:=match r with|.panic c h=>φ c h|_=>False
theorem Ce.get {r:fV} {φ:List PanicEntry→Hp→Prop} (h:Ce r φ):∃ c H,r=.panic c H∧φ c H:=by
 cases r with
 | val v h'=>exact h.elim
 | none=>exact h.elim
 | panic c h'=>exact ⟨c,h',rfl,h⟩
def aS0 (φ:List PanicEntry→Hp→Prop) (e:Ex) (tm:T Value) (df:Df) (h:Hp):Prop:=df=[]∧∃ c,e=.panic c∧φ c h
theorem aS0.mk {φ:List PanicEntry→Hp→Prop} {c:List PanicEntry} {tm:T Value} {h:Hp} (hy:φ c h):aS0 φ (.panic c) tm [] h:=⟨rfl,c,rfl,hy⟩
theorem Ii {nt na:Nat} {b:CC} {rs:List CR} {call:Call} {cd:cE} {args:List Value} {h:Hp} {φ:List PanicEntry→Hp→Prop} (hn:(Nat.beq (len args) na && Nat.ble na nt)=true)
 (hb:bC (iP b call (aL args 0 .nil fun t=>t) [] h) (aS0 φ)):Ce (dD (.mk nt na b rs) call cd args h) φ:=by
 show Ce (bif Nat.beq (len args) na && Nat.ble na nt then Al args 0 .nil fun tm=>eL.rec (motive:=fun _=>fV) .none (fun e tm df h=>Ex.rec (motive:=fun _=>fV) (leave cd rs df tm .ret h) (fun _=>.none) (leave cd rs df tm .ret h) (fun c=>leave cd rs df tm (.qB c) h) e) (iP b call tm [] h) else .none) φ
 rw [hn,cond_true,rG,kL]
 revert hb
 cases iP b call (aL args 0 .nil fun t=>t) [] h with
 | none=>intro h;exact h.elim
 | ok e tm df h' =>
  rintro ⟨rfl,c,rfl,hy⟩
  exact hy
theorem aB4 (tm:T Value) (df:Df) (k:Value→Hp→eL) (c:List PanicEntry) (h:Hp):Uw tm df k (.panic c h)=.ok (.panic c) tm df h:=rfl
theorem aLd (c:List PanicEntry) (tm:T Value) (df:Df) (h:Hp) (kn:T Value→Df→Hp→eL) (ke:Nat→T Value→Df→Hp→eL):mT (.ok (.panic c) tm df h) kn ke=.ok (.panic c) tm df h:=rfl
theorem aVY (x:OD) (call:Call) (lo:List Value) (tm:T Value) (h:Hp):Qx x call lo tm h=lA (bW x lo tm) (fun t v=>.panic [{ v:=.iface t v,recovered:=false }] h) .none .none:=rfl
noncomputable def pO (e:Nat):Value:=.iface 225 (.agg ⟨[A0 e]⟩)
noncomputable def pe (e:Nat):PanicEntry:={ v:=pO e,recovered:=false }
theorem aLe {call:Call} {cd:cE} {h:Hp}:dD El call cd [A0 0] h=.val (.tuple ⟨[]⟩) h:=by
 refine EqR.get ?_
 refine aP rfl ?_
 have q:Nat.beq 0 0=true:=rfl
 simp only [↓aQ,NW,reduceCtorEq,q,dQ]
 refine .end ?_
 rw [rK]
 exact ⟨rfl,rfl⟩
theorem aVZ (e:Nat) (lo:List Value) (tm:T Value):cZ [A0 0] [(0,(1,OD.loc 0))] (A0 e::lo) tm=some (.agg ⟨[A0 e]⟩):=rfl
theorem aGe {call:Call} {cd:cE} {h:Hp} {e:Nat} (he:e≠0):dD El call cd [A0 e] h=.panic [pe e] h:=by
 have key:Ce (dD El call cd [A0 e] h) (fun c H=>c=[pe e]∧H=h):=by
  refine Ii rfl ?_
  have q:Nat.beq e 0=false:=dO he
  simp only [↓aQ,NW,reduceCtorEq,q,dQ,↓aVZ,Lp,aVY,Xb,aB4,aLd]
  exact .mk ⟨rfl,rfl⟩
 obtain ⟨c,H,e1,rfl,rfl⟩:=key.get
 exact e1
def aEl (call:Call):Prop:=∀ H,call 158 [A0 0] H=.val (.tuple ⟨[]⟩) H
def aQ5 (call:Call):Prop:=∀ H e,e≠0→call 158 [A0 e] H=.panic [pe e] H
noncomputable def sE (e N:Nat) (v:Value):List Value:=[A0 e,A0 N,.string (jM []),v]
def aS1 (N:Nat) (xs:List Nat) (h:Hp) (r:Value) (H:Hp):Prop:=∃ v,r=.agg ⟨sE 0 N v⟩∧RO H v xs∧(∀ c,gY v c→h.next≤c∧c<H.next)∧Wf H∧Fr (fun _=>False) h H
theorem aLf {R:Type} (b o l c:Nat) (a0 a1 a2 a3:Value) (k:List Value→R) (z:R):oE 3 1 (cB b o l c) [a0,a1,a2,a3] k z=k [a0,a1,a2,cB b o l c]:=rfl
theorem aB5 {call:Call} {cd:cE} (hpk:aK4 call) (hmu:aEl call) (hco:aBS call) {h:Hp} {n m:Nat} {ops:List eJ} {ov:Value} {P:Nat→Prop} (hw:Wf h) (hp:kF.Ok n m ops) (ho:gD h ov ops P) :
 Yields (dD Gv call cd [.agg ⟨cQ false n m ov⟩] h) (aS1 (oH ops) (gF n m ops) h):=by
 have hwb:=hw.base
 obtain ⟨K,hK⟩:∃ K,(h.new (aT (cQ false n m ov) 4 30 true)).new (aT M7 4 37 true)=K:=⟨_,rfl⟩
 have wK:Wf K:=by rw [← hK];exact (hw.new _).new _
 have fK:Fr (fun _=>False) h K:=by rw [← hK];exact (Fr.new _).dE _
 have nK:K.next=h.next+2:=by rw [← hK];rfl
 have a1:K.at h.next=some (aT (cQ false n m ov) 4 30 true):=by rw [← hK,aM,aF,if_neg (by omega),aM,if_pos rfl]
 have a2:K.at (h.next+1)=some (aT M7 4 37 true):=by rw [← hK,aM,aF,if_pos rfl]
 have oK:=ho.eH hw fK
 obtain ⟨r,G,e1,v,rfl,ro,bv,wG,fG⟩:=(hpk K n m ops ov P wK hp oK).get
 have nG:=fG.next
 have a1G:G.at h.next=some (aT (cQ false n m ov) 4 30 true):=by rw [fG.at_ _ (by omega) fun h=>h];exact a1
 have a2G:G.at (h.next+1)=some (aT M7 4 37 true):=by rw [fG.at_ _ (by omega) fun h=>h];exact a2
 have e2:=hmu G
 have e3:=hco G n m ops ov P false wG hp (oK.eH wK fG)
 obtain ⟨b,o,rfl,p1,p2,p3⟩:=id ro
 unfold cQ at e1 e3 hK a1 a1G
 refine aP rfl ?_
 simp only [↓aQ,NV,reduceCtorEq,pQ,cQ,dQ,gM,hK,a1,e1,iX,nW,oD,e2,a1G,e3,aLf,a2G]
 refine .ret ?_
 rw [fI (b:=h.next+1) (by simp) (by rw [aJ,if_pos rfl]) (Nat.le_refl _) (sV _ _ _ _ _)]
 exact ⟨_,rfl,ro.bT fun c _ hc=>(by rw [aJ,if_neg (by have:=(bv c hc).1;omega)]),fun c hc=>⟨by have:=(bv c hc).1;omega,by rw [aV];exact (bv c hc).2⟩,wG.put (by omega) _,(fK.trans (P:=fun _=>False) fG fun _ _ h=>h).cJ _ (fun h=>by omega) (by omega)⟩
def aEm (call:Call):Prop:=∀ h n m ops ov P,Wf h→kF.Ok n m ops→gD h ov ops P→Yields (call 167 [.agg ⟨cQ false n m ov⟩] h) (aS1 (oH ops) (gF n m ops) h)
noncomputable def lJ:List Value:=[.slice none 0 0,.slice none 0 0,.slice none 0 0]
noncomputable def mG (a b:Value):List Value:=[A0 7,A0 0,A0 0,A0 0,A0 0,A0 0,A1 0,.slice none 0 0,.slice none 0 0,.slice none 0 0,a,b]
theorem Nj:lJ.length=3:=rfl
theorem aEn (a b:Value):(mG a b).length=12:=rfl
theorem aO6:Nat.blt (0+0) 12=true:=rfl
theorem aLg:Nat.blt (0+10) 12=true:=rfl
theorem aLh:Nat.blt (0+11) 12=true:=rfl
theorem aS2:Nat.ble (0+12) 12=true:=rfl
theorem aLi (a b:Value):(aL (mG a b) 0 .nil fun t=>t).get (path (0+0))=some (A0 7):=rfl
theorem aO7 (a b:Value):(aL (mG a b) 0 .nil fun t=>t).get (path (0+10))=some a:=rfl
theorem aO8 (a b:Value):(aL (mG a b) 0 .nil fun t=>t).get (path (0+11))=some b:=rfl
theorem aLj (a b:Value) (c:T Value):cR (aL (mG a b) 0 c fun t=>t) 0 12 []=some (mG a b):=dV (o:=0) (vs:=mG a b) fun k hk=>by rw [Nat.zero_add,bM,if_pos ⟨Nat.zero_le _,by simpa using hk⟩,Nat.sub_zero]
theorem aEo (c:T Value):cR (aL lJ 0 c fun t=>t) 0 3 []=some lJ:=dV (o:=0) (vs:=lJ) fun k hk=>by rw [Nat.zero_add,bM,if_pos ⟨Nat.zero_le _,by simpa using hk⟩,Nat.sub_zero]
theorem Yy:bY lJ=true:=rfl
def evC:=A2 @Nj <| A2 @aEn <| A2 @aO6 <| A2 @aLg <| A2 @aLh <| A2 @aS2 <| A2 @aLi <| A2 @aO7 <| A2 @aO8 <| A2 @aLj <| A2 @aEo <| @Yy
theorem RO.lt {h:Hp} {v:Value} {xs:List Nat} (hr:RO h v xs) (hw:Wf h):∀ c,gY v c→c<h.next:=by
 obtain ⟨b,o,rfl,h0,h1,h2⟩:=hr
 intro c hc
 rw [fB hc]
 exact h2.lt hw
theorem RO.eH {h H:Hp} {v:Value} {xs:List Nat} (hr:RO h v xs) (hw:Wf h) (f:Fr (fun _=>False) h H):RO H v xs:=hr.bT fun c _ hc=>f.at_ c (hr.lt hw c hc) fun h=>h
theorem RO.one {h:Hp} {v:Value} {xs:List Nat} (hr:RO h v xs):∃ b o l c,v=cB b o l c:=by
 obtain ⟨b,o,rfl,_⟩:=hr
 exact ⟨_,_,_,_,rfl⟩
def aLk (n m:Nat) (ops1 ops2:List eJ) (h:Hp) (r:Value) (H:Hp):Prop:=∃ ops,kF.Ok n m ops∧eO ops=vV (eO ops1) (eO ops2)∧aS1 (oH ops) (gF n m ops) h r H
def aV1 (e:Nat) (h:Hp) (c:List PanicEntry) (H:Hp):Prop:=c=[pe e]∧Wf H∧Fr (fun _=>False) h H
theorem nR {h:Hp} {ov:Value} {ops:List eJ} {P:Nat→Prop} (p:gD h ov ops P):bY [ov]=true:=by
 rcases p with ⟨_,rfl|⟨b,o,c,rfl⟩⟩|⟨b,o,c,rfl,_⟩<;>rfl
structure Es (h:Hp) (v1 v2:Value) (n1 m1 n2 m2:Nat) (ops1 ops2:List eJ):Prop where
 wf:Wf h
 p1:kF.Ok n1 m1 ops1
 p2:kF.Ok n2 m2 ops2
 l1:n1<1000
 l2:n2<1000
 r1:RO h v1 (gF n1 m1 ops1)
 r2:RO h v2 (gF n2 m2 ops2)
theorem Nk {call:Call} {cd:cE} (hu:Jn call) (hmu:aEl call) (hco:Ng call) (hpa:aEm call) {h:Hp} {n1 m1 n2 m2:Nat} {ops1 ops2:List eJ} {v1 v2:Value} (hq:Es h v1 v2 n1 m1 n2 m2 ops1 ops2) (hmn:m1=n2) :
 Yields (dD pC call cd [.agg ⟨lJ⟩,.agg ⟨mG v1 v2⟩] h) (aLk n1 m2 ops1 ops2 h):=by
 obtain ⟨hw,hp1,hp2,hn1,hn2,hv1,hv2⟩:=hq
 have hwb:=hw.base
 obtain ⟨b1,o1,l1,c1,rfl⟩:=hv1.one
 obtain ⟨b2,o2,l2,c2,rfl⟩:=hv2.one
 obtain ⟨K,hK⟩:∃ K,((h.new (aT lJ 3 45 true)).new (aT (mG (cB b1 o1 l1 c1) (cB b2 o2 l2 c2)) 12 54 true)).new (aT M7 4 37 true)=K:=⟨_,rfl⟩
 have wK:Wf K:=by rw [← hK];exact ((hw.new _).new _).new _
 have fK:Fr (fun _=>False) h K:=by rw [← hK];exact ((Fr.new _).dE _).dE _
 have nK:K.next=h.next+3:=by rw [← hK];rfl
 have a3:K.at (h.next+1)=some (aT (mG (cB b1 o1 l1 c1) (cB b2 o2 l2 c2)) 12 54 true):=by rw [← hK,aM,aF,aF,if_neg (by omega),aM,aF,if_pos rfl]
 have a4:K.at (h.next+1+1)=some (aT M7 4 37 true):=by rw [← hK,aM,aF,aF,if_pos rfl]
 obtain ⟨r1,G1,e1,ov1,q1,rfl,_,hq1,o1',w1,f1⟩:=(hu K n1 m1 ops1 _ wK hp1 (hv1.eH hw fK)).get
 rw [hq1] at o1'
 have l1':=iT (li:=false) (n:=n1) (m:=m1) (nR o1')
 obtain ⟨X1,hX1,wX1,fX1,aX1,nX1⟩:=eP w1 D5 (cQ false n1 m1 ov1) 4 30
 have k1:=f1.next
 have g1:Fr (fun _=>False) h X1:=(fK.trans (P:=fun _=>False) f1 fun _ _ h=>h).trans (P:=fun _=>False) fX1 fun _ _ h=>h
 have a31:X1.at (h.next+1)=some (aT (mG (cB b1 o1 l1 c1) (cB b2 o2 l2 c2)) 12 54 true):=by rw [fX1.at_ _ (by omega) fun h=>h,f1.at_ _ (by omega) fun h=>h];exact a3
 have a41:X1.at (h.next+1+1)=some (aT M7 4 37 true):=by rw [fX1.at_ _ (by omega) fun h=>h,f1.at_ _ (by omega) fun h=>h];exact a4
 have m1':=hmu X1
 obtain ⟨r2,G2,e2,ov2,q2,rfl,_,hq2,o2',w2,f2⟩:=(hu X1 n2 m2 ops2 _ wX1 hp2 (hv2.eH hw g1)).get
 rw [hq2] at o2'
 have l2':=iT (li:=false) (n:=n2) (m:=m2) (nR o2')
 obtain ⟨X2,hX2,wX2,fX2,aX2,nX2⟩:=eP w2 D5 (cQ false n2 m2 ov2) 4 30
 have k2:=f2.next
 have g2:Fr (fun _=>False) X1 X2:=f2.trans (P:=fun _=>False) fX2 fun _ _ h=>h
 have a42:X2.at (h.next+1+1)=some (aT M7 4 37 true):=by rw [g2.at_ _ (by omega) fun h=>h];exact a41
 have aX12:=(g2.at_ G1.next (by omega) fun h=>h).trans aX1
 have m2':=hmu X2
 have o12:=(o1'.eH w1 fX1).eH wX1 g2
 obtain ⟨r3,G3,e3,k3,_⟩:=(hco X2 n1 m1 n2 m2 ov1 ov2 ops1 ops2 _ _ wX2 hp1 hp2 hn1 hn2 o12 (o2'.eH w2 fX2)).get
 obtain ⟨ov,ops,rfl,p3,s3,o3,w3,f3⟩:=k3 hmn
 have l3':=iT (li:=false) (n:=n1) (m:=m2) (nR o3)
 obtain ⟨X3,hX3,wX3,fX3,aX3,nX3⟩:=eP w3 D5 (cQ false n1 m2 ov) 4 30
 have k3':=f3.next
 have g3:Fr (fun _=>False) X2 X3:=f3.trans (P:=fun _=>False) fX3 fun _ _ h=>h
 have a43:X3.at (h.next+1+1)=some (aT M7 4 37 true):=by rw [g3.at_ _ (by omega) fun h=>h];exact a42
 have m3':=hmu X3
 obtain ⟨r4,G4,e4,v,rfl,ro,bv,w4,f4⟩:=(hpa X3 n1 m2 ops ov _ wX3 p3 (o3.eH w3 fX3)).get
 have k4:=f4.next
 have a44:G4.at (h.next+1+1)=some (aT M7 4 37 true):=by rw [f4.at_ _ (by omega) fun h=>h];exact a43
 have f04:=((g1.trans (P:=fun _=>False) g2 fun _ _ h=>h).trans (P:=fun _=>False) g3 fun _ _ h=>h).trans (P:=fun _=>False) f4 fun _ _ h=>h
 obtain ⟨bb,oo,ll,cc,rfl⟩:=ro.one
 unfold cQ at e1 hX1 aX1 aX12 l1' e2 hX2 aX2 l2' e3 hX3 aX3 l3' e4
 unfold sE at e4
 refine aP rfl ?_
 simp only [↓aQ,NV,reduceCtorEq,pQ,evC,cN,cP,gM,hK,a3,e1,iX,nW,oD,l1',hX1,m1',a31,e2,l2',hX2,m2',aX12,aX2,e3,l3',hX3,m3',aX3,e4,a44]
 refine .ret ?_
 rw [fI (b:=h.next+1+1) (by simp) (by rw [aJ,if_pos rfl]) (Nat.le_refl _) (sV _ _ _ _ _)]
 refine ⟨ops,p3,s3,_,rfl,ro.bT fun c _ hc=>(by rw [aJ,if_neg (by have:=(bv c hc).1;omega)]),fun c hc=>⟨by have:=(bv c hc).1;omega,by rw [aV];exact (bv c hc).2⟩,w4.put (by omega) _,f04.cJ _ (fun h=>by omega) (by omega)⟩
theorem Nl {call:Call} {cd:cE} (hu:Jn call) (hmu:aEl call) (hme:aQ5 call) (hco:Ng call) {h:Hp} {n1 m1 n2 m2:Nat} {ops1 ops2:List eJ} {v1 v2:Value} (hq:Es h v1 v2 n1 m1 n2 m2 ops1 ops2) (hmn:m1≠n2) :
 Ce (dD pC call cd [.agg ⟨lJ⟩,.agg ⟨mG v1 v2⟩] h) (aV1 61 h):=by
 obtain ⟨hw,hp1,hp2,hn1,hn2,hv1,hv2⟩:=hq
 have hwb:=hw.base
 obtain ⟨b1,o1,l1,c1,rfl⟩:=hv1.one
 obtain ⟨b2,o2,l2,c2,rfl⟩:=hv2.one
 obtain ⟨K,hK⟩:∃ K,((h.new (aT lJ 3 45 true)).new (aT (mG (cB b1 o1 l1 c1) (cB b2 o2 l2 c2)) 12 54 true)).new (aT M7 4 37 true)=K:=⟨_,rfl⟩
 have wK:Wf K:=by rw [← hK];exact ((hw.new _).new _).new _
 have fK:Fr (fun _=>False) h K:=by rw [← hK];exact ((Fr.new _).dE _).dE _
 have nK:K.next=h.next+3:=by rw [← hK];rfl
 have a3:K.at (h.next+1)=some (aT (mG (cB b1 o1 l1 c1) (cB b2 o2 l2 c2)) 12 54 true):=by rw [← hK,aM,aF,aF,if_neg (by omega),aM,aF,if_pos rfl]
 have a4:K.at (h.next+1+1)=some (aT M7 4 37 true):=by rw [← hK,aM,aF,aF,if_pos rfl]
 obtain ⟨r1,G1,e1,ov1,q1,rfl,_,hq1,o1',w1,f1⟩:=(hu K n1 m1 ops1 _ wK hp1 (hv1.eH hw fK)).get
 rw [hq1] at o1'
 have l1':=iT (li:=false) (n:=n1) (m:=m1) (nR o1')
 obtain ⟨X1,hX1,wX1,fX1,aX1,nX1⟩:=eP w1 D5 (cQ false n1 m1 ov1) 4 30
 have k1:=f1.next
 have g1:Fr (fun _=>False) h X1:=(fK.trans (P:=fun _=>False) f1 fun _ _ h=>h).trans (P:=fun _=>False) fX1 fun _ _ h=>h
 have a31:X1.at (h.next+1)=some (aT (mG (cB b1 o1 l1 c1) (cB b2 o2 l2 c2)) 12 54 true):=by rw [fX1.at_ _ (by omega) fun h=>h,f1.at_ _ (by omega) fun h=>h];exact a3
 have a41:X1.at (h.next+1+1)=some (aT M7 4 37 true):=by rw [fX1.at_ _ (by omega) fun h=>h,f1.at_ _ (by omega) fun h=>h];exact a4
 have m1':=hmu X1
 obtain ⟨r2,G2,e2,ov2,q2,rfl,_,hq2,o2',w2,f2⟩:=(hu X1 n2 m2 ops2 _ wX1 hp2 (hv2.eH hw g1)).get
 rw [hq2] at o2'
 have l2':=iT (li:=false) (n:=n2) (m:=m2) (nR o2')
 obtain ⟨X2,hX2,wX2,fX2,aX2,nX2⟩:=eP w2 D5 (cQ false n2 m2 ov2) 4 30
 have k2:=f2.next
 have g2:Fr (fun _=>False) X1 X2:=f2.trans (P:=fun _=>False) fX2 fun _ _ h=>h
 have a42:X2.at (h.next+1+1)=some (aT M7 4 37 true):=by rw [g2.at_ _ (by omega) fun h=>h];exact a41
 have aX12:=(g2.at_ G1.next (by omega) fun h=>h).trans aX1
 have m2':=hmu X2
 have o12:=(o1'.eH w1 fX1).eH wX1 g2
 obtain ⟨r3,G3,e3,_,k3⟩:=(hco X2 n1 m1 n2 m2 ov1 ov2 ops1 ops2 _ _ wX2 hp1 hp2 hn1 hn2 o12 (o2'.eH w2 fX2)).get
 obtain ⟨rfl,w3,f3⟩:=k3 hmn
 obtain ⟨X3,hX3,wX3,fX3,aX3,nX3⟩:=eP w3 D5 D5 4 30
 have k3':=f3.next
 have m3':=hme X3 61 (by decide)
 have f03:=((g1.trans (P:=fun _=>False) g2 fun _ _ h=>h).trans (P:=fun _=>False) f3 fun _ _ h=>h).trans (P:=fun _=>False) fX3 fun _ _ h=>h
 have l3':bY D5=true:=rfl
 unfold cQ at e1 hX1 aX1 aX12 l1' e2 hX2 aX2 l2' e3
 unfold aVR at e3
 refine Ii rfl ?_
 simp only [↓aQ,NV,reduceCtorEq,pQ,evC,cN,cP,gM,hK,a3,e1,iX,nW,oD,l1',hX1,m1',a31,e2,l2',hX2,m2',aX12,aX2,e3,l3',hX3,m3',aB4,aLd]
 exact .mk ⟨rfl,wX3,f03⟩
noncomputable def zB:CFD:=(.mk 18 1 (.seq (.seq (.Kc (.some [false,true])) (.seq (.plain (.region (.aA (aC (.tmp [false,true])) (.flush 0 [true] .nil)))) (.plain .skip))) (.seq (.plain (.region (.aA (aC (.tmp [true])) (.aA (jT aAH true (.loc 0)) (.flush 0 [false,false] (.flush 1 [true,false] .nil)))))) (.cond (.tmp [false,false]) (.seq (.plain (.region (.aA (aC (.tmp [true])) (.aA (aEY 225 true (.agg (.mk [(A0 0)])) (.loc 0)) (.aA (aC (.loc 0)) (.aA (dS 0 (.loc 0)) (.aA (dS 1 (.loc 1)) (.aD (262143,[(.some 11),(.some 10),(.some 7),(.some 9),(.some 8)]) (cO 225 [(A0 0)] 1) (.aD (262143,[(.some 2),(.some 11),(.some 10),(.some 7),(.some 9),(.some 8)]) (bL 1 (.loc 0) (.loc 2)) (.aA (aC (.loc 2)) (.flush 0 [true,true] (.flush 2 [false] (.flush 3 [true,true,false] (.flush 4 [false,false,true] (.flush 5 [true,true,true] (.flush 6 [true,false,true] (.flush 7 [false,true,true] .nil))))))))))))))))) (.seq (.seq (.plain (.region (.aA (aC (.tmp [true,true])) (.aA (mO (.loc 0)) (.flush 0 [true,false,false] (.flush 1 [false,true,false] .nil)))))) (.cond (.tmp [true,false,false]) (.plain (.region (.aA (aC (.tmp [true])) (.aD (262143,[(.some 14)]) (Qx (.loc 0)) (.flush 1 [false,false,false] .nil))))) (.plain .skip))) (.plain (.region (.aA (aO 0 (.tmp [false])) (.aN (aI (.loc 0)) (.aA (cZ [(A0 0),(A0 0),(.string (jM [])),(.slice .none 0 0)] [(0,(1,(.loc 0)))]) (.aD (262143,[(.some 17),(.some 16),(.some 15)]) (bL 4 (.tmp []) (.loc 0)) (.flush 1 [true,false,true,true] (.flush 2 [false,true,true,true] (.flush 3 [true,true,true,true] .nil))))))))))) (.plain .skip)))))
def mR (r:mB) (φ:Ex→T Value→Md→Hp→Prop):Prop:=match r with|.none=>False|.ok e tm m h=>φ e tm m h
theorem mR.plain {c:CC} {call:Call} {tm:T Value} {m:Md} {H:Hp} {φ:Ex→T Value→Md→Hp→Prop} (h:bC (iP c call tm [] H) (fun e tm df H=>df=[]∧φ e tm m H)):mR (xN (.plain c) call tm m H) φ:=by
 show mR (eL.rec (motive:=fun _=>mB) .none (fun e tm df h=>List.rec (motive:=fun _=>mB) (.ok e tm m h) (fun _ _ _=>.none) df) (iP c call tm [] H)) φ
 revert h
 cases iP c call tm [] H with
 | none=>intro h;exact h.elim
 | ok e tm df h=>rintro ⟨rfl,h⟩;exact h
theorem mR.seq {a b:CS} {call:Call} {tm:T Value} {m:Md} {H:Hp} {φ:T Value→Md→Hp→Prop} {ψ:Ex→T Value→Md→Hp→Prop} (h:mR (xN a call tm m H) (fun e tm m H=>e=.normal∧φ tm m H)) (hb:∀ tm m H,φ tm m H→mR (xN b call tm m H) ψ):mR (xN (.seq a b) call tm m H) ψ:=by
 show mR (mB.rec (motive:=fun _=>mB) .none (fun e tm m h=>Ex.rec (motive:=fun _=>mB) (xN b call tm m h) (fun i=>.ok (.exit i) tm m h) (.ok .ret tm m h) (fun c=>.ok (.panic c) tm m h) e) (xN a call tm m H)) ψ
 revert h
 cases xN a call tm m H with
 | none=>intro h;exact h.elim
 | ok e tm m h=>rintro ⟨rfl,h⟩;exact hb _ _ _ h
theorem mR.Kc {p:List Bool} {call:Call} {tm:T Value} {m:Md} {H:Hp} {φ:Ex→T Value→Md→Hp→Prop} (h:φ .normal (tm.set p (some (yA m).1)) (yA m).2 H):mR (xN (.Kc (some p)) call tm m H) φ:=by
 show mR (T.tD p tm (some (yA m).1) fun tm=>.ok .normal tm (yA m).2 H) φ
 rw [T.iA]
 exact h
theorem mR.aV2 {c:OD} {a b:CS} {call:Call} {tm:T Value} {m:Md} {H:Hp} {φ:Ex→T Value→Md→Hp→Prop} (hc:bW c [] tm=.bool true) (h:mR (xN a call tm m H) φ):mR (xN (.cond c a b) call tm m H) φ:=by
 show mR (kZ (bW c [] tm) (fun t=>Bool.rec (motive:=fun _=>mB) (xN b call tm m H) (xN a call tm m H) t) .none) φ
 rw [hc];exact h
theorem mR.aV3 {c:OD} {a b:CS} {call:Call} {tm:T Value} {m:Md} {H:Hp} {φ:Ex→T Value→Md→Hp→Prop} (hc:bW c [] tm=.bool false) (h:mR (xN b call tm m H) φ):mR (xN (.cond c a b) call tm m H) φ:=by
 show mR (kZ (bW c [] tm) (fun t=>Bool.rec (motive:=fun _=>mB) (xN b call tm m H) (xN a call tm m H) t) .none) φ
 rw [hc];exact h
theorem Yz {nt na:Nat} {b:CS} {call:Call} {args:List Value} {m:Md} {h:Hp} {φ:Md→Hp→Prop} (hn:(Nat.beq (len args) na && Nat.ble na nt)=true)
 (hb:mR (xN b call (aL args 0 .nil fun t=>t) m h) (fun e tm m' H=>e=.normal∧φ (sJ m') H)):∃ m' H,yB (.mk nt na b) call args m h=.ok m' H∧φ m' H:=by
 have e0:yB (.mk nt na b) call args m h=bif Nat.beq (len args) na && Nat.ble na nt then Al args 0 .nil fun tm=>mB.rec (motive:=fun _=>Fi) .none (fun e _ m h=>Ex.rec (motive:=fun _=>Fi) (.ok (sJ m) h) (fun _=>.none) (.ok (sJ m) h) (fun c=>.ok (Iw m c) h) e) (xN b call tm m h) else .none:=rfl
 rw [e0,hn,cond_true,rG,kL]
 revert hb
 cases xN b call (aL args 0 .nil fun t=>t) m h with
 | none=>intro h;exact h.elim
 | ok e tm m h=>rintro ⟨rfl,h1⟩;exact ⟨_,_,rfl,h1⟩
def aV4 (b e:Nat) (c:T Value) (H:Hp) (m:Md) (H':Hp):Prop:=m=.ret∧Wf H'∧Fr (fun k=>k=b) H H'∧H'.at b=some (.row (aL (sE e 0 (.slice none 0 0)) 0 c fun t=>t) 4 37 true false)
theorem aS3 (t:TypeId) (z v:Value):tAs t true z (.iface t v)=some (.tuple ⟨[v,.bool true]⟩):=by
 unfold tAs
 simp only [Xb,Nat.beq_refl]
 rfl
theorem aV5 (t:TypeId) (ok:Bool) (z:Value) (x:OD) (lo:List Value) (tm:T Value):aEY t ok z x lo tm=tAs t ok z (bW x lo tm):=rfl
theorem Za {call:Call} {H:Hp} {b e:Nat} {c:T Value} (hw:Wf H) (hat:H.at b=some (.row c 4 37 true false)) (hb:H.base≤b):∃ m' H',yB zB call [bE b 0] (.qB [pe e]) H=.ok m' H'∧aV4 b e c H m' H':=by
 have hbn:=hw.lt hat
 have rA:yA (.qB [pe e])=(pO e,.qB [{ v:=pO e,recovered:=true }]):=rfl
 refine Yz rfl ?_
 refine mR.seq (φ:=fun tm m H'=>m=.qB [{ v:=pO e,recovered:=true }]∧H'=H∧tm.get []=some (bE b 0)∧tm.get [true]=some (pO e)) ?_ ?_
 · refine mR.seq (φ:=fun tm m H'=>m=.qB [{ v:=pO e,recovered:=true }]∧H'=H∧tm.get []=some (bE b 0)∧tm.get [false,true]=some (pO e)) ?_ ?_
   · refine mR.Kc ?_
     rw [rA]
     exact ⟨rfl,rfl,rfl,by simp [dQ],by simp⟩
   rintro tm m H' ⟨rfl,rfl,t0,t4⟩
   refine mR.seq (φ:=fun tm m H''=>m=.qB [{ v:=pO e,recovered:=true }]∧H''=H'∧tm.get []=some (bE b 0)∧tm.get [true]=some (pO e)) ?_ ?_
   · refine .plain ?_
     simp only [↓aQ,NW,reduceCtorEq,t4]
     simp [T.aB,t0]
   rintro tm m H' ⟨rfl,rfl,t0,t1⟩
   refine .plain ?_
   exact ⟨rfl,rfl,rfl,rfl,t0,t1⟩
 rintro tm m H' ⟨rfl,rfl,t0,t1⟩
 refine mR.seq (φ:=fun tm m H''=>m=.qB [{ v:=pO e,recovered:=true }]∧H''=H'∧tm.get []=some (bE b 0)∧tm.get [true]=some (pO e)∧tm.get [false,false]=some (.bool true)) ?_ ?_
 · refine .plain ?_
   have q:pG true (!false)=true:=rfl
   have q2:=aBB 225 (.agg ⟨[A0 e]⟩)
   unfold pO at t1 ⊢
   simp only [↓aQ,NW,reduceCtorEq,t1,zP,q2]
   simp [T.aB,t0,t1,q]
 rintro tm m H' ⟨rfl,rfl,t0,t1,t6⟩
 refine mR.aV2 (by show pS (tm.get [false,false])=_;rw [t6];rfl) ?_
 obtain ⟨X,hX,wX,fX,aX,nX⟩:=eP hw [A0 0] [A0 e] 1 225
 refine mR.seq (φ:=fun tm m H''=>m=.qB [{ v:=pO e,recovered:=true }]∧H''=X∧tm.get []=some (bE b 0)∧tm.get [true]=some (pO e)∧tm.get [false]=some (bE H'.next 0)∧tm.get [true,true]=some (.bool true)) ?_ ?_
 · refine .plain ?_
   unfold pO at t1 ⊢
   simp only [↓aQ,NV,reduceCtorEq,t1,aV5,aS3,iX,nW,oD,hX]
   simp [T.aB,t0,t1]
 clear t0 t1 t6
 rintro tm m H'' ⟨rfl,hH,t0,t1,t2,t3⟩
 rw [hH]
 refine mR.seq (φ:=fun tm m H''=>m=.qB [{ v:=pO e,recovered:=true }]∧H''=X∧tm.get []=some (bE b 0)∧tm.get [false]=some (bE H'.next 0)) ?_ ?_
 · refine mR.seq (φ:=fun tm m H''=>m=.qB [{ v:=pO e,recovered:=true }]∧H''=X∧tm.get []=some (bE b 0)∧tm.get [false]=some (bE H'.next 0)∧tm.get [true,false,false]=some (.bool false)) ?_ ?_
   · refine .plain ?_
     simp only [↓aQ,NW,reduceCtorEq,t3]
     simp [T.aB,t0,t2]
   rintro tm m H2 ⟨rfl,hH,t0,t2,t5⟩
   rw [hH]
   refine mR.aV3 (by show pS (tm.get [true,false,false])=_;rw [t5];rfl) ?_
   refine .plain ?_
   exact ⟨rfl,rfl,rfl,rfl,t0,t2⟩
 clear t0 t1 t2 t3 hH
 rintro tm m H2 ⟨rfl,hH,t0,t2⟩
 rw [hH]
 refine .plain ?_
 have aXb:X.at b=some (.row c 4 37 true false):=by rw [fX.at_ _ (by omega) fun h=>h];exact hat
 have g0:(aL [A0 e] 0 (aL [A0 0] 0 .nil fun t=>t) fun t=>t).get (path (0+0))=some (A0 e):=rfl
 have q1:Nat.blt (0+0) 1=true:=rfl
 simp only [↓aQ,NW,reduceCtorEq,pQ,t0,t2,aX,g0,q1,aXb]
 refine ⟨rfl,wX.put (by omega) _,(fX.mono fun _ _ h=>h.elim).cJ _ (fun _=>rfl) hb,by rw [aJ,if_pos rfl];rfl⟩
theorem Ow {nt na:Nat} {b:CC} {rs:List CR} {call:Call} {cd:cE} {args:List Value} {h:Hp} {g:FuncId} {a:List Value} {φ:Value→Hp→Prop} (hn:(Nat.beq (len args) na && Nat.ble na nt)=true)
 (hb:bC (iP b call (aL args 0 .nil fun t=>t) [] h) (fun e tm df h'=>df=[(g,a)]∧∃ c H',e=.panic c∧cd g a (.qB c) h'=.ok .ret H'∧Yields (Hr rs tm H') φ)):Yields (dD (.mk nt na b rs) call cd args h) φ:=by
 show Yields (bif Nat.beq (len args) na && Nat.ble na nt then Al args 0 .nil fun tm=>eL.rec (motive:=fun _=>fV) .none (fun e tm df h=>Ex.rec (motive:=fun _=>fV) (leave cd rs df tm .ret h) (fun _=>.none) (leave cd rs df tm .ret h) (fun c=>leave cd rs df tm (.qB c) h) e) (iP b call tm [] h) else .none) φ
 rw [hn,cond_true,rG,kL]
 revert hb
 cases iP b call (aL args 0 .nil fun t=>t) [] h with
 | none=>intro h;exact h.elim
 | ok e tm df h' =>
  rintro ⟨rfl,c,H',rfl,hc,hy⟩
  have key:leave cd rs [(g,a)] tm (.qB c) h'=Hr rs tm H':=by
   show Fi.rec (motive:=fun _=>fV) .none (fun m h=>Md.rec (motive:=fun _=>fV) (Hr rs tm h) (fun c=>.panic c h) m) (cd g a (.qB c) h')=_
   rw [hc]
  show Yields (leave cd rs [(g,a)] tm (.qB c) h') φ
  rw [key];exact hy
noncomputable def fnC:Value:=.func (.func 101) ⟨[]⟩ ⟨[]⟩
def aV6 (call:Call):Prop:=∀ h v1 v2 n1 m1 n2 m2 ops1 ops2,Es h v1 v2 n1 m1 n2 m2 ops1 ops2→(m1=n2→Yields (call 101 [.agg ⟨lJ⟩,.agg ⟨mG v1 v2⟩] h) (aLk n1 m2 ops1 ops2 h))∧(m1≠n2→Ce (call 101 [.agg ⟨lJ⟩,.agg ⟨mG v1 v2⟩] h) (aV1 61 h))
def aV7 (e:Nat) (h:Hp) (r:Value) (H:Hp):Prop:=r=.agg ⟨sE e 0 (.slice none 0 0)⟩∧Wf H∧Fr (fun _=>False) h H
def Aq (m1 n2 n m:Nat) (ops1 ops2:List eJ) (h:Hp) (r:Value) (H:Hp):Prop:=(m1=n2→aLk n m ops1 ops2 h r H)∧(m1≠n2→aV7 61 h r H)
theorem Es.eH {h H:Hp} {v1 v2:Value} {n1 m1 n2 m2:Nat} {ops1 ops2:List eJ} (hq:Es h v1 v2 n1 m1 n2 m2 ops1 ops2) (hw:Wf H) (f:Fr (fun _=>False) h H):Es H v1 v2 n1 m1 n2 m2 ops1 ops2:=⟨hw,hq.p1,hq.p2,hq.l1,hq.l2,hq.r1.eH hq.wf f,hq.r2.eH hq.wf f⟩
theorem aLl {R:Type} (k:FuncId→List Value→List Value→R) (z:R):vFn fnC k z=k 101 [] []:=rfl
theorem aB6 {call:Call} {cd:cE} (ha:aV6 call) (hcd:∀ b H,cd 103 [bE b 0] .ret H=.ok .ret H) (hcp:∀ b H c e,Wf H→H.at b=some (.row c 4 37 true false)→H.base≤b→∃ m' H',cd 103 [bE b 0] (.qB [pe e]) H=.ok m' H'∧aV4 b e c H m' H')
 {h:Hp} {n1 m1 n2 m2:Nat} {ops1 ops2:List eJ} {v1 v2:Value} (hq:Es h v1 v2 n1 m1 n2 m2 ops1 ops2) :
 Yields (dD Gw call cd [.agg ⟨lJ⟩,.agg ⟨mG v1 v2⟩,fnC] h) (Aq m1 n2 n1 m2 ops1 ops2 h):=by
 have hw:=hq.wf
 have hwb:=hw.base
 obtain ⟨b1,o1,l1,c1,rfl⟩:=hq.r1.one
 obtain ⟨b2,o2,l2,c2,rfl⟩:=hq.r2.one
 obtain ⟨K,hK⟩:∃ K,((h.new (aT lJ 3 45 true)).new (aT (mG (cB b1 o1 l1 c1) (cB b2 o2 l2 c2)) 12 54 true)).new (aT M7 4 37 true)=K:=⟨_,rfl⟩
 have wK:Wf K:=by rw [← hK];exact ((hw.new _).new _).new _
 have fK:Fr (fun _=>False) h K:=by rw [← hK];exact ((Fr.new _).dE _).dE _
 have nK:K.next=h.next+3:=by rw [← hK];rfl
 have a2:K.at h.next=some (aT lJ 3 45 true):=by rw [← hK,aM,aF,aF,if_neg (by omega),aM,aF,if_neg (by omega),aM,if_pos rfl]
 have a3:K.at (h.next+1)=some (aT (mG (cB b1 o1 l1 c1) (cB b2 o2 l2 c2)) 12 54 true):=by rw [← hK,aM,aF,aF,if_neg (by omega),aM,aF,if_pos rfl]
 have a4:K.at (h.next+1+1)=some (aT M7 4 37 true):=by rw [← hK,aM,aF,aF,if_pos rfl]
 have hA:=ha K _ _ n1 m1 n2 m2 ops1 ops2 (hq.eH wK fK)
 by_cases hmn:m1=n2
 · obtain ⟨r,G,e1,ops,p1,s1,v,rfl,ro,bv,wG,fG⟩:=(hA.1 hmn).get
   have kG:=fG.next
   obtain ⟨bb,oo,ll,cc,rfl⟩:=ro.one
   have a4G:G.at (h.next+1+1)=some (aT M7 4 37 true):=by rw [fG.at_ _ (by omega) fun h=>h];exact a4
   unfold sE at e1
   refine Er (g:=103) (a:=[bE (h.next+1+1) 0]) rfl ?_
   simp only [↓aQ,NV,reduceCtorEq,yX,pQ,evC,m0,m8,pW,gM,hK,aK5,Lz,aJG,List.nil_append,List.append_nil,a2,a3,Dz,aLl,e1,a4G]
   refine ⟨.inr rfl,rfl,hcd _ _,?_⟩
   rw [fI (b:=h.next+1+1) (by simp) (by rw [aJ,if_pos rfl]) (Nat.le_refl _) (sV _ _ _ _ _)]
   refine ⟨fun _=>⟨ops,p1,s1,_,rfl,ro.bT fun c _ hc=>(by rw [aJ,if_neg (by have:=(bv c hc).1;omega)]),fun c hc=>⟨by have:=(bv c hc).1;omega,by rw [aV];exact (bv c hc).2⟩,wG.put (by omega) _,(fK.trans (P:=fun _=>False) fG fun _ _ h=>h).cJ _ (fun h=>by omega) (by omega)⟩,fun h=>absurd hmn h⟩
 · obtain ⟨c,G,e1,rfl,wG,fG⟩:=(hA.2 hmn).get
   have kG:=fG.next
   have a4G:G.at (h.next+1+1)=some (aT M7 4 37 true):=by rw [fG.at_ _ (by omega) fun h=>h];exact a4
   have f0:=fK.trans (P:=fun _=>False) fG fun _ _ h=>h
   obtain ⟨m',H',e2,rfl,wH,fH,aH⟩:=hcp (h.next+1+1) G _ 61 wG a4G (by rw [f0.base];omega)
   refine Ow (g:=103) (a:=[bE (h.next+1+1) 0]) rfl ?_
   simp only [↓aQ,NV,reduceCtorEq,yX,pQ,evC,m0,m8,pW,gM,hK,aK5,Lz,aJG,List.nil_append,List.append_nil,a2,a3,Dz,aLl,e1,aB4,aLd]
   refine ⟨_,H',rfl,e2,?_⟩
   rw [fI (b:=h.next+1+1) (by rfl) aH (Nat.le_refl _) (sV _ _ _ _ _)]
   exact ⟨fun h=>absurd h hmn,fun _=>⟨rfl,wH,f0.trans (P:=fun _=>False) fH fun k hk h=>(by omega)⟩⟩
def aEp (call:Call):Prop:=∀ h v1 v2 n1 m1 n2 m2 ops1 ops2,Es h v1 v2 n1 m1 n2 m2 ops1 ops2→Yields (call 47 [.agg ⟨lJ⟩,.agg ⟨mG v1 v2⟩,fnC] h) (Aq m1 n2 n1 m2 ops1 ops2 h)
noncomputable def qsM:List (Value×Value):=[(A0 3,.func (.func 97) ⟨[]⟩ ⟨[]⟩),(A0 4,.func (.func 98) ⟨[]⟩ ⟨[]⟩),(A0 5,.func (.func 99) ⟨[]⟩ ⟨[]⟩),(A0 6,.func (.func 100) ⟨[]⟩ ⟨[]⟩),(A0 7,fnC),(A0 8,.func (.func 102) ⟨[]⟩ ⟨[]⟩)]
def QsR (h:Hp) (v:Value) (H:Hp):Prop:=v=.map (some h.next)∧H.next=h.next+1∧H.base=h.base∧H.log=h.log∧H.at h.next=some (.mp qsM)∧∀ b,b≠h.next→H.at b=h.at b
theorem Ox {call:Call} {cd:cE} {h:Hp} (hb:h.base≤h.next):Yields (dD wO call cd [] h) (QsR h):=by
 refine aP rfl ?_
 have p1:∀ v,xL 2 (A0 3) v []=some [(A0 3,v)]:=fun v=>rfl
 have p2:∀ v v',xL 2 (A0 4) v [(A0 3,v')]=some [(A0 3,v'),(A0 4,v)]:=fun v v'=>rfl
 have p3:∀ v v1 v2,xL 2 (A0 5) v [(A0 3,v1),(A0 4,v2)]=some [(A0 3,v1),(A0 4,v2),(A0 5,v)]:=fun v v1 v2=>rfl
 have p4:∀ v v1 v2 v3,xL 2 (A0 6) v [(A0 3,v1),(A0 4,v2),(A0 5,v3)]=some [(A0 3,v1),(A0 4,v2),(A0 5,v3),(A0 6,v)]:=fun v v1 v2 v3=>rfl
 have p5:∀ v v1 v2 v3 v4,xL 2 (A0 7) v [(A0 3,v1),(A0 4,v2),(A0 5,v3),(A0 6,v4)]=some [(A0 3,v1),(A0 4,v2),(A0 5,v3),(A0 6,v4),(A0 7,v)]:=fun v v1 v2 v3 v4=>rfl
 have p6:∀ v v1 v2 v3 v4 v5,xL 2 (A0 8) v [(A0 3,v1),(A0 4,v2),(A0 5,v3),(A0 6,v4),(A0 7,v5)]=some [(A0 3,v1),(A0 4,v2),(A0 5,v3),(A0 6,v4),(A0 7,v5),(A0 8,v)]:=fun v v1 v2 v3 v4 v5=>rfl
 have vt:∀ n,Nat.beq (Ac (A0 n)) 2=true:=fun n=>rfl
 simp only [↓aQ,A3,reduceCtorEq,aQP,Sm,aJV,Sn,vt,p1,p2,p3,p4,p5,p6]
 refine .ret ?_
 simp only [↓aQ,A3,reduceCtorEq]
 refine ⟨rfl,rfl,rfl,?_,?_,fun b hb'=>?_⟩
 · have hl:∀ (H:Hp) (o:Option dY),H.base=h.base→(H.put h.next o).log=H.log:=fun H o e=>kM (by rw [e];exact hb)
   rw [hl,hl,hl,hl,hl,hl]<;>rfl
 · rw [aJ,if_pos rfl];rfl
 · simp only [aJ,aM,if_neg (fun e=>hb' e.symm:¬ h.next=b)]
def QsC (call:Call):Prop:=∀ H,H.base≤H.next→Yields (call 46 [] H) (QsR H)
theorem aGf {n1 n2 b1 b2:Nat} {p1 p2:List Bool} {tm:T Value} {h:Hp} {c1 c2:T Value} {m1 m2:Nat} {e1 e2:TypeId} {cl1 ro1 cl2 ro2:Bool} {l1 l2:List Value} (ht1:tm.get p1=some (bE b1 0)) (ht2:tm.get p2=some (bE b2 0))
 (hat1:h.at b1=some (.row c1 m1 e1 cl1 ro1)) (hat2:h.at b2=some (.row c2 m2 e2 cl2 ro2)) (hm1:n1≤m1) (hm2:n2≤m2) (hl1:cR c1 0 n1 []=some l1) (hl2:cR c2 0 n2 []=some l2) :
 Hr [.cell true n1 p1,.cell true n2 p2] tm h=.val (.tuple ⟨[.agg ⟨l1⟩,.agg ⟨l2⟩]⟩) h:=by
 have h2:aAR [.cell true n1 p1,.cell true n2 p2] tm h=some [.agg ⟨l1⟩,.agg ⟨l2⟩]:=by
  show eC (Ae (.cell true n1 p1) tm h) (fun v=>eC (eC (Ae (.cell true n2 p2) tm h) (fun v=>eC (some ([]:List Value)) (fun l=>some (v::l)) none) none) (fun l=>some (v::l)) none) none=_
  rw [uM ht1 hat1 hm1 hl1,uM ht2 hat2 hm2 hl2];rfl
 unfold Hr
 rw [h2];rfl
theorem Zb:[Value.slice none 0 0,.slice none 0 0,.slice none 0 0]=lJ:=rfl
theorem aEq:(aL lJ 0 .nil fun t=>t).get (path (0+0))=some (.slice none 0 0):=rfl
theorem aEr:(aL lJ 0 .nil fun t=>t).get (path (0+1))=some (.slice none 0 0):=rfl
theorem aEs:(aL lJ 0 .nil fun t=>t).get (path (0+2))=some (.slice none 0 0):=rfl
theorem aO9 (e N:Nat) (v:Value) (c:T Value):cR (aL (sE e N v) 0 c fun t=>t) 0 4 []=some (sE e N v):=sV _ _ _ _ _
def aYU (v:Value):Prop:=∃ e N w,v=.agg ⟨sE e N w⟩∧bY (sE e N w)=true
theorem Aq.ans {m1 n2 n m:Nat} {ops1 ops2:List eJ} {h H:Hp} {r:Value} (hc:Aq m1 n2 n m ops1 ops2 h r H):aYU r∧Wf H∧Fr (fun _=>False) h H:=by
 by_cases hmn:m1=n2
 · obtain ⟨ops,_,_,v,rfl,ro,_,w,f⟩:=hc.1 hmn
   obtain ⟨b,o,l,c,rfl⟩:=ro.one
   exact ⟨⟨_,_,_,rfl,rfl⟩,w,f⟩
 · obtain ⟨rfl,w,f⟩:=hc.2 hmn
   exact ⟨⟨_,_,_,rfl,rfl⟩,w,f⟩
theorem Aq.eH {m1 n2 n m:Nat} {ops1 ops2:List eJ} {h0 h H H':Hp} {r:Value} (hc:Aq m1 n2 n m ops1 ops2 h r H) (hn:h0.next≤h.next) (hn':H.next≤H'.next) (hw:Wf H') (f:Fr (fun _=>False) h0 H') (e:∀ c,h.next≤c→c<H.next→H'.at c=H.at c):Aq m1 n2 n m ops1 ops2 h0 r H':=by
 refine ⟨fun hmn=>?_,fun hmn=>?_⟩
 · obtain ⟨ops,p,s,v,rfl,ro,bv,_,_⟩:=hc.1 hmn
   exact ⟨ops,p,s,v,rfl,ro.bT fun c _ h=>e c (bv c h).1 (bv c h).2,fun c h=>⟨Nat.le_trans hn (bv c h).1,Nat.lt_of_lt_of_le (bv c h).2 hn'⟩,hw,f⟩
 · obtain ⟨rfl,_,_⟩:=hc.2 hmn
   exact ⟨rfl,hw,f⟩
def DoR (m1 n2 n m:Nat) (ops1 ops2:List eJ) (h:Hp) (v:Value) (H:Hp):Prop:=∃ r,v=.tuple ⟨[.agg ⟨lJ⟩,r]⟩∧Aq m1 n2 n m ops1 ops2 h r H
theorem aS4 {call:Call} {cd:cE} (hqs:QsC call) (hans:aEp call) {h:Hp} {n1 m1 n2 m2:Nat} {ops1 ops2:List eJ} {v1 v2:Value} (hq:Es h v1 v2 n1 m1 n2 m2 ops1 ops2) :
 Yields (dD aKv call cd [.agg ⟨lJ⟩,.agg ⟨mG v1 v2⟩] h) (DoR m1 n2 n1 m2 ops1 ops2 h):=by
 have hw:=hq.wf
 refine aP rfl ?_
 have hb:=hw.base
 have q3:Nat.ble (0+3) 3=true:=rfl
 have q12:Nat.ble (0+12) 12=true:=rfl
 have q4:Nat.ble (0+4) 4=true:=rfl
 have q0:Nat.blt (0+0) 12=true:=rfl
 have g0:=aLi v1 v2
 have u0:=aEq
 have u1:=aEr
 have u2:=aEs
 have k3:=Zb
 have k12:=aLj v1 v2 .nil
 rw [Dr]
 refine bC.mT (φ:=Ho fun e tm df H=>e=.normal∧df=[]∧tm.get [true,false]=some (bE (h.next+3) 0)∧tm.get [false,true]=some (bE (h.next+2) 0)∧tm.get [true,true]=some (bE (h.next+1) 0)∧tm.get [false]=some (bE h.next 0)∧H.next=h.next+4∧Wf H∧Fr (fun _=>False) h H ∧
  H.at h.next=some (aT lJ 3 47 true)∧H.at (h.next+1)=some (aT (mG v1 v2) 12 54 true)∧H.at (h.next+2)=some (aT lJ 3 47 true)∧H.at (h.next+3)=some (aT M7 4 37 true)) ?_ ?_
 · simp only [↓aQ,A3,reduceCtorEq,aEn,Nj]
   refine ⟨?_⟩
   refine ⟨rfl,rfl,by simp,by simp,by simp,by simp,rfl,(((hw.new _).new _).new _).new _,(((Fr.new _).dE _).dE _).dE _,?_,?_,?_,?_⟩
   · simp only [aM,aF,aI7,aI8,aI9,if_false,if_true]
   · rw [aM,aF,aF,aF,if_neg (by omega),aM,aF,aF,if_neg (by omega),aM,aF,if_pos rfl]
   · rw [aM,aF,aF,aF,if_neg (by omega),aM,aF,aF,if_pos rfl];rfl
   · rw [aM,aF,aF,aF,if_pos rfl]
 rintro e tm df H ⟨⟨rfl,rfl,t5,t4,t3,t2,hn,hw1,hk,a2,a3,a4,a5⟩⟩
 rw [Ry,Dr]
 have q81:Nat.beq 7 1=false:=rfl
 have q82:Nat.beq 7 2=false:=rfl
 refine bC.mT (φ:=Ho fun e tm' df H'=>e=.normal∧df=[]∧H'=H∧tm'.get [true,false]=some (bE (h.next+3) 0)∧tm'.get [false,true]=some (bE (h.next+2) 0)∧tm'.get [true,true]=some (bE (h.next+1) 0)∧tm'.get [false]=some (bE h.next 0)) ?_ ?_
 · simp only [↓aQ,A3,reduceCtorEq,t3,a3,q0,g0,q81,q82]
   refine ⟨?_⟩
   exact ⟨rfl,rfl,rfl,by simp [t5],by simp [t4],by simp [t3],by simp [t2]⟩
 clear t5 t4 t3 t2
 rintro e tm df H1 ⟨⟨rfl,rfl,rfl,t5,t4,t3,t2⟩⟩
 rw [Ry,Dr]
 obtain ⟨w,H2,e23,rfl,nx2,b2,l2,mm2',at2⟩:=(hqs (aS H1 H1.next []) (Nat.le_refl _)).get
 rw [cL] at e23 nx2 mm2' at2
 rw [mL] at b2
 rw [Ds] at l2
 have hk2:Fr (fun _=>False) H1 (aS H2 H1.base H1.log):=⟨rfl,rfl,by rw [cL,nx2];omega,fun b hb _=>by rw [dM,at2 b (by omega)];rfl⟩
 have hw2:Wf (aS H2 H1.base H1.log):=⟨fun b hb=>by
  rw [cL,nx2] at hb
  rw [dM,at2 b (by omega)]
  exact hw1.dead b (by omega),by rw [mL,cL,nx2];have:=hw1.base;omega⟩
 have a3':H2.at (h.next+1)=some (aT (mG v1 v2) 12 54 true):=by rw [at2 _ (by omega)];exact a3
 have hf:p9 2 (A0 7) qsM (fun v=>pH true v true) (pH true .nilFunc false) none=some (.tuple ⟨[fnC,.bool true]⟩):=rfl
 refine bC.mT (φ:=Ho fun e tm' df H'=>e=.normal∧df=[]∧H'=aS H2 H1.base H1.log∧tm'.get [true,false]=some (bE (h.next+3) 0)∧tm'.get [false,true]=some (bE (h.next+2) 0)∧tm'.get [true,true]=some (bE (h.next+1) 0)∧tm'.get [false]=some (bE h.next 0)∧tm'.get [true,true,false]=some (.bool true)∧tm'.get [false,false,true]=some fnC) ?_ ?_
 · simp only [↓aQ,A3,reduceCtorEq,t3,e23,l2,a3',q0,g0,aBx,Sm,mm2',Sn,hf,iX,nW,oD]
   refine ⟨?_⟩
   exact ⟨rfl,rfl,rfl,by simp [t5],by simp [t4],by simp [t3],by simp [t2],by simp,by simp⟩
 clear t5 t4 t3 t2
 rintro e tm df H3 ⟨⟨rfl,rfl,hH3,t5,t4,t3,t2,t11,t10⟩⟩
 rw [← hH3] at hk2 hw2
 have n3:H3.next=h.next+5:=by rw [hH3,cL,nx2,hn]
 have hk3:Fr (fun _=>False) h H3:=hk.trans (P:=fun _=>False) hk2 fun _ _ h=>h
 have b3:∀ c,c<H1.next→H3.at c=H1.at c:=fun c hc=>hk2.at_ c hc fun h=>h
 rw [Ry,Dr]
 have hqS:Es (aS H3 H3.next []) v1 v2 n1 m1 n2 m2 ops1 ops2:=by
  have h3:=hq.eH hw2 hk3
  exact ⟨hw2.sb [],h3.p1,h3.p2,h3.l1,h3.l2,h3.r1.bT fun c _ _=>(by rw [dM]),h3.r2.bT fun c _ _=>(by rw [dM])⟩
 obtain ⟨r,H4,e24,hcq⟩:=(hans (aS H3 H3.next []) v1 v2 n1 m1 n2 m2 ops1 ops2 hqS).get
 obtain ⟨⟨re,rN,rw_,rfl,hao⟩,hw4,hk4⟩:=hcq.ans
 have l4:H4.log=[]:=hk4.log
 have n4:h.next+5≤H4.next:=by have:=hk4.next;rw [cL] at this;omega
 have at4:∀ c,c<H3.next→H4.at c=H3.at c:=fun c hc=>hk4.at_ c hc fun h=>h
 have a23:H3.at h.next=some (aT lJ 3 47 true):=by rw [b3 _ (by omega)];exact a2
 have a33:H3.at (h.next+1)=some (aT (mG v1 v2) 12 54 true):=by rw [b3 _ (by omega)];exact a3
 have a44:H4.at (h.next+2)=some (aT lJ 3 47 true):=by rw [at4 _ (by omega),b3 _ (by omega)];exact a4
 have a54:H4.at (h.next+3)=some (aT M7 4 37 true):=by rw [at4 _ (by omega),b3 _ (by omega)];exact a5
 have y1:Nat.ble H3.next (h.next+2)=false:=eN (by omega)
 have y2:Nat.ble H3.next (h.next+3)=false:=eN (by omega)
 have y3:Nat.ble H4.next (h.next+3)=false:=eN (by omega)
 have y4:jN H4.next [] (h.next+2)=[h.next+2]:=kQ (by omega)
 have y5:jN H4.next [] (h.next+3)=[h.next+3]:=kQ (by omega)
 have hb3:H3.base≤h.next:=by rw [hk3.base];exact hb
 have y6:∀ l,below H3.base [h.next+2] l=l:=pY (by omega)
 have y7:∀ l,below H3.base [h.next+3] l=l:=pY (by omega)
 have x1:Nat.beq (h.next+1) (h.next+2)=false:=dO (by omega)
 have x2:Nat.beq h.next (h.next+2)=false:=dO (by omega)
 have x3:Nat.beq (h.next+1) (h.next+3)=false:=dO (by omega)
 have x4:Nat.beq h.next (h.next+3)=false:=dO (by omega)
 have x5:Nat.beq (h.next+2) (h.next+3)=false:=dO (by omega)
 have x6:(h.next+2=h.next+3)=False:=by simp
 have hal:(sE re rN rw_).length=4:=rfl
 simp only [↓aQ,A3,reduceCtorEq,t11,t5,t4,t3,t2,t10,a23,a33,q3,q12,u0,u1,u2,k3,↓k12,e24,l4,a44,a54,y1,y2,y3,y4,y5,y6,y7,x1,x2,x3,x4,x5,x6,hal,hao,q4,Nj,Yy,Nat.add_zero]
 refine .ret ?_
 rw [aGf (l1:=lJ) (l2:=sE re rN rw_) (b1:=h.next+2) (b2:=h.next+3) (by simp [t4]) (by simp [t5]) (by rw [dM,aJ,if_neg (by omega),aJ,if_pos rfl]) (by rw [dM,aJ,if_pos rfl]) (Nat.le_refl _) (Nat.le_refl _) (aEo _) (aO9 _ _ _ _)]
 have hwX:=((hw4.put (b:=h.next+2) (by omega) (some (.row (aL lJ 0 (aL lJ 0 .nil fun t=>t) fun t=>t) 3 47 true false))).put (b:=h.next+3) (by rw [aV];omega) (some (.row (aL (sE re rN rw_) 0 (aL M7 0 .nil fun t=>t) fun t=>t) 4 37 true false)))
 refine ⟨_,rfl,hcq.eH (by rw [cL];omega) (by rw [cL,aV,aV];omega) ⟨hwX.dead,?_⟩ ⟨?_,?_,?_,fun c hc _=>?_⟩ fun c hc _=>?_⟩
 · rw [mL,cL,aV,aV];omega
 · rw [mL];exact hk3.base
 · rw [Ds];exact hk3.log
 · rw [cL,aV,aV];omega
 · rw [dM,aJ,if_neg (by omega),aJ,if_neg (by omega),at4 c (by omega)];exact hk3.at_ c hc fun h=>h
 · rw [cL] at hc
   rw [dM,aJ,if_neg (by omega),aJ,if_neg (by omega)]
def DoC (call:Call):Prop:=∀ h v1 v2 n1 m1 n2 m2 ops1 ops2,Es h v1 v2 n1 m1 n2 m2 ops1 ops2→Yields (call 24 [.agg ⟨lJ⟩,.agg ⟨mG v1 v2⟩] h) (DoR m1 n2 n1 m2 ops1 ops2 h)
theorem aPa {call:Call} {cd:cE} (hdo:DoC call) {h:Hp} {n1 m1 n2 m2:Nat} {ops1 ops2:List eJ} {v1 v2:Value} (hq:Es h v1 v2 n1 m1 n2 m2 ops1 ops2) :
 Yields (dD aBU call cd [.agg ⟨lJ⟩,.agg ⟨mG v1 v2⟩] h) (Aq m1 n2 n1 m2 ops1 ops2 h):=by
 have hw:=hq.wf
 have hwb:=hw.base
 obtain ⟨b1,o1,l1,c1,rfl⟩:=hq.r1.one
 obtain ⟨b2,o2,l2,c2,rfl⟩:=hq.r2.one
 obtain ⟨K,hK⟩:∃ K,((h.new (aT lJ 3 47 true)).new (aT (mG (cB b1 o1 l1 c1) (cB b2 o2 l2 c2)) 12 54 true)).new (aT M7 4 37 true)=K:=⟨_,rfl⟩
 have wK:Wf K:=by rw [← hK];exact ((hw.new _).new _).new _
 have fK:Fr (fun _=>False) h K:=by rw [← hK];exact ((Fr.new _).dE _).dE _
 have nK:K.next=h.next+3:=by rw [← hK];rfl
 have a2:K.at h.next=some (aT lJ 3 47 true):=by rw [← hK,aM,aF,aF,if_neg (by omega),aM,aF,if_neg (by omega),aM,if_pos rfl]
 have a3:K.at (h.next+1)=some (aT (mG (cB b1 o1 l1 c1) (cB b2 o2 l2 c2)) 12 54 true):=by rw [← hK,aM,aF,aF,if_neg (by omega),aM,aF,if_pos rfl]
 have a4:K.at (h.next+1+1)=some (aT M7 4 37 true):=by rw [← hK,aM,aF,aF,if_pos rfl]
 obtain ⟨r,G,e1,r',rfl,hcq⟩:=(hdo K _ _ n1 m1 n2 m2 ops1 ops2 (hq.eH wK fK)).get
 obtain ⟨⟨re,rN,rw_,rfl,hao⟩,wG,fG⟩:=hcq.ans
 have kG:=fG.next
 have a4G:G.at (h.next+1+1)=some (aT M7 4 37 true):=by rw [fG.at_ _ (by omega) fun h=>h];exact a4
 have f0:=fK.trans (P:=fun _=>False) fG fun _ _ h=>h
 have k3:=Zb
 have u0:=aEq
 have u1:=aEr
 have u2:=aEs
 have hao':=hao
 unfold sE at e1 hao
 have d1:(G.next+1=h.next+1+1)=False:=eq_false (by omega)
 have d2:(G.next=h.next+1+1)=False:=eq_false (by omega)
 refine aP rfl ?_
 simp only [↓aQ,NV,reduceCtorEq,yX,pQ,evC,k3,u0,u1,u2,cN,cP,gM,hK,a2,a3,e1,iX,nW,oD,hao,a4G,d1,d2]
 refine .ret ?_
 rw [fI (b:=h.next+1+1) (by simp) (by rw [aJ,if_pos rfl]) (Nat.le_refl _) (sV _ _ _ _ _)]
 refine hcq.eH (h0:=h) (by omega) ?_ ?_ ?_ fun c hc h2=>?_
 · simp only [aV,aF];omega
 · refine Wf.put (Wf.put (Wf.put ((wG.new _).new _) ?_ _) ?_ _) ?_ _<;>(simp only [aV,aF];omega)
 · exact ((((f0.dE _).dE _).cJ _ (fun h=>by omega) (by omega)).cJ _ (fun h=>by omega) (by omega)).cJ _ (fun h=>by omega) (by omega)
 · simp only [aJ,aM,aF]
   repeat rw [if_neg (by omega)]
def aQ6 (call:Call):Prop:=∀ h v1 v2 n1 m1 n2 m2 ops1 ops2,Es h v1 v2 n1 m1 n2 m2 ops1 ops2→Yields (call 8 [.agg ⟨lJ⟩,.agg ⟨mG v1 v2⟩] h) (Aq m1 n2 n1 m2 ops1 ops2 h)
noncomputable def rtF (t:List Nat) (k:Nat):Value:=if k<256 then A0 (Rc.gO t k) else A0 (Rc.iW t)
def RtR (h:Hp) (b:Nat) (t:List Nat):Prop:=iR h b 257 (rtF t)
noncomputable def z64:Value:=A0 0
noncomputable def frF (i k:Nat):Value:=if k=256 then A0 256 else if k<i then A0 1 else z64
structure Fh (h:Hp) (i:Nat) (tm:T Value) (df:Df) (H:Hp):Prop where
 df:df=[]
 t1:tm.get [true]=some (bE h.next 0)
 t2:tm.get [false]=some (A0 i)
 wf:Wf H
 fr:Fr (fun _=>False) h H
 nx:H.next=h.next+1
 row:iR H h.next 257 (frF i)
def aLn (h:Hp) (v:Value) (H:Hp):Prop:=v=bE h.next 0∧RtR H h.next []∧Wf H∧Fr (fun _=>False) h H∧H.next=h.next+1
theorem aCd {call:Call} {cd:cE} {h:Hp} (hw:Wf h):Yields (dD Hf call cd [] h) (aLn h):=by
 have hb:=hw.base
 generalize hov:over (eW 257 z64) 256 [A0 256]=ov
 have hovl:ov.length=257:=by rw [← hov,kE,fO]
 have hbd:∀ (lo:List Value) (tm:T Value),cZ (eW 257 z64) [(256,(1,.val (A0 256)))] lo tm=some (.agg ⟨ov⟩):=fun lo tm=>by
  have k2:(eW 257 z64).length=257:=fO _ _
  rw [Du,zO]
  show oE 256 1 (A0 256) _ _ none=_
  rw [Jd,k2,Nat.beq_refl,cond_true,cX (by omega),cond_true,Dv,hov]
 unfold z64 at hbd
 refine aP rfl ?_
 simp only [↓hbd,↓aQ,A3,reduceCtorEq,hovl]
 refine bC.mT (φ:=fun e tm df H=>e=.normal∧Fh h 256 tm df H) (bC.mT (φ:=fun e tm df H=>e=.exit 0∧Fh h 256 tm df H) ?_ ?_) ?_
 · refine cT (n:=256) (by omega) (Fh h) ?_ ?_ ?_
   · intro i tm df H hi p
     obtain ⟨rfl,t1,t2,wf,fr,nx,⟨c,e,cl,hat,hc⟩⟩:=p
     have e1:Nat.blt i 256=true:=bU hi
     have e2:Nat.ble (i+1) 257=true:=cX (by omega)
     have w1:aR .i64 (.ofNat (i+1))=.ofNat (i+1):=bF (by omega)
     simp only [↓aQ,A3,reduceCtorEq,xB,dI,dJ,t1,t2,hat,e1,e2,w1,Nat.mul_one,Nat.zero_add]
     refine .go ⟨rfl,by simp [t1],by simp,wf.put (wf.lt hat) _,fr.cJ _ (fun h=>by omega) (by omega),nx,?_⟩
     refine (iI hc i (A0 1)).congr fun k hk=>?_
     unfold frF
     by_cases e:k=i
     · rw [if_pos e,if_neg (by omega),if_pos (by omega)]
     · rw [if_neg e]
       by_cases e0:k=256
       · rw [if_pos e0,if_pos e0]
       · rw [if_neg e0,if_neg e0]
         by_cases e':k<i
         · rw [if_pos e',if_pos (by omega)]
         · rw [if_neg e',if_neg (by omega)]
   · intro tm df H p
     obtain ⟨rfl,t1,t2,wf,fr,nx,row⟩:=p
     have e1:Nat.blt 256 256=false:=rfl
     simp only [↓aQ,A3,reduceCtorEq,xB,t2,e1]
     exact .ex ⟨rfl,rfl,by simp [t1],by simp [t2],wf,fr,nx,row⟩
   · refine ⟨rfl,by simp,by simp,hw.new _,Fr.new _,rfl,?_⟩
     refine rL hovl fun k hk=>?_
     rw [← hov,rE _ _ _ _ (by rw [fO];exact Nat.le_refl _)]
     unfold frF
     by_cases e:k=256
     · rw [if_pos e,if_pos ⟨by omega,by show k<256+1;omega⟩,e];rfl
     · rw [if_neg e,if_neg (by show ¬ (256≤k∧k<256+1);omega),if_neg (by omega),yM (by omega)]
 · rintro e tm df H ⟨rfl,rest⟩;exact ⟨rfl,rest⟩
 rintro ex tm df H ⟨rfl,⟨hdf,t1,t2,wf,fr,nx,row⟩⟩
 subst hdf
 simp only [↓aQ,A3,reduceCtorEq,t1]
 refine .ret ?_
 simp only [↓aQ,A3,reduceCtorEq]
 refine ⟨rfl,row.congr fun k hk=>?_,wf,fr,nx⟩
 unfold frF rtF
 by_cases e:k=256
 · rw [if_pos e,if_neg (by omega)];rfl
 · rw [if_neg e,if_pos (by omega),if_pos (by omega)];rfl
def aLo (call:Call):Prop:=∀ H,Wf H→Yields (call 75 [] H) (aLn H)
structure Bf (b c:Nat) (t:List Nat) (h:Hp) (i:Nat) (tm:T Value) (df:Df) (H:Hp):Prop where
 df:df=[]
 hh:H=h
 t0:tm.get []=some (bE b 0)
 t1:tm.get [true]=some (A1 c)
 t5:tm.get [true,false]=some (A0 (Rc.jK t i))
 t6:tm.get [false,false]=some (A0 i)
theorem Zf {call:Call} {cd:cE} {h:Hp} {b c:Nat} {t:List Nat} (hr:RtR h b t) (ht:t.length≤2000) (hc:c<256):dD Ci call cd [bE b 0,A1 c] h=.val (A0 (Rc.jK t c)) h:=by
 refine EqR.get ?_
 obtain ⟨cc,e,cl,hat,hcc⟩:=hr
 have w0:aR .i64 (.ofNat c)=.ofNat c:=bF (by omega)
 refine aP rfl ?_
 simp only [↓aQ,A3,reduceCtorEq]
 refine bC.mT (φ:=fun e tm df H=>e=.normal∧Bf b c t h c tm df H) (bC.mT (φ:=fun e tm df H=>e=.exit 0∧Bf b c t h c tm df H) ?_ ?_) ?_
 · refine cT (n:=c) (by omega) (Bf b c t h) ?_ ?_ ?_
   · intro i tm df H hi p
     obtain ⟨rfl,rfl,t0,t1,t5,t6⟩:=p
     have e1:Nat.blt i c=true:=bU hi
     have e2:Nat.blt (0+0+i*1) 257=true:=bU (by omega)
     have e3:Nat.blt i 256=true:=bU (by omega)
     have e4:cc.get (path (0+0+i*1))=some (A0 (Rc.gO t i)):=by
      rw [show 0+0+i*1=i by omega,hcc i (by omega)];unfold rtF;rw [if_pos (by omega)]
     have l1:=vP ht (k:=i+1) (by omega)
     have l2:=Rc.rI t i
     have w1:aR .i64 (.ofNat (i+1))=.ofNat (i+1):=bF (by omega)
     have w2:aR .i64 (.ofNat (Rc.jK t i+Rc.gO t i))=.ofNat (Rc.jK t i+Rc.gO t i):=bF (by omega)
     simp only [↓aQ,A3,reduceCtorEq,uA,dI,dJ,t0,t1,t5,t6,hat,e1,e2,e3,e4,w0,w1,w2]
     exact .go ⟨rfl,rfl,by simp [t0],by simp [t1],by rw [l2];simp [T.aB],by simp⟩
   · intro tm df H p
     obtain ⟨rfl,rfl,t0,t1,t5,t6⟩:=p
     have e1:Nat.blt c c=false:=cI (Nat.le_refl _)
     simp only [↓aQ,A3,reduceCtorEq,uA,t1,t6,w0,e1]
     exact .ex ⟨rfl,rfl,rfl,by simp [t0],by simp [t1],by simp [t5],by simp [t6]⟩
   · exact ⟨rfl,rfl,by simp [cN],by simp [cP],by rw [Rc.Lk];simp [T.aB],by simp⟩
 · rintro e tm df H ⟨rfl,rest⟩;exact ⟨rfl,rest⟩
 rintro ex tm df H ⟨rfl,⟨rfl,rfl,t0,t1,t5,t6⟩⟩
 simp only [↓aQ,A3,reduceCtorEq,t5]
 refine .ret ?_
 simp only [↓aQ,A3,reduceCtorEq]
 exact ⟨rfl,rfl⟩
def aEt (call:Call):Prop:=∀ H b c t,RtR H b t→t.length≤2000→c<256→call 76 [bE b 0,A1 c] H=.val (A0 (Rc.jK t c)) H
theorem aPb (t:List Nat) {x:Nat} (hx:x<256) (k:Nat) (hk:k<257):(if k=256 then A0 (Rc.iW t+32) else if k=x then A0 (Rc.gO t x+32) else rtF t k)=rtF (t++[x]) k:=by
 by_cases h1:k=256
 · rw [if_pos h1]
   have e:rtF (t++[x]) k=A0 (Rc.iW (t++[x])):=if_neg (by omega)
   have:Rc.iW (t++[x])=Rc.iW t+32:=by unfold Rc.iW;simp;omega
   rw [e,this]
 · rw [if_neg h1]
   have e:rtF (t++[x]) k=A0 (Rc.gO (t++[x]) k):=if_pos (by omega)
   rw [e]
   by_cases h2:k=x
   · rw [if_pos h2,h2]
     have:Rc.gO (t++[x]) x=Rc.gO t x+32:=by unfold Rc.gO;rw [List.count_append,List.count_singleton_self];omega
     rw [this]
   · rw [if_neg h2]
     have e2:rtF t k=A0 (Rc.gO t k):=if_pos (by omega)
     have:Rc.gO (t++[x]) k=Rc.gO t k:=by
      unfold Rc.gO
      rw [List.count_append,List.count_singleton,if_neg (by simp;omega)];rfl
     rw [e2,this]
def aQ7 (b:Nat) (t:List Nat) (h:Hp) (v:Value) (H:Hp):Prop:=v=.tuple ⟨[]⟩∧Wf H∧Fr (fun k=>k=b) h H∧H.next=h.next∧RtR H b t
theorem aGj {call:Call} {cd:cE} {h:Hp} {b x:Nat} {t:List Nat} (hw:Wf h) (hb:h.base≤b) (hr:RtR h b t) (ht:t.length<2000) (hx:x<256):Yields (dD Nr call cd [bE b 0,A1 x] h) (aQ7 b (t++[x]) h):=by
 have hlt:=hr.lt hw
 obtain ⟨c,e,cl,hat,hc⟩:=hr
 have l1:=yO (Nat.le_of_lt ht) x
 have l2:=Lm (Nat.le_of_lt ht)
 have e1:c.get (path (0+0+x*1))=some (A0 (Rc.gO t x)):=by
  rw [show 0+0+x*1=x by omega,hc x (by omega)];unfold rtF;rw [if_pos hx]
 have e2:Nat.blt (0+0+x*1) 257=true:=bU (by omega)
 have e3:Nat.blt x 256=true:=bU hx
 have e4:Nat.ble (0+0+x*1+1) 257=true:=cX (by omega)
 have w1:aR .i64 (.ofNat (Rc.gO t x+32))=.ofNat (Rc.gO t x+32):=bF (by omega)
 have w2:aR .i64 (.ofNat (Rc.iW t+32))=.ofNat (Rc.iW t+32):=bF (by omega)
 have k1:comp Nq 5 10=true:=rfl
 have hlog:jN h.next [] b=[b]:=kQ hlt
 have hbl:∀ l,below h.base [b] l=l:=pY hb
 have kb:Nat.beq b b=true:=Nat.beq_refl b
 have hlog2:=aBr (h:=h) (o:=some (dY.row (aL [A0 (Rc.gO t x+32)] (0+0+x*1) c fun t=>t) 257 e cl false)) hb
 refine aP rfl ?_
 rw [Dr]
 refine bC.mT (φ:=Ho fun ex tm df H=>ex=.normal∧df=[]∧tm.get []=some (bE b 0)∧Wf H∧Fr (fun k=>k=b) h H∧H.next=h.next∧iR H b 257 (fun k=>if k=x then A0 (Rc.gO t x+32) else rtF t k)) ?_ ?_
 · simp only [↓aQ,A3,reduceCtorEq,cN,cP,dI,dJ,hat,e1,e2,e3,e4,w1,k1,hlog,hbl,kb,hlog2]
   refine ⟨?_⟩
   refine ⟨rfl,rfl,by simp [cN],hw.put hlt _,Fr.put _ rfl hb,rfl,?_⟩
   have:=iI (h:=h) (b:=b) (e:=e) (cl:=cl) hc x (A0 (Rc.gO t x+32))
   rw [show 0+0+x*1=x by omega]
   exact this
 rintro ex tm df H ⟨⟨rfl,rfl,t0,wf,fr,hn,⟨c2,e',cl',hat2,hc2⟩⟩⟩
 rw [Ry]
 have e5:c2.get (path (0+256))=some (A0 (Rc.iW t)):=by
  refine (hc2 (0+256) (by omega)).trans ?_
  show some (if 0+256=x then _ else rtF t (0+256))=_
  rw [if_neg (by omega)];rfl
 have e6:Nat.blt (0+256) 257=true:=rfl
 have e7:Nat.ble (0+256+1) 257=true:=rfl
 have e8:(aL [A0 (Rc.iW t+32)] (0+256) c2 fun t=>t).get (path (0+256))=some (A0 (Rc.iW t+32)):=by
  rw [bM,if_pos ⟨by omega,by simp⟩,Nat.sub_self];rfl
 have e9:Nat.blt 65536 (Rc.iW t+32)=false:=cI (by omega)
 simp only [↓aQ,A3,reduceCtorEq,t0,dI,dJ,hat2,e5,e6,e7,e8,e9,w2]
 refine .ret ?_
 rw [rK]
 refine ⟨rfl,wf.put (by omega) _,fr.cJ _ (fun _=>rfl) hb,hn,?_⟩
 exact (iI hc2 256 (A0 (Rc.iW t+32))).congr fun k hk=>aPb t hx k hk
def aLp (call:Call):Prop:=∀ H b x t,Wf H→H.base≤b→RtR H b t→t.length<2000→x<256→Yields (call 78 [bE b 0,A1 x] H) (aQ7 b (t++[x]) H)
def hsN (n:Nat) (w:List Nat) (k:Nat):List Nat:=if n=2 then (qS w).2 k else if k=0 then w else []
def Ck (n:Nat) (w:List Nat):Nat:=if n=2 then (qS w).1 else 0
theorem aPc {n:Nat} (hn:n=1∨n=2) (w:List Nat):hsN n w (Ck n w)=cU n w:=by
 unfold hsN Ck cU
 rcases hn with rfl|rfl<;>rfl
theorem aPd {n:Nat} (hn:n=1∨n=2) (k:Nat):hsN n [] k=[]:=by
 unfold hsN
 rcases hn with rfl|rfl
 · simp
 · rfl
noncomputable def tsF (a n p k:Nat):Value:=if k=0 then A0 n else if k<257 then bE (a+k) 0 else A1 p
structure TsR (h:Hp) (a n:Nat) (w:List Nat):Prop where
 row:iR h a 258 (tsF a n (qS w).1)
 jE:∀ k,k<256→RtR h (a+(k+1)) (hsN n w k)
theorem TsR.bT {h H:Hp} {a n:Nat} {w:List Nat} (ht:TsR h a n w) (e:∀ c,a≤c→c<a+257→H.at c=h.at c):TsR H a n w:=⟨ht.row.bT (e a (Nat.le_refl _) (by omega)),fun k hk=>iR.bT (ht.jE k hk) (e _ (by omega) (by omega))⟩
theorem TsR.lt {h:Hp} {a n:Nat} {w:List Nat} (ht:TsR h a n w) (hw:Wf h):a+257≤h.next:=by have:=(ht.jE 255 (by omega)).lt hw;omega
noncomputable def bgF (a n i k:Nat):Value:=if k=0 then A0 n else if k<i+1 then bE (a+k) 0 else if k<257 then .pointer none else A1 0
structure Bg (n:Nat) (h:Hp) (i:Nat) (tm:T Value) (df:Df) (H:Hp):Prop where
 df:df=[]
 t3:tm.get [true,true]=some (bE h.next 0)
 t4:tm.get [false,true]=some (A0 i)
 wf:Wf H
 fr:Fr (fun _=>False) h H
 nx:H.next=h.next+1+i
 row:iR H h.next 258 (bgF h.next n i)
 jE:∀ k,k<i→RtR H (h.next+(k+1)) []
def aEv (n:Nat) (h:Hp) (v:Value) (H:Hp):Prop:=v=bE h.next 0∧TsR H h.next n []∧Wf H∧Fr (fun _=>False) h H∧H.next=h.next+257
theorem aCe {call:Call} {cd:cE} {h:Hp} {n:Nat} (hf:aLo call) (hn:n=1∨n=2) (hw:Wf h):Yields (dD He call cd [A0 n] h) (aEv n h):=by
 have hb:=hw.base
 generalize hz:[A0 0]++eW 256 (.pointer none)++[A1 0]=zs
 have hzl:zs.length=258:=by rw [← hz,List.length_append,List.length_append,fO];rfl
 generalize hov:over zs 0 [A0 n]=ov
 have hovl:ov.length=258:=by rw [← hov,kE,hzl]
 have hb1:Nat.ble (0+1) zs.length=true:=by rw [hzl];rfl
 refine aP rfl ?_
 simp only [↓aQ,A3,reduceCtorEq,hz,hb1,hov,hovl,dQ]
 refine bC.mT (φ:=fun e tm df H=>e=.normal∧Bg n h 256 tm df H) (bC.mT (φ:=fun e tm df H=>e=.exit 0∧Bg n h 256 tm df H) ?_ ?_) ?_
 · refine cT (n:=256) (by omega) (Bg n h) ?_ ?_ ?_
   · intro i tm df H hi p
     obtain ⟨rfl,t3,t4,wf,fr,nx,⟨c,e,cl,hat,hc⟩,jE⟩:=p
     obtain ⟨v,G,e0,rfl,tG,wG,fG,nG⟩:=(hf (aS H H.next []) (wf.sb [])).get
     rw [cL] at e0 tG nG
     have bG:G.base=H.next:=fG.base
     have lG:G.log=[]:=fG.log
     have aG:∀ c,c<H.next→G.at c=H.at c:=fun c hc=>fG.at_ c hc fun h=>h
     have atG:G.at h.next=some (.row c 258 e cl false):=by rw [aG _ (by omega)];exact hat
     have e1:Nat.blt i 256=true:=bU hi
     have e2:Nat.ble (0+1+i*1+1) 258=true:=cX (by omega)
     have w1:aR .i64 (.ofNat (i+1))=.ofNat (i+1):=bF (by omega)
     have hle:Nat.ble H.next h.next=false:=eN (by omega)
     have hlog:jN G.next [] h.next=[h.next]:=kQ (by omega)
     have hbl:∀ l,below H.base [h.next] l=l:=pY (by rw [fr.base];omega)
     simp only [↓aQ,A3,reduceCtorEq,xA,sW,dI,dJ,t3,t4,e0,lG,atG,e1,e2,w1,hlog,hbl,hle]
     refine .go ⟨rfl,by simp [t3],by simp,(wG.put (by omega) _).Iq (by rw [aV];have:=wf.base;omega) _,⟨fr.base,fr.log,by rw [cL,aV];omega,fun k hk _=>?_⟩,by rw [cL,aV];omega,?_,fun k hk=>?_⟩
     · rw [dM,aJ,if_neg (by omega),aG _ (by omega)]
       exact fr.at_ k hk fun h=>h
     · obtain ⟨c',e',cl',hat',hc'⟩:=iI (h:=G) (b:=h.next) (e:=e) (cl:=cl) hc (0+1+i*1) (bE H.next 0)
       refine iR.congr ⟨c',e',cl',hat',hc'⟩ fun k hk=>?_
       unfold bgF
       by_cases e:k=0+1+i*1
       · rw [if_pos e,if_neg (by omega),if_pos (by omega),show H.next=h.next+k by omega]
       · rw [if_neg e]
         by_cases e0:k=0
         · rw [if_pos e0,if_pos e0]
         · rw [if_neg e0,if_neg e0]
           by_cases e2:k<i+1
           · rw [if_pos e2,if_pos (by omega)]
           · by_cases e3:k<257
             · rw [if_neg e2,if_pos e3,if_neg (by omega)]
             · rw [if_neg e2,if_neg e3,if_neg (by omega)]
     · by_cases e2:k=i
       · subst e2
         have e3:h.next+(k+1)=H.next:=by omega
         rw [e3]
         exact iR.bT tG (by rw [dM,aJ,if_neg (by omega)])
       · refine iR.bT (jE k (by omega)) ?_
         have l:=(jE k (by omega)).lt wf
         rw [dM,aJ,if_neg (by omega),aG _ l]
   · intro tm df H p
     obtain ⟨rfl,t3,t4,wf,fr,nx,row,jE⟩:=p
     have e1:Nat.blt 256 256=false:=rfl
     simp only [↓aQ,A3,reduceCtorEq,xA,t4,e1]
     exact .ex ⟨rfl,rfl,by simp [t3],by simp [t4],wf,fr,nx,row,jE⟩
   · refine ⟨rfl,by simp,by simp,hw.new _,Fr.new _,rfl,?_,fun k hk=>by omega⟩
     refine rL hovl fun k hk=>?_
     rw [← hov,rE _ _ _ _ (by rw [hzl];show 0+1≤258;omega)]
     unfold bgF
     by_cases e:k=0
     · rw [if_pos e,if_pos ⟨by omega,by show k<0+1;omega⟩,e];rfl
     · rw [if_neg e,if_neg (by show ¬ (0≤k∧k<0+1);omega),if_neg (by omega),← hz]
       by_cases e2:k<257
       · rw [if_pos e2,List.getElem?_append_left (by simp [fO];omega),List.getElem?_append_right (by simp;omega),yM (by simp;omega)]
       · rw [if_neg e2,List.getElem?_append_right (by simp [fO];omega)]
         have:k - ([A0 0]++eW 256 (.pointer none)).length=0:=by rw [List.length_append,fO];show k - (1+256)=0;omega
         rw [this];rfl
 · rintro e tm df H ⟨rfl,rest⟩;exact ⟨rfl,rest⟩
 rintro ex tm df H ⟨rfl,⟨hdf,t3,t4,wf,fr,nx,row,jE⟩⟩
 subst hdf
 simp only [↓aQ,A3,reduceCtorEq,t3]
 refine .ret ?_
 simp only [↓aQ,A3,reduceCtorEq]
 refine ⟨rfl,⟨row.congr fun k hk=>?_,fun k hk=>by rw [aPd hn];exact jE k hk⟩,wf,fr,by omega⟩
 unfold bgF tsF
 by_cases e:k=0
 · rw [if_pos e,if_pos e]
 · rw [if_neg e,if_neg e]
   by_cases e2:k<257
   · rw [if_pos (by omega),if_pos e2]
   · rw [if_neg (by omega),if_neg e2,if_neg e2];rfl
def aEw (call:Call):Prop:=∀ H n,Wf H→n=1∨n=2→Yields (call 40 [A0 n] H) (aEv n H)
theorem aLr {call:Call} {cd:cE} {h:Hp} {a n:Nat} {w:List Nat} (hn:n=1∨n=2) (hp:(qS w).1<256) (ht:TsR h a n w):dD Tv call cd [bE a 0] h=.val (bE (a+(Ck n w+1)) 0) h:=by
 refine EqR.get ?_
 obtain ⟨c,e,cl,hat,hc⟩:=ht.row
 have g0:c.get (path (0+0))=some (A0 n):=hc 0 (by omega)
 have q0:Nat.blt (0+0) 258=true:=rfl
 rcases hn with rfl|rfl
 · have q1:Nat.beq 1 2=false:=rfl
   have g1:c.get (path (0+1+0*1))=some (bE (a+(Ck 1 w+1)) 0):=hc 1 (by omega)
   have q2:Nat.blt (0+1+0*1) 258=true:=rfl
   have q3:Nat.blt 0 256=true:=rfl
   refine aP rfl ?_
   simp only [↓aQ,A3,reduceCtorEq,dQ,dI,dJ,hat,g0,q0,q1,g1,q2,q3]
   refine .ret ?_
   simp only [↓aQ,A3,reduceCtorEq]
   exact ⟨rfl,rfl⟩
 · have q1:Nat.beq 2 2=true:=rfl
   have q5:Nat.blt (0+257) 258=true:=rfl
   have g5:c.get (path (0+257))=some (A1 ((qS w).1)):=hc 257 (by omega)
   have g1:c.get (path (0+1+(qS w).1*1))=some (bE (a+(Ck 2 w+1)) 0):=by
    rw [hc _ (by omega)]
    unfold tsF Ck
    rw [if_neg (by omega),if_pos (by omega),if_pos rfl,show 0+1+(qS w).1*1=(qS w).1+1 by omega]
   have q2:Nat.blt (0+1+(qS w).1*1) 258=true:=bU (by omega)
   have q3:Nat.blt (qS w).1 256=true:=bU hp
   refine aP rfl ?_
   simp only [↓aQ,A3,reduceCtorEq,dQ,dI,dJ,hat,g0,q0,q1,g1,q2,q3,q5,g5]
   refine .ret ?_
   simp only [↓aQ,A3,reduceCtorEq]
   exact ⟨rfl,rfl⟩
def aLs (call:Call):Prop:=∀ H a n w,n=1∨n=2→(qS w).1<256→TsR H a n w→call 42 [bE a 0] H=.val (bE (a+(Ck n w+1)) 0) H
theorem aEx {n:Nat} {w:List Nat} (hp:(qS w).1<256):Ck n w<256:=by
 unfold Ck
 split<;>omega
theorem aPe (n:Nat) (w:List Nat) (k:Nat):(hsN n w k).length≤w.length:=by
 unfold hsN
 split
 · exact Sp w k
 · split
   · exact Nat.le_refl _
   · exact Nat.zero_le _
theorem aLt {n:Nat} (hn:n=1∨n=2) (w:List Nat) (x k:Nat):hsN n (w++[x]) k=if k=Ck n w then hsN n w k++[x] else hsN n w k:=by
 unfold hsN Ck
 rcases hn with rfl|rfl
 · have h12:¬ (1:Nat)=2:=by decide
   simp only [if_neg h12]
   by_cases e:k=0
   · rw [if_pos e,if_pos e,if_pos e]
   · rw [if_neg e,if_neg e,if_neg e]
 · rw [if_pos rfl,if_pos rfl,if_pos rfl,yP]
   by_cases e:k=(qS w).1
   · rw [if_pos e]
     show (if k=(qS w).1 then _ else _)=_
     rw [if_pos e,e]
   · rw [if_neg e]
     show (if k=(qS w).1 then _ else _)=_
     rw [if_neg e]
def aLu (a n:Nat) (w:List Nat) (h:Hp) (v:Value) (H:Hp):Prop:=v=.tuple ⟨[]⟩∧TsR H a n w∧Wf H∧Fr (fun k=>a≤k∧k<a+257) h H∧H.next=h.next
theorem aCf {call:Call} {cd:cE} (hN:aLs call) (hS:aLp call) {h:Hp} {a n x:Nat} {w:List Nat} (hw:Wf h) (hn:n=1∨n=2) (hp:(qS w).1<256) (hl:w.length<2000) (hb:h.base≤a) (hx:x<256) (ht:TsR h a n w):Yields (dD Hg call cd [bE a 0,A1 x] h) (aLu a n (w++[x]) h):=by
 have hlt:=ht.lt hw
 have hcur:=aEx (n:=n) hp
 have e1:=hN h a n w hn hp ht
 have htc:=ht.jE _ hcur
 have hsl:=aPe n w (Ck n w)
 obtain ⟨r,G,e2,rfl,wG,fG,nG,tG⟩:=(hS h (a+(Ck n w+1)) x _ hw (by omega) htc (by omega) hx).get
 obtain ⟨c,e,cl,hat,hc⟩:=ht.row
 have atG:G.at a=some (.row c 258 e cl false):=by rw [fG.at_ a (by omega) (by omega)];exact hat
 have g0:c.get (path (0+0))=some (A0 n):=hc 0 (by omega)
 have q0:Nat.blt (0+0) 258=true:=rfl
 have q1:Nat.blt 0 n=true:=bU (by omega)
 have q2:Nat.ble (0+257+1) 258=true:=rfl
 refine aP rfl ?_
 simp only [↓aQ,A3,reduceCtorEq,cN,cP,dI,dJ,hat,g0,q0,q1,e1,e2,atG,q2]
 refine Ip.end ?_
 rw [rK]
 have hw':qS (w++[x])=(x,fun n=>if n=(qS w).1 then (qS w).2 (qS w).1++[x] else (qS w).2 n):=yP w x
 refine ⟨rfl,⟨(iI hc (0+257) (A1 x)).congr fun k hk=>?_,fun k hk=>?_⟩,wG.put (by omega) _,(fG.mono fun k _ h=>(by omega)).cJ _ (fun _=>⟨Nat.le_refl _,by omega⟩) hb,nG⟩
 · rw [hw']
   unfold tsF
   by_cases e:k=0+257
   · rw [if_pos e,if_neg (by omega),if_neg (by omega)]
   · rw [if_neg e]
     by_cases e0:k=0
     · rw [if_pos e0,if_pos e0]
     · rw [if_neg e0,if_neg e0,if_pos (by omega),if_pos (by omega)]
 · rw [aLt hn]
   by_cases e:k=Ck n w
   · rw [if_pos e,e]
     exact iR.bT tG (by rw [aJ,if_neg (by omega)])
   · rw [if_neg e]
     exact iR.bT (ht.jE k hk) (by rw [aJ,if_neg (by omega),fG.at_ _ (by omega) (by omega)])
def aEy (call:Call):Prop:=∀ H a n x w,Wf H→n=1∨n=2→(qS w).1<256→w.length<2000→H.base≤a→x<256→TsR H a n w→Yields (call 43 [bE a 0,A1 x] H) (aLu a n (w++[x]) H)
end cG
end Go
