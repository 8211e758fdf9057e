/-
Symbolic runs of the law's functions and of the program's, part 8.
Conditions: none.
-/
import Derived.Test.YtefdgihgbhbibaaGreatDoorRun07
set_option linter.unusedVariables false
set_option linter.unusedSimpArgs false
set_option linter.defProp false
set_option maxRecDepth 10000
namespace Go
namespace cG
structure RoS (b2 b4 b5 size:Nat) (K:Hp) (vs:List Value) (tm:T Value) (df:Df) (H:Hp):Prop where
 df:df=[]
 t1:tm.get [true]=some (A0 size)
 t2:tm.get [false]=some (bE b2 0)
 t4:tm.get [false,true]=some (bE b4 0)
 t5:tm.get [true,false]=some (bE b5 0)
 wf:Wf H
 fr:Fr (fun k=>k=b5) K H
 row:p8 H b5 5 68 vs
structure RoQ (size k f l b:Nat):Prop where
 hl:1≤l∧l≤5
 hb:b<256
 hk:((k=1∨k=2)∧f+l≤size∧b=0)∨(k=3∧f=0)∨(k=4∧f=0∧b=0)
theorem aLE (a b c d e x:Value):over [a,b,c,d,e] 0 [x]=[x,b,c,d,e]:=rfl
theorem aLF (a b c d e x:Value):over [a,b,c,d,e] 2 [x]=[a,b,x,d,e]:=rfl
theorem p8.get {H:Hp} {b n:Nat} {e:TypeId} {vs:List Value} (hr:p8 H b n e vs):∃ c,H.at b=some (.row c n e true false)∧∀ j v,vs[j]?=some v→c.get (path (0+j))=some v:=by
 obtain ⟨hl,c,hat,hc⟩:=hr
 refine ⟨c,hat,fun j v hj=>?_⟩
 have:=(List.getElem?_eq_some_iff.1 hj).1
 rw [Nat.zero_add,hc j (by omega),hj]
theorem p8.set {H:Hp} {b n:Nat} {e:TypeId} {vs:List Value} {c:T Value} (hr:p8 H b n e vs) (hat:H.at b=some (.row c n e true false)) {j:Nat} (hj:j<n) (v:Value):p8 (H.put b (some (.row (aL [v] (0+j) c fun t=>t) n e true false))) b n e (vs.set j v):=by
 obtain ⟨hl,c',hat',hc⟩:=hr
 rw [hat] at hat'
 cases hat'
 exact uR hl hc hj (by rw [aJ,if_pos rfl])
theorem RoS.put {b2 b4 b5 size:Nat} {K:Hp} {vs:List Value} {tm:T Value} {df:Df} {H:Hp} (hp:RoS b2 b4 b5 size K vs tm df H) (hb:K.base≤b5) {c:T Value} (hat:H.at b5=some (.row c 5 68 true false)) {j:Nat} (hj:j<5) (v:Value):RoS b2 b4 b5 size K (vs.set j v) tm df (H.put b5 (some (.row (aL [v] (0+j) c fun t=>t) 5 68 true false))):=by
 obtain ⟨hdf,t1,t2,t4,t5,wf,fr,row⟩:=hp
 exact ⟨hdf,t1,t2,t4,t5,wf.put (wf.lt hat) _,fr.cJ _ (fun _=>rfl) hb,row.set hat hj v⟩
theorem RoS.re {b2 b4 b5 size:Nat} {K:Hp} {vs:List Value} {tm tm':T Value} {df:Df} {H:Hp} (hp:RoS b2 b4 b5 size K vs tm df H) (q1:tm'.get [true]=some (A0 size)) (q2:tm'.get [false]=some (bE b2 0)) (q4:tm'.get [false,true]=some (bE b4 0)) (q5:tm'.get [true,false]=some (bE b5 0)):RoS b2 b4 b5 size K vs tm' df H:=⟨hp.df,q1,q2,q4,q5,hp.wf,hp.fr,hp.row⟩
noncomputable def opN (k f l b:Nat):List Value:=[A0 k,A0 f,A0 l,A1 b,.slice none 0 0]
def aWe (size:Nat) (h:Hp) (r:Value) (H:Hp):Prop:=∃ o dv,r=.agg ⟨fW o.kind o.from_ o.len o.b dv⟩∧eJ.Rt o size∧o.len≤5∧Sl 1 H dv o.data.length (dR o.data)∧(∀ c,0<o.data.length→gY dv c→h.next≤c∧c<H.next)∧Wf H∧Fr (fun _=>False) h H
theorem Out.one {e:TypeId} {s:Nat} {P:Nat→Prop} {h:Hp} {v:Value} {n:Nat} {vs:List Value} (ho:Out e s P h v n vs):bY [v]=true:=by
 obtain ⟨_,_,⟨_,⟨b,rfl⟩|rfl⟩|⟨b,rfl,_⟩⟩:=ho<;>rfl
def aPj (r0 r3 i:Nat):Nat:=r3*((i+r0 / 4) % 256) % 256
def Cl (r0 r3 m:Nat):List Nat:=(List.range m).map (aPj r0 r3)
theorem Zi (r0 r3 m:Nat):(Cl r0 r3 m).length=m:=by simp [Cl]
theorem aGq (r0 r3 m:Nat):Cl r0 r3 (m+1)=Cl r0 r3 m++[aPj r0 r3 m]:=by simp [Cl,List.range_succ]
theorem aGr (r0 r3 m:Nat):∀ x∈Cl r0 r3 m,x<256:=by
 intro x hx
 obtain ⟨i,_,rfl⟩:=List.mem_map.1 hx
 exact Nat.mod_lt _ (by decide)
def RoL (b2 b4 b5 size r0 r3:Nat) (K:Hp) (k f l b m:Nat) (tm:T Value) (df:Df) (H:Hp):Prop:=∃ dv,RoS b2 b4 b5 size K (fW k f l b dv) tm df H∧tm.get [false,false]=some (A0 m)∧Out 5 1 (fun k=>K.next≤k) H dv (Cl r0 r3 m).length (dR (Cl r0 r3 m))
theorem aPk {call:Call} {cd:cE} {h:Hp} {r0 r1 r2 r3 size:Nat} (hw:Wf h) (h0:r0<256) (h1:r1<256) (h2:r2<256) (h3:r3<256) (hs:size≤1000):Yields (dD aB8 call cd [.agg ⟨dR [r0,r1,r2,r3]⟩,A0 size] h) (aWe size h):=by
 have hwb:=hw.base
 have e4:dR [r0,r1,r2,r3]=[A1 r0,A1 r1,A1 r2,A1 r3]:=rfl
 have w0:aR .i64 (.ofNat r0)=.ofNat r0:=bF (by omega)
 have w1:aR .i64 (.ofNat r1)=.ofNat r1:=bF (by omega)
 have w2:aR .i64 (.ofNat r2)=.ofNat r2:=bF (by omega)
 have q1:iZ .i64 (.ofNat r0) (.ofNat 4)=some (A0 (r0 % 4)):=lN _ (by omega)
 have q2:iZ .i64 (.ofNat r2) (.ofNat 5)=some (A0 (r2 % 5)):=lN _ (by omega)
 have w3:aR .i64 (.ofNat (1+r0 % 4))=.ofNat (1+r0 % 4):=bF (by omega)
 have w4:aR .i64 (.ofNat (1+r2 % 5))=.ofNat (1+r2 % 5):=bF (by omega)
 have z1:Nat.ble (0+0+1) 5=true:=rfl
 have z2:Nat.ble (2+1) 5=true:=rfl
 rw [e4]
 refine aP rfl ?_
 refine bC.seq (φ:=fun tm df H=>df=[]∧H=(h.new (aT [A1 r0,A1 r1,A1 r2,A1 r3] 4 70 true)).new (aT M3 5 68 true)∧tm.get [true]=some (A0 size)∧tm.get [false]=some (bE h.next 0)∧tm.get [false,true]=some (bE (h.next+1) 0)) ?_ ?_
 · simp only [↓aQ,NV,reduceCtorEq,pQ,oS,gM]
   exact ⟨rfl,rfl,rfl,by simp [cP],by simp,by simp⟩
 rintro tm1 Vw H1 ⟨rfl,hH1,t1,t2,t4⟩
 obtain ⟨J,hJ⟩:∃ J,(h.new (aT [A1 r0,A1 r1,A1 r2,A1 r3] 4 70 true)).new (aT M3 5 68 true)=J:=⟨_,rfl⟩
 rw [hJ] at hH1
 have wJ:Wf J:=by rw [← hJ];exact (hw.new _).new _
 have fJ:Fr (fun _=>False) h J:=by rw [← hJ];exact (Fr.new _).dE _
 have nJ:J.next=h.next+2:=by rw [← hJ];rfl
 have a2:J.at h.next=some (aT [A1 r0,A1 r1,A1 r2,A1 r3] 4 70 true):=by rw [← hJ,aM,aF,if_neg (by omega),aM,if_pos rfl]
 have a4:J.at (h.next+1)=some (aT M3 5 68 true):=by rw [← hJ,aM,aF,if_pos rfl]
 obtain ⟨K,hK,wK,fK,aK,nK⟩:=eP wJ M3 [A0 (1+r0 % 4),A0 0,A0 (1+r2 % 5),A1 0,.slice none 0 0] 5 68
 have a2K:K.at h.next=_:=(fK.at_ _ (by omega) fun h=>h).trans a2
 have a4K:K.at (h.next+1)=_:=(fK.at_ _ (by omega) fun h=>h).trans a4
 have fhK:=fJ.trans (P:=fun _=>False) fK fun _ _ h=>h
 refine bC.seq (φ:=RoS h.next (h.next+1) (h.next+2) size K [A0 (1+r0 % 4),A0 0,A0 (1+r2 % 5),A1 0,.slice none 0 0]) ?_ ?_
 · rw [hH1]
   have k0:Nat.blt (0+0*1) 4=true:=rfl
   have k2:Nat.blt (0+2*1) 4=true:=rfl
   have k3:Nat.blt 0 4=true:=rfl
   have k4:Nat.blt 2 4=true:=rfl
   have g0:(aL [A1 r0,A1 r1,A1 r2,A1 r3] 0 .nil fun t=>t).get (path (0+0*1))=some (A1 r0):=rfl
   have g2:(aL [A1 r0,A1 r1,A1 r2,A1 r3] 0 .nil fun t=>t).get (path (0+2*1))=some (A1 r2):=rfl
   simp only [↓aQ,NV,reduceCtorEq,pQ,oS,t1,t2,t4,a2,k0,k2,k3,k4,g0,g2,w0,w2,q1,q2,w3,w4,aLE,aLF,z2,hK]
   exact ⟨rfl,rfl,by simp [t1],by simp [t2],by simp [t4],by rw [nJ];simp [T.aB],wK,Fr.refl _ _,by rw [nJ] at aK;exact Jk rfl aK⟩
 clear t1 t2 t4
 have hKb:K.base≤h.next+2:=by have:=fhK.base;omega
 have aH2:∀ {H:Hp},Fr (fun k=>k=h.next+2) K H→H.at h.next=some (aT [A1 r0,A1 r1,A1 r2,A1 r3] 4 70 true):=fun f=>by rw [f.at_ _ (by omega) (by omega)];exact a2K
 have k0:Nat.blt (0+0*1) 4=true:=rfl
 have k1:Nat.blt (0+1*1) 4=true:=rfl
 have k2:Nat.blt (0+2*1) 4=true:=rfl
 have k3:Nat.blt (0+3*1) 4=true:=rfl
 have j0:Nat.blt 0 4=true:=rfl
 have j1:Nat.blt 1 4=true:=rfl
 have j2:Nat.blt 2 4=true:=rfl
 have j3:Nat.blt 3 4=true:=rfl
 have g0:(aL [A1 r0,A1 r1,A1 r2,A1 r3] 0 .nil fun t=>t).get (path (0+0*1))=some (A1 r0):=rfl
 have g1:(aL [A1 r0,A1 r1,A1 r2,A1 r3] 0 .nil fun t=>t).get (path (0+1*1))=some (A1 r1):=rfl
 have g2:(aL [A1 r0,A1 r1,A1 r2,A1 r3] 0 .nil fun t=>t).get (path (0+2*1))=some (A1 r2):=rfl
 have g3:(aL [A1 r0,A1 r1,A1 r2,A1 r3] 0 .nil fun t=>t).get (path (0+3*1))=some (A1 r3):=rfl
 rintro tm2 df2 H2 hI2
 refine bC.seq (φ:=fun tm df H=>∃ k f l,RoS h.next (h.next+1) (h.next+2) size K (opN k f l 0) tm df H∧1≤l∧l≤5∧(((k=1∨k=2)∧f+l≤size)∨((k=3∨k=4)∧f=0))) ?_ ?_
 · obtain ⟨c,hat,hc⟩:=hI2.row.get
   have c0:=hc 0 _ rfl
   have t1:=hI2.t1
   have t2:=hI2.t2
   have t4:=hI2.t4
   have t5:=hI2.t5
   have hdf:=hI2.df
   subst hdf
   have aH:=aH2 hI2.fr
   by_cases hk:2<1+r0 % 4
   · have n1:Nat.blt 2 (1+r0 % 4)=true:=bU hk
     simp only [↓aQ,NV,reduceCtorEq,oS,t5,hat,c0,n1]
     refine ⟨rfl,_,0,_,hI2.re (by simp [t1]) (by simp [t2]) (by simp [t4]) (by simp [t5]),by omega,by omega,.inr ⟨by omega,rfl⟩⟩
   · have n1:Nat.blt 2 (1+r0 % 4)=false:=cI (by omega)
     by_cases hz:size=0
     · have n2:Nat.beq size 0=true:=by rw [hz];rfl
       simp only [↓aQ,NV,reduceCtorEq,oS,t1,t5,hat,c0,n1,n2]
       refine ⟨rfl,4,0,_,(hI2.put hKb hat (j:=0) (by omega) (A0 4)).re (by simp [t1]) (by simp [t2]) (by simp [t4]) (by simp [t5]),by omega,by omega,.inr ⟨.inr rfl,rfl⟩⟩
     · have n2:Nat.beq size 0=false:=dO hz
       have m1:iZ .i64 (.ofNat r1) (.ofNat size)=some (A0 (r1 % size)):=lN _ hz
       have hmod:=Nat.mod_lt r1 (show 0<size by omega)
       have s1:gP .i64 (.ofNat size) (.ofNat (r1 % size))=some (.int .i64 (aR .i64 (.ofNat (size - r1 % size)))):=jI _ (by omega)
       have s2:aR .i64 (.ofNat (size - r1 % size))=.ofNat (size - r1 % size):=bF (by omega)
       have m2:iZ .i64 (.ofNat r2) (.ofNat (size - r1 % size))=some (A0 (r2 % (size - r1 % size))):=lN _ (by omega)
       have hmod2:=Nat.mod_lt r2 (show 0<size - r1 % size by omega)
       have m3:iZ .i64 (.ofNat (r2 % (size - r1 % size))) (.ofNat 5)=some (A0 (r2 % (size - r1 % size) % 5)):=lN _ (by omega)
       have hmod3:r2 % (size - r1 % size) % 5≤r2 % (size - r1 % size):=Nat.mod_le _ _
       have hmod4:r2 % (size - r1 % size) % 5<5:=Nat.mod_lt _ (by decide)
       have s3:aR .i64 (.ofNat (1+r2 % (size - r1 % size) % 5))=.ofNat (1+r2 % (size - r1 % size) % 5):=bF (by omega)
       have hI3:=hI2.put hKb hat (j:=1) (by omega) (A0 (r1 % size))
       obtain ⟨Y,hY⟩:∃ Y,H2.put (h.next+2) (some (.row (aL [A0 (r1 % size)] (0+1) c fun t=>t) 5 68 true false))=Y:=⟨_,rfl⟩
       rw [hY] at hI3
       obtain ⟨c',hat',hc'⟩:=hI3.row.get
       have c1:=hc' 1 _ rfl
       have aY:=aH2 hI3.fr
       simp only [↓aQ,NV,reduceCtorEq,pQ,oS,t1,t2,t5,hat,c0,n1,n2,aH,k1,j1,g1,w1,m1,hY,aY,k2,j2,g2,w2,hat',c1,s1,s2,m2,m3,s3]
       refine ⟨rfl,_,_,_,(hI3.put hKb hat' (j:=2) (by omega) (A0 (1+r2 % (size - r1 % size) % 5))).re (by simp [t1]) (by simp [t2]) (by simp [t4]) (by simp [t5]),by omega,by omega,.inl ⟨by omega,by omega⟩⟩
 rintro tm3 df3 H3 ⟨k,f,l,hI3,hl1,hl5,hkf⟩
 refine bC.seq (φ:=fun tm df H=>∃ k f l b,RoS h.next (h.next+1) (h.next+2) size K (opN k f l b) tm df H∧RoQ size k f l b) ?_ ?_
 · obtain ⟨c,hat,hc⟩:=hI3.row.get
   have c0:=hc 0 _ rfl
   have t1:=hI3.t1
   have t2:=hI3.t2
   have t4:=hI3.t4
   have t5:=hI3.t5
   have hdf:=hI3.df
   subst hdf
   have aH:=aH2 hI3.fr
   by_cases hk:k=3
   · have n1:Nat.beq k 3=true:=by rw [hk];rfl
     simp only [↓aQ,NV,reduceCtorEq,pQ,oS,t2,t5,hat,c0,n1,aH,k3,j3,g3]
     refine ⟨rfl,_,_,_,_,(hI3.put hKb hat (j:=3) (by omega) (A1 r3)).re (by simp [t1]) (by simp [t2]) (by simp [t4]) (by simp [t5]),⟨⟨hl1,hl5⟩,h3,.inr (.inl ⟨hk,by omega⟩)⟩⟩
   · have n1:Nat.beq k 3=false:=dO hk
     simp only [↓aQ,NV,reduceCtorEq,oS,t5,hat,c0,n1]
     refine ⟨rfl,_,_,_,_,hI3.re (by simp [t1]) (by simp [t2]) (by simp [t4]) (by simp [t5]),⟨⟨hl1,hl5⟩,by omega,?_⟩⟩
     rcases hkf with h|h
     · exact .inl ⟨h.1,h.2,rfl⟩
     · exact .inr (.inr ⟨by omega,h.2,rfl⟩)
 clear hI3 hkf hl1 hl5
 rintro tm4 df4 H4 ⟨k,f,l,b,hI4,hQ⟩
 refine bC.seq (φ:=fun tm df H=>RoL h.next (h.next+1) (h.next+2) size r0 r3 K k f l b (if k=2∨k=4 then l else 0) tm df H) ?_ ?_
 · obtain ⟨⟨hl1,hl5⟩,hb256,hkf⟩:=hQ
   refine bC.seq (φ:=fun tm df H=>RoL h.next (h.next+1) (h.next+2) size r0 r3 K k f l b 0 tm df H) ?_ ?_
   · have hdf:=hI4.df
     subst hdf
     simp only [↓aQ,NV,reduceCtorEq]
     exact ⟨rfl,.slice none 0 0,hI4.re (by simp [hI4.t1]) (by simp [hI4.t2]) (by simp [hI4.t4]) (by simp [hI4.t5]),by simp,Out.nil⟩
   rintro tm5 df5 H5 hI5
   have hkk:k=1∨k=2∨k=3∨k=4:=by rcases hkf with ⟨h|h,_⟩|h|h<;>omega
   generalize hNN:(if k=2∨k=4 then l else 0)=N
   have hN5:N≤5:=by rw [← hNN];split<;>omega
   refine bC.Be (bC.mono (φ:=fun ex tm df H=>ex=.exit 0∧RoL h.next (h.next+1) (h.next+2) size r0 r3 K k f l b N tm df H) ?_ fun ex tm df H hh=>⟨hh.1,hh.2⟩)
   refine cT (n:=N) (by omega) (RoL h.next (h.next+1) (h.next+2) size r0 r3 K k f l b) ?_ ?_ hI5
   · rintro i tm df H hi ⟨dv,hI,t6,ho⟩
     have hk24:k=2∨k=4:=by
      rcases Nat.lt_or_ge 0 N with h|h
      · by_cases hh:k=2∨k=4
        · exact hh
        · rw [if_neg hh] at hNN;omega
      · omega
     rw [if_pos hk24] at hNN
     have t1:=hI.t1
     have t2:=hI.t2
     have t4:=hI.t4
     have t5:=hI.t5
     have hdf:=hI.df
     subst hdf
     obtain ⟨c,hat,hc⟩:=hI.row.get
     have c0:=hc 0 _ rfl
     have c2:=hc 2 _ rfl
     have c4:=hc 4 _ rfl
     have aH:=aH2 hI.fr
     have e1:Nat.blt i l=true:=bU (by omega)
     have m1:pE .i64 (.ofNat r0) (.ofNat 4)=some (.int .i64 (aR .i64 (.ofNat (r0 / 4)))):=tP _ (by omega)
     have m2:aR .i64 (.ofNat (r0 / 4))=.ofNat (r0 / 4):=bF (by omega)
     have m3:aR .i64 (.ofNat (i+r0 / 4))=.ofNat (i+r0 / 4):=bF (by omega)
     have m4:aR .u8 (.ofNat (i+r0 / 4))=.ofNat ((i+r0 / 4) % 256):=nD _
     have m5:iU .u8 (.ofNat r3) (.ofNat ((i+r0 / 4) % 256))=some (.int .u8 (aR .u8 (.ofNat (r3*((i+r0 / 4) % 256))))):=lD _ _ _
     have m6:aR .u8 (.ofNat (r3*((i+r0 / 4) % 256)))=.ofNat (aPj r0 r3 i):=nD _
     have m7:aR .i64 (.ofNat (i+1))=.ofNat (i+1):=bF (by omega)
     have nx:=hI.fr.next
     obtain ⟨v',H',ea,ho2,wf2,fr2,nx2,_⟩:=aS7 (aPj r0 r3 i) hI.wf ho (by rw [Zi];omega) (fun k hk=>by rw [hI.fr.base];omega) (fun k hk=>by omega)
     have b1:Nat.ble (0+1) 1=true:=rfl
     have hat':H'.at (h.next+2)=some (.row c 5 68 true false):=by rw [fr2.at_ _ (by omega) (by omega)];exact hat
     have hI2:RoS h.next (h.next+1) (h.next+2) size K (fW k f l b dv) tm [] H':=⟨rfl,t1,t2,t4,t5,wf2,hI.fr.trans fr2 fun k hk h=>absurd h (by omega),⟨rfl,c,hat',fun j hj=>by have:=hI.row;obtain ⟨_,c'',hat'',hc''⟩:=this;rw [hat] at hat'';cases hat'';exact hc'' j hj⟩⟩
     have hv1:bY [v']=true:=ho2.one
     have hI3:=hI2.put hKb hat' (j:=4) (by omega) v'
     have ho3:Out 5 1 (fun k=>K.next≤k) (H'.put (h.next+2) (some (.row (aL [v'] (0+4) c fun t=>t) 5 68 true false))) v' (Cl r0 r3 (i+1)).length (dR (Cl r0 r3 (i+1))):=by
      rw [aGq]
      exact ho2.put wf2 (by omega)
     have hk2:Nat.beq k 2=true∨(Nat.beq k 2=false∧Nat.beq k 4=true):=by
      rcases hk24 with h|h
      · exact .inl (by rw [h];rfl)
      · exact .inr ⟨by rw [h];rfl,by rw [h];rfl⟩
     rcases hk2 with n2|⟨n2,n4⟩
     · unfold uT
       simp only [↓aQ,NV,reduceCtorEq,pQ,oS,t1,t2,t4,t5,t6,hat,c0,c2,c4,aH,k3,j3,g3,k0,j0,g0,w0,e1,n2,m1,m2,m3,m4,m5,m6,m7,b1,gE,ea,hat',hv1]
       exact .go ⟨v',hI3.re (by simp [t1]) (by simp [t2]) (by simp [t4]) (by simp [t5]),by simp,ho3⟩
     · unfold uT
       simp only [↓aQ,NV,reduceCtorEq,pQ,oS,t1,t2,t4,t5,t6,hat,c0,c2,c4,aH,k3,j3,g3,k0,j0,g0,w0,e1,n2,n4,m1,m2,m3,m4,m5,m6,m7,b1,gE,ea,hat',hv1]
       exact .go ⟨v',hI3.re (by simp [t1]) (by simp [t2]) (by simp [t4]) (by simp [t5]),by simp,ho3⟩
   · rintro tm df H ⟨dv,hI,t6,ho⟩
     have t1:=hI.t1
     have t2:=hI.t2
     have t4:=hI.t4
     have t5:=hI.t5
     have hdf:=hI.df
     subst hdf
     obtain ⟨c,hat,hc⟩:=hI.row.get
     have c0:=hc 0 _ rfl
     have c2:=hc 2 _ rfl
     by_cases hk24:k=2∨k=4
     · rw [if_pos hk24] at hNN
       have e1:Nat.blt N l=false:=cI (by omega)
       unfold uT
       simp only [↓aQ,NV,reduceCtorEq,oS,t5,t6,hat,c0,c2,e1]
       exact .ex ⟨rfl,dv,hI.re (by simp [t1]) (by simp [t2]) (by simp [t4]) (by simp [t5]),by simp [t6],ho⟩
     · rw [if_neg hk24] at hNN
       have e1:Nat.blt N l=true:=bU (by omega)
       have n2:Nat.beq k 2=false:=dO (by omega)
       have n4:Nat.beq k 4=false:=dO (by omega)
       unfold uT
       simp only [↓aQ,NV,reduceCtorEq,oS,t5,t6,hat,c0,c2,e1,n2,n4]
       exact .ex ⟨rfl,dv,hI.re (by simp [t1]) (by simp [t2]) (by simp [t4]) (by simp [t5]),by simp [t6],ho⟩
 rintro tm6 df6 H6 ⟨dv,hI6,t6,ho6⟩
 have t4:=hI6.t4
 have t5:=hI6.t5
 have hdf:=hI6.df
 subst hdf
 obtain ⟨hvl,c,hat,hc⟩:=hI6.row
 have hld:=Ep hvl hc
 have a4H:H6.at (h.next+1)=some (aT M3 5 68 true):=by rw [hI6.fr.at_ _ (by omega) (by omega)];exact a4K
 have hone:=s6 (k:=k) (f:=f) (l:=l) (b:=b) ho6.sl
 have nx:=hI6.fr.next
 unfold fW at hld hone
 simp only [↓aQ,NV,reduceCtorEq,oS,t4,t5,hat,hld,a4H,hone]
 refine .ret ?_
 rw [fI (b:=h.next+1) (by simp [t4]) (by rw [aJ,if_pos rfl]) (Nat.le_refl _) (aKl _ _ _ _ _ _)]
 obtain ⟨⟨hl1,hl5⟩,hb256,hkf⟩:=hQ
 generalize hNN:(if k=2∨k=4 then l else 0)=N at *
 have hN5:N≤5:=by rw [← hNN];split<;>omega
 have hdl:=Zi r0 r3 N
 refine ⟨⟨k,f,l,b,Cl r0 r3 N⟩,dv,rfl,⟨⟨?_,?_,by show l<_;omega,hb256,by show (Cl r0 r3 N).length≤_;omega,aGr r0 r3 N⟩,by show 0<l;omega,?_⟩,hl5,ho6.sl.bT fun c h1 h2=>(by rw [aJ,if_neg (by have:=ho6.fE h1 h2;omega)]),fun c h1 h2=>⟨by have:=ho6.fE h1 h2;omega,ho6.sl.lt hI6.wf h1 h2⟩,hI6.wf.put (by omega) _,(fhK.trans (P:=fun _=>False) hI6.fr fun k hk h=>(by omega)).cJ _ (fun h=>by omega) (by omega)⟩
 · have hd0:N=0→Cl r0 r3 N=[]:=fun h=>by rw [h];rfl
   rcases hkf with ⟨h1|h1,h2,h3⟩|⟨h1,h2⟩|⟨h1,h2,h3⟩
   · exact .inl ⟨h1,h3,hd0 (by rw [← hNN,if_neg (by omega)])⟩
   · exact .inr (.inl ⟨h1,h3,by show (Cl r0 r3 N).length=l;rw [hdl,← hNN,if_pos (by omega)]⟩)
   · exact .inr (.inr (.inl ⟨h1,h2,hd0 (by rw [← hNN,if_neg (by omega)])⟩))
   · exact .inr (.inr (.inr ⟨h1,h2,h3,by show (Cl r0 r3 N).length=l;rw [hdl,← hNN,if_pos (by omega)]⟩))
 · show f<_
   rcases hkf with ⟨h1,h2,h3⟩|⟨h1,h2⟩|⟨h1,h2,h3⟩<;>omega
 · intro hk
   show f+l≤size
   have hk':k≤2:=hk
   rcases hkf with ⟨h1,h2,h3⟩|⟨h1,h2⟩|⟨h1,h2,h3⟩<;>omega
def aTa (call:Call):Prop:=∀ h r0 r1 r2 r3 size,Wf h→r0<256→r1<256→r2<256→r3<256→size≤1000→Yields (call 18 [.agg ⟨dR [r0,r1,r2,r3]⟩,A0 size] h) (aWe size h)
abbrev Q4:=Nat×Nat×Nat×Nat
noncomputable def q4 (q:Q4):List Value:=dR [q.1,q.2.1,q.2.2.1,q.2.2.2]
def Q4.Ok (q:Q4):Prop:=q.1<256∧q.2.1<256∧q.2.2.1<256∧q.2.2.2<256
noncomputable def rV (l:List Q4):List Value:=l.flatMap q4
theorem aCl (q:Q4):(q4 q).length=4:=rfl
theorem Zj (l:List Q4):(rV l).length=l.length*4:=by
 unfold rV
 induction l with
 | nil=>rfl
 | cons s l ih=>rw [List.flatMap_cons,List.length_append,ih,aCl,List.length_cons];omega
theorem aLG {l:List Q4} {i k:Nat} {s:Q4} (h:l[i]?=some s) (hk:k<4):(rV l)[i*4+k]?=(q4 s)[k]?:=by
 have h1:l=l.take i++s::l.drop (i+1):=by
  have hi:=(List.getElem?_eq_some_iff.1 h).1
  have e:=(List.getElem?_eq_some_iff.1 h).2
  conv=>lhs;rw [← List.take_append_drop i l,List.drop_eq_getElem_cons hi,e]
 have hi:=(List.getElem?_eq_some_iff.1 h).1
 have hl:(rV (l.take i)).length=i*4:=by rw [Zj,List.length_take];congr 1;omega
 have e3:rV l=rV (l.take i)++(q4 s++rV (l.drop (i+1))):=by
  conv=>lhs;rw [h1]
  simp [rV]
 rw [e3,List.getElem?_append_right (by omega),hl,Nat.add_sub_cancel_left,List.getElem?_append_left (by rw [aCl];exact hk)]
theorem Has.q4 {h:Hp} {b o:Nat} {l:List Q4} (hh:Has h b o (rV l)) {i:Nat} {s:Q4} (hs:l[i]?=some s):∃ c m e cl ro,h.at b=some (.row c m e cl ro)∧o+i*4+4≤m∧cR c (o+i*4) 4 []=some (q4 s):=by
 obtain ⟨c,m,e,cl,ro,hat,hm,hc⟩:=hh
 have hi:=(List.getElem?_eq_some_iff.1 hs).1
 rw [Zj] at hm hc
 exact ⟨c,m,e,cl,ro,hat,by omega,dV (vs:=cG.q4 s) fun k hk=>by
  rw [aCl] at hk
  rw [Nat.add_assoc,hc _ (by omega),aLG hs hk]⟩
structure SzS (b2 b4 b5 size:Nat) (K:Hp) (i:Nat) (tm:T Value) (df:Df) (H:Hp):Prop where
 df:df=[]
 t1:tm.get [true]=some (A0 size)
 t2:tm.get [false]=some (bE b2 0)
 t4:tm.get [false,true]=some (bE b4 0)
 t5:tm.get [true,false]=some (bE b5 0)
 t6:tm.get [false,false]=some (A0 i)
 wf:Wf H
 fr:Fr (fun k=>k=b5) K H
 st:∃ ov ps,p8 H b5 4 30 (cQ false size (iS (ps.map (·.1))) ov)∧oT H ov ps K.next∧ps.length=i∧(∀ x∈ps,x.1.Rt size)∧iS (ps.map (·.1))≤5*i
def aEB (size:Nat) (h:Hp) (r:Value) (H:Hp):Prop:=∃ ov ops m,r=.agg ⟨cQ false size m ov⟩∧kF.Ok size m ops∧m≤30∧gD H ov ops (fun c=>h.next≤c)∧Wf H∧Fr (fun _=>False) h H
theorem aCm {n b:Nat} {l:List Nat} (h:n≤b):jN n l b=l:=by
 unfold jN
 rw [cI h];rfl
theorem aGs {call:Call} (hO:aTa call) {b2 b4 b5 size inb:Nat} {K:Hp} {sv:Value} {qs:List Q4} (hwK:Wf K) (hb2:b2<K.next) (hb5:b5<K.next) (h25:b2≠b5) (hs:size≤1000) (hKb:K.base≤b5) (hq:∀ q∈qs,Q4.Ok q) (a2:K.at b2=some (aT [A1 inb,sv] 2 24 true)) (hsv:Sl 4 K sv qs.length (rV qs)) (hsb:∀ c,0<qs.length→gY sv c→c≠b5)
 {tm:T Value} {df:Df} {H:Hp} (hst:SzS b2 b4 b5 size K 0 tm df H):bC (iP (.loop nS) call tm df H) (fun ex tm df H=>ex=.exit 0∧SzS b2 b4 b5 size K (min qs.length 6) tm df H):=by
 have hlen:=hsv.len
 refine cT (n:=min qs.length 6) (by omega) (SzS b2 b4 b5 size K) (fun i tm df H hi hI=>?_) (fun tm df H hI=>?_) hst
 · obtain ⟨rfl,t1,t2,t4,t5,t6,wf,fr,⟨ov,ps,row,hops,hpl,hrt,hm⟩⟩:=hI
   obtain ⟨q,hqi⟩:∃ q,qs[i]?=some q:=⟨qs[i]'(by omega),List.getElem?_eq_getElem (by omega)⟩
   obtain ⟨k1,k2,k3,k4⟩:=hq q (List.mem_of_getElem? hqi)
   have nx:=fr.next
   have bH:=fr.base
   obtain ⟨bs,os,cs,rfl,hhas⟩:=hsv.pos (by omega)
   have hne:=hsb bs (by omega) ⟨_,_,_,rfl⟩
   have hbs:=hhas.lt hwK
   obtain ⟨cc,mm,e,cl,ro,hat,hmm,hld⟩:=(hhas.bT (fr.at_ bs hbs hne)).q4 hqi
   have a2H:H.at b2=some (aT [A1 inb,cB bs os qs.length cs] 2 24 true):=by rw [fr.at_ b2 hb2 h25];exact a2
   have e1:Nat.blt i qs.length=true:=bU (by omega)
   have e2:Nat.blt i 6=true:=bU (by omega)
   have e3:Nat.ble (os+i*4+4) mm=true:=cX hmm
   have g1:Nat.blt (0+1) 2=true:=rfl
   have g2:(aL [A1 inb,cB bs os qs.length cs] 0 .nil fun t=>t).get (path (0+1))=some (cB bs os qs.length cs):=rfl
   have w1:aR .i64 (.ofNat (i+1))=.ofNat (i+1):=bF (by omega)
   obtain ⟨r,H1,eo,x,dv,rfl,hxrt,hx5,hdv,hdb,w1',f1⟩:=(hO H q.1 q.2.1 q.2.2.1 q.2.2.2 size wf k1 k2 k3 k4 hs).get
   have eo':call 18 [.agg ⟨q4 q⟩,A0 size] H=.val (.agg ⟨fW x.kind x.from_ x.len x.b dv⟩) H1:=eo
   have n1:=f1.next
   have e4:=s6 (k:=x.kind) (f:=x.from_) (l:=x.len) (b:=x.b) hdv
   obtain ⟨X,hX,wX,fX,aX,nX⟩:=eP w1' M3 (fW x.kind x.from_ x.len x.b dv) 5 68
   have fHX:=f1.trans (P:=fun _=>False) fX fun _ _ h=>h
   have hopsX:oT X ov ps K.next:=hops.bT wf fun c h1 h2=>fHX.at_ c h2 fun h=>h
   have hdvX:Sl 1 X dv x.data.length (dR x.data):=hdv.gV (Q:=fun _=>False) w1' fX (fun _ h=>h.elim)
   have bX:X.base=K.base:=fHX.base.trans bH
   obtain ⟨v',Z,happ,hopsZ,wZ,fZ,nZ,hv1⟩:=Nf (x:=x) wX hopsX (by omega) (by rw [bX];exact hwK.base) (by omega) hdvX fun c h0 hc=>⟨by have:=(hdb c h0 hc).1;omega,fun h0' hb=>by
    have h2:=hops.lt wf h0' hb
    have:=(hdb c h0 hc).1
    omega⟩
   have hsbZ:aS Z X.base X.log=Z:=aBP fZ
   have ea:mQ 68 5 ov (cB X.next 0 1 1) (X.new (aT (fW x.kind x.from_ x.len x.b dv) 5 68 true))=.val v' Z:=by
    have hself:aS (X.new (aT (fW x.kind x.from_ x.len x.b dv) 5 68 true)) X.base X.log=X.new (aT (fW x.kind x.from_ x.len x.b dv) 5 68 true):=rfl
    rcases happ with h1|⟨bo,h1,h2,h3,h4⟩
    · have:=h1 X.base X.log
      rw [hself,hsbZ] at this
      exact this
    · have:=h4 X.base X.log
      rw [hself,aCm (by rw [bX];have:=hwK.base;omega),hsbZ] at this
      exact this
   have hlocZ:Z.at H1.next=some (.row (aL (fW x.kind x.from_ x.len x.b dv) 0 (aL M3 0 .nil fun t=>t) fun t=>t) 5 68 true false):=by
    obtain ⟨bo,hlo,hout,_⟩:=hopsX
    have hsl:Sl 5 (X.new (aT (fW x.kind x.from_ x.len x.b dv) 5 68 true)) (cB X.next 0 1 1) 1 (fW x.kind x.from_ x.len x.b dv):=⟨rfl,.inr ⟨_,_,_,rfl,by omega,fS (n:=5) (e:=68) (cl:=true) (by rw [aM,if_pos rfl]) (Nat.le_refl _)⟩⟩
    have hout2:Out 68 5 (fun c=>K.next≤c) (X.new (aT (fW x.kind x.from_ x.len x.b dv) 5 68 true)) ov ps.length (Tq ps):=hout.Py wX fun c _ _ hc hlt=>⟨by omega,by rw [aM,if_neg (by omega)]⟩
    obtain ⟨v2,Z2,eb2,_,_,_,fr2,_⟩:=vO (wX.new _) hout2 hsl e4 (by omega) (by omega) (fun k hk=>by rw [dX,bX];have:=hwK.base;omega) (by show K.next≤X.next+1;omega)
    rw [ea] at eb2
    injection eb2 with q1 q2
    subst q1 q2
    rw [fr2.at_ _ (by rw [aF];omega) (fun h=>by
     have h2:=hops.lt wf h.1 h.2
     omega),aM,if_neg (by omega)]
    exact aX
   obtain ⟨c5,hat5,hc5⟩:=row.get
   have hat5X:X.at b5=some (.row c5 4 30 true false):=by rw [fHX.at_ b5 (by omega) fun h=>h];exact hat5
   have hat5Z:Z.at b5=some (.row c5 4 30 true false):=by rw [fZ.at_ b5 (by omega) (by omega)];exact hat5X
   have hat51:H1.at b5=some (.row c5 4 30 true false):=by rw [f1.at_ b5 (by omega) fun h=>h];exact hat5
   have c50:=hc5 3 _ rfl
   have c52:=hc5 2 _ rfl
   have rowZ:p8 Z b5 4 30 (cQ false size (iS (ps.map (·.1))) ov):=row.bT (by rw [hat5Z,hat5])
   have r1:=rowZ.set hat5Z (j:=3) (by omega) v'
   obtain ⟨Y,hY⟩:∃ Y,Z.put b5 (some (.row (aL [v'] (0+3) c5 fun t=>t) 4 30 true false))=Y:=⟨_,rfl⟩
   rw [hY] at r1
   have wY:Wf Y:=by rw [← hY];exact wZ.put (by omega) _
   have fZ':Fr (fun k=>k=b5) K Z:=(fr.trans fHX fun _ _ h=>h.elim).trans fZ fun k hk h=>by omega
   have fY:Fr (fun k=>k=b5) K Y:=by rw [← hY];exact fZ'.cJ _ (fun _=>rfl) hKb
   have hopsY:oT Y v' (ps++[(x,dv)]) K.next:=by rw [← hY];exact hopsZ.bT wZ fun c h1 h2=>by rw [aJ,if_neg (by omega)]
   have hlocY:Y.at H1.next=some (.row (aL (fW x.kind x.from_ x.len x.b dv) 0 (aL M3 0 .nil fun t=>t) fun t=>t) 5 68 true false):=by rw [← hY,aJ,if_neg (by omega)];exact hlocZ
   obtain ⟨c6,hat6,hc6⟩:=r1.get
   have c62:=hc6 2 _ rfl
   have hml:iS ((ps++[(x,dv)]).map (·.1))=iS (ps.map (·.1))+x.len:=by rw [List.map_append,List.map_cons,List.map_nil,uP]
   have w2:aR .i64 (.ofNat (iS (ps.map (·.1))+x.len))=.ofNat (iS (ps.map (·.1))+x.len):=bF (by omega)
   have r2:=r1.set hat6 (j:=2) (by omega) (A0 (iS (ps.map (·.1))+x.len))
   rw [nX] at ea
   unfold fW at eo' e4 hX aX ea hlocY
   unfold nS
   simp only [↓aQ,NV,reduceCtorEq,pQ,oS,t1,t2,t4,t5,t6,a2H,g1,g2,e1,e2,e3,hat,hld,eo',e4,hX,aX,nX,hat5X,c50,gE,zA,ea,hat5Z,hv1,hY,hat6,c62,hlocY,w1,w2]
   refine .go ⟨rfl,by simp [t1],by simp [t2],by simp [t4],by simp [t5],by simp,wY.put (wY.lt hat6) _,fY.cJ _ (fun _=>rfl) hKb,⟨v',ps++[(x,dv)],by rw [hml];exact r2,hopsY.bT wY fun c h1 h2=>(by rw [aJ,if_neg (by omega)]),by rw [List.length_append,hpl];rfl,fun y hy=>?_,by rw [hml];omega⟩⟩
   rcases List.mem_append.1 hy with h|h
   · exact hrt y h
   · rw [List.mem_singleton] at h;rw [h];exact hxrt
 · obtain ⟨rfl,t1,t2,t4,t5,t6,wf,fr,st⟩:=hI
   have a2H:H.at b2=some (aT [A1 inb,sv] 2 24 true):=by rw [fr.at_ b2 hb2 h25];exact a2
   have g1:Nat.blt (0+1) 2=true:=rfl
   have g2:(aL [A1 inb,sv] 0 .nil fun t=>t).get (path (0+1))=some sv:=rfl
   by_cases h6:qs.length≤6
   · have e1:Nat.blt (min qs.length 6) qs.length=false:=cI (by omega)
     unfold nS
     simp only [↓aQ,NV,reduceCtorEq,t2,t6,a2H,g1,g2,hlen,e1]
     exact .ex ⟨rfl,rfl,by simp [t1],by simp [t2],by simp [t4],by simp [t5],by simp [t6],wf,fr,st⟩
   · have e1:Nat.blt (min qs.length 6) qs.length=true:=bU (by omega)
     have e2:Nat.blt (min qs.length 6) 6=false:=cI (by omega)
     unfold nS
     simp only [↓aQ,NV,reduceCtorEq,t2,t6,a2H,g1,g2,hlen,e1,e2]
     exact .ex ⟨rfl,rfl,by simp [t1],by simp [t2],by simp [t4],by simp [t5],by simp [t6],wf,fr,st⟩
theorem aCn {call:Call} {cd:cE} (hO:aTa call) {h:Hp} {inb size:Nat} {sv:Value} {qs:List Q4} (hw:Wf h) (hs:size≤1000) (hq:∀ q∈qs,Q4.Ok q) (hsv:Sl 4 h sv qs.length (rV qs)):Yields (dD Ha call cd [.agg ⟨[A1 inb,sv]⟩,A0 size] h) (aEB size h):=by
 have hwb:=hw.base
 have hone:bY [A1 inb,sv]=true:=by
  obtain ⟨_,⟨_,rfl|⟨b,o,c,rfl⟩⟩|⟨b,o,c,rfl,_⟩⟩:=hsv<;>rfl
 obtain ⟨J,hJ⟩:∃ J,(h.new (aT [A1 inb,sv] 2 24 true)).new (aT D5 4 30 true)=J:=⟨_,rfl⟩
 have wJ:Wf J:=by rw [← hJ];exact (hw.new _).new _
 have fJ:Fr (fun _=>False) h J:=by rw [← hJ];exact (Fr.new _).dE _
 have nJ:J.next=h.next+2:=by rw [← hJ];rfl
 have a2:J.at h.next=some (aT [A1 inb,sv] 2 24 true):=by rw [← hJ,aM,aF,if_neg (by omega),aM,if_pos rfl]
 have a4:J.at (h.next+1)=some (aT D5 4 30 true):=by rw [← hJ,aM,aF,if_pos rfl]
 obtain ⟨K,hK,wK,fK,aK,nK⟩:=eP wJ D5 (cQ false size 0 (.slice none 0 0)) 4 30
 have a2K:K.at h.next=_:=(fK.at_ _ (by omega) fun h=>h).trans a2
 have a4K:K.at (h.next+1)=_:=(fK.at_ _ (by omega) fun h=>h).trans a4
 have fhK:=fJ.trans (P:=fun _=>False) fK fun _ _ h=>h
 have hKb:K.base≤h.next+2:=by have:=fhK.base;omega
 have hsvK:Sl 4 K sv qs.length (rV qs):=hsv.gV (Q:=fun _=>False) hw fhK (fun _ h=>h.elim)
 have hsvl:∀ c,0<qs.length→gY sv c→c≠h.next+2:=fun c h0 hc=>by have:=hsv.lt hw h0 hc;omega
 refine aP rfl ?_
 unfold cQ at hK
 have z1:Nat.ble (1+1) 4=true:=rfl
 simp only [↓aQ,NV,reduceCtorEq,pQ,cN,cP,hJ,z1,hK,tO]
 rw [nJ]
 rw [nJ] at aK nK
 refine bC.lp (id:=0) (P:=SzS h.next (h.next+1) (h.next+2) size K (min qs.length 6)) (aGs hO wK (by omega) (by omega) (by omega) hs hKb hq a2K hsvK hsvl ⟨rfl,by simp [cP],by simp,by simp,by simp,by simp,wK,Fr.refl _ _,⟨_,[],Jk rfl aK,oT.nil,rfl,fun x hx=>(by cases hx),Nat.le_refl _⟩⟩) ?_
 rintro tm df H ⟨rfl,t1,t2,t4,t5,t6,wf,fr,⟨ov,ps,row,hops,hpl,hrt,hm⟩⟩
 obtain ⟨hvl,c,hat,hc⟩:=row
 have hld:=Ep hvl hc
 have a4H:H.at (h.next+1)=some (aT D5 4 30 true):=by rw [fr.at_ _ (by omega) (by omega)];exact a4K
 have hal:bY (cQ false size (iS (ps.map (·.1))) ov)=true:=iT hops.one
 have nx:=fr.next
 unfold cQ at hld hal
 simp only [↓aQ,NV,reduceCtorEq,pQ,t4,t5,hat,hld,a4H,hal,gM]
 refine .ret ?_
 rw [fI (b:=h.next+1) (by simp [t4]) (by rw [aJ,if_pos rfl]) (Nat.le_refl _) (sV _ _ _ _ _)]
 have hops2:oT (H.put (h.next+1) (some (.row (aL [Value.bool false,A0 size,A0 (iS (ps.map (·.1))),ov] 0 (aL D5 0 .nil fun t=>t) fun t=>t) 4 30 true false))) ov ps K.next:=hops.bT wf fun c h1 h2=>by rw [aJ,if_neg (by omega)]
 have wfin:=wf.put (b:=h.next+1) (by omega) (some (.row (aL [Value.bool false,A0 size,A0 (iS (ps.map (·.1))),ov] 0 (aL D5 0 .nil fun t=>t) fun t=>t) 4 30 true false))
 refine ⟨ov,ps.map (·.1),_,rfl,⟨fun o ho=>?_,rfl,hs,by omega⟩,by omega,?_,wfin,(fhK.trans (P:=fun _=>False) fr fun k hk h=>(by omega)).cJ _ (fun h=>by omega) (by omega)⟩
 · obtain ⟨x,hx,rfl⟩:=List.mem_map.1 ho
   exact hrt x hx
 · exact gD.mono hops2.toR fun c hc=>by omega
def Ty (call:Call):Prop:=∀ h inb size sv qs,Wf h→size≤1000→(∀ q∈qs,Q4.Ok q)→Sl 4 h sv qs.length (rV qs)→Yields (call 6 [.agg ⟨[A1 inb,sv]⟩,A0 size] h) (aEB size h)
theorem aGt {call:Call} {cd:cE} (hS:Ty call) {h:Hp} {inb:Nat} {sv:Value} {qs:List Q4} (hw:Wf h) (hi:inb<256) (hq:∀ q∈qs,Q4.Ok q) (hsv:Sl 4 h sv qs.length (rV qs)):Yields (dD Nn call cd [.agg ⟨[A1 inb,sv]⟩] h) (aEB (inb % 13) h):=by
 have hwb:=hw.base
 have hone:bY [A1 inb,sv]=true:=by
  obtain ⟨_,⟨_,rfl|⟨b,o,c,rfl⟩⟩|⟨b,o,c,rfl,_⟩⟩:=hsv<;>rfl
 obtain ⟨J,hJ⟩:∃ J,(h.new (aT [A1 inb,sv] 2 24 true)).new (aT D5 4 30 true)=J:=⟨_,rfl⟩
 have wJ:Wf J:=by rw [← hJ];exact (hw.new _).new _
 have fJ:Fr (fun _=>False) h J:=by rw [← hJ];exact (Fr.new _).dE _
 have nJ:J.next=h.next+2:=by rw [← hJ];rfl
 have a2:J.at h.next=some (aT [A1 inb,sv] 2 24 true):=by rw [← hJ,aM,aF,if_neg (by omega),aM,if_pos rfl]
 have a4:J.at (h.next+1)=some (aT D5 4 30 true):=by rw [← hJ,aM,aF,if_pos rfl]
 have hm:inb % 13≤1000:=by have:=Nat.mod_lt inb (show 0<13 by decide);omega
 obtain ⟨r,G,e1,ov,ops,m,rfl,p1,p2,p3,wG,fG⟩:=(hS J inb (inb % 13) sv qs wJ hm hq (hsv.gV (Q:=fun _=>False) hw fJ (fun _ h=>h.elim))).get
 have nG:=fG.next
 have a4G:G.at (h.next+1)=some (aT D5 4 30 true):=by rw [fG.at_ _ (by omega) fun h=>h];exact a4
 have hal:bY (cQ false (inb % 13) m ov)=true:=iT (nR p3)
 have w1:aR .i64 (.ofNat inb)=.ofNat inb:=bF (by omega)
 have q1:iZ .i64 (.ofNat inb) (.ofNat 13)=some (A0 (inb % 13)):=lN _ (by omega)
 have g0:Nat.blt (0+0) 2=true:=rfl
 have g1:(aL [A1 inb,sv] 0 .nil fun t=>t).get (path (0+0))=some (A1 inb):=rfl
 unfold cQ at e1 hal
 refine aP rfl ?_
 simp only [↓aQ,NV,reduceCtorEq,ev2,pQ,dQ,tO,gM,hJ,a2,g0,g1,w1,q1,e1,a4G,hal]
 refine .ret ?_
 rw [fI (b:=h.next+1) (by simp) (by rw [aJ,if_pos rfl]) (Nat.le_refl _) (sV _ _ _ _ _)]
 exact ⟨ov,ops,m,rfl,p1,p2,gD.mono (p3.aKT wG fun c h1 h2=>by rw [aJ,if_neg (by omega)]) fun c hc=>by omega,wG.put (by omega) _,(fJ.trans (P:=fun _=>False) fG fun _ _ h=>h).cJ _ (fun h=>by omega) (by omega)⟩
def aLH (call:Call):Prop:=∀ h inb sv qs,Wf h→inb<256→(∀ q∈qs,Q4.Ok q)→Sl 4 h sv qs.length (rV qs)→Yields (call 5 [.agg ⟨[A1 inb,sv]⟩] h) (aEB (inb % 13) h)
def inN (xs:List Nat) (i:Nat):Nat:=if i<xs.length then xs.getD i 0 else 7*i % 256
def Tz (xs:List Nat) (m:Nat):List Nat:=(List.range m).map (inN xs)
theorem aEC (xs:List Nat) (m:Nat):(Tz xs m).length=m:=by simp [Tz]
theorem aLI (xs:List Nat) (m:Nat):Tz xs (m+1)=Tz xs m++[inN xs m]:=by simp [Tz,List.range_succ]
theorem aLJ {xs:List Nat} (h:∀ x∈xs,x<256) (m:Nat):∀ x∈Tz xs m,x<256:=by
 intro x hx
 obtain ⟨i,_,rfl⟩:=List.mem_map.1 hx
 unfold inN
 split
 · rename_i hi
   rw [List.getD_eq_getElem?_getD,List.getElem?_eq_getElem hi]
   exact h _ (List.getElem_mem hi)
 · exact Nat.mod_lt _ (by decide)
structure InS (v:Value) (xs:List Nat) (n:Nat) (h:Hp) (i:Nat) (tm:T Value) (df:Df) (H:Hp):Prop where
 df:df=[]
 t0:tm.get []=some v
 t1:tm.get [true]=some (A0 n)
 t6:tm.get [false,false]=some (A0 i)
 wf:Wf H
 fr:Fr (fun _=>False) h H
 st:∃ ov,tm.get [true,false]=some ov∧Out 5 1 (fun k=>h.next≤k) H ov (Tz xs i).length (dR (Tz xs i))
theorem aCo {call:Call} {cd:cE} {h:Hp} {v:Value} {xs:List Nat} {n:Nat} (hw:Wf h) (hv:Sl 1 h v xs.length (dR xs)) (hn:n≤1000):Yields (dD Hd call cd [v,A0 n] h) (NwR (Tz xs n) h):=by
 have hwb:=hw.base
 have hlen:=hv.len
 refine aP rfl ?_
 simp only [↓aQ,NV,reduceCtorEq,cN,cP,Sb]
 refine bC.lp (id:=0) (P:=InS v xs n h n) ?_ ?_
 · refine cT (n:=n) (by omega) (InS v xs n h) (fun i tm df H hi hI=>?_) (fun tm df H hI=>?_) ?_
   · obtain ⟨rfl,t0,t1,t6,wf,fr,⟨ov,t5,ho⟩⟩:=hI
     have nx:=fr.next
     have e1:Nat.blt i n=true:=bU hi
     have m1:iU .i64 (.ofNat 7) (.ofNat i)=some (.int .i64 (aR .i64 (.ofNat (7*i)))):=lD _ _ _
     have m2:aR .i64 (.ofNat (7*i))=.ofNat (7*i):=bF (by omega)
     have m3:aR .u8 (.ofNat (7*i))=.ofNat (7*i % 256):=nD _
     have w1:aR .i64 (.ofNat (i+1))=.ofNat (i+1):=bF (by omega)
     have b1:Nat.ble (0+1) 1=true:=rfl
     obtain ⟨v',H',ea,ho2,wf2,fr2,nx2,_⟩:=aS7 (inN xs i) wf ho (by rw [aEC];omega) (fun k hk=>by rw [fr.base];omega) (fun k hk=>by omega)
     rw [← aLI] at ho2
     by_cases hx:i<xs.length
     · have hxi:xs[i]?=some (inN xs i):=by
        unfold inN
        rw [if_pos hx,List.getD_eq_getElem?_getD,List.getElem?_eq_getElem hx];rfl
       obtain ⟨b,o,c,rfl,hhas⟩:=hv.pos (by omega)
       have hb:=hhas.lt hw
       obtain ⟨c1,mm,e,cl,ro,hat,hmm,hc1⟩:=(hhas.bT (fr.at_ b hb fun h=>h)).get (iH hxi)
       have q1:Nat.blt i xs.length=true:=bU hx
       have q2:Nat.blt (o+i*1) mm=true:=bU (by omega)
       have q3:c1.get (path (o+i*1))=some (A1 (inN xs i)):=by rw [Nat.mul_one];exact hc1
       unfold qO
       simp only [↓aQ,NV,reduceCtorEq,t0,t1,t5,t6,e1,m1,m2,m3,q1,hat,q2,q3,b1,gE,ea,w1]
       exact .go ⟨rfl,by simp [t0],by simp [t1],by simp,wf2,fr.trans fr2 fun k hk h=>by omega,v',by simp,ho2⟩
     · have q1:Nat.blt i xs.length=false:=cI (by omega)
       have hin:inN xs i=7*i % 256:=by unfold inN;rw [if_neg hx]
       rw [hin] at ea
       unfold qO
       simp only [↓aQ,NV,reduceCtorEq,t0,t1,t5,t6,e1,m1,m2,m3,hlen,q1,b1,gE,ea,w1]
       exact .go ⟨rfl,by simp [t0],by simp [t1],by simp,wf2,fr.trans fr2 fun k hk h=>by omega,v',by simp,ho2⟩
   · obtain ⟨rfl,t0,t1,t6,wf,fr,⟨ov,t5,ho⟩⟩:=hI
     have e1:Nat.blt n n=false:=cI (Nat.le_refl _)
     unfold qO
     simp only [↓aQ,NV,reduceCtorEq,t1,t6,e1]
     exact .ex ⟨rfl,rfl,by simp [t0],by simp [t1],by simp [t6],wf,fr,ov,by simp [t5],ho⟩
   · exact ⟨rfl,by simp [cN],by simp [cP],by simp,hw.new _,Fr.new _,_,by simp<;>rfl,⟨rfl,rfl,.inl ⟨rfl,.inl ⟨_,rfl⟩⟩⟩⟩
 rintro tm df H ⟨rfl,t0,t1,t6,wf,fr,⟨ov,t5,ho⟩⟩
 simp only [↓aQ,NV,reduceCtorEq,t5]
 refine .ret ?_
 simp only [↓aQ,NV,reduceCtorEq]
 exact ⟨ho,wf,fr⟩
def aED (call:Call):Prop:=∀ h v xs n,Wf h→Sl 1 h v xs.length (dR xs)→n≤1000→Yields (call 12 [v,A0 n] h) (NwR (Tz xs n) h)
structure SmS (a b:Value) (h:Hp) (i:Nat) (tm:T Value) (df:Df) (H:Hp):Prop where
 df:df=[]
 hh:H=h
 t0:tm.get []=some a
 t1:tm.get [true]=some b
 t5:tm.get [true,false]=some (A0 i)
theorem aGu {call:Call} {cd:cE} {h:Hp} {a b:Value} {xs:List Nat} (ha:Sl 1 h a xs.length (dR xs)) (hb:Sl 1 h b xs.length (dR xs)) (hl:xs.length≤100000):dD Ns call cd [a,b] h=.val (.bool true) h:=by
 refine EqR.get ?_
 have la:=ha.len
 have lb:=hb.len
 have e0:Nat.beq xs.length xs.length=true:=Nat.beq_refl _
 refine aP rfl ?_
 simp only [↓aQ,NV,reduceCtorEq,cN,cP,la,lb,e0]
 refine bC.lp (id:=0) (P:=SmS a b h xs.length) ?_ ?_
 · refine cT (n:=xs.length) (by omega) (SmS a b h) (fun i tm df H hi hI=>?_) (fun tm df H hI=>?_) ?_
   · obtain ⟨rfl,rfl,t0,t1,t5⟩:=hI
     have hxi:xs[i]?=some (xs[i]'hi):=List.getElem?_eq_getElem hi
     generalize xs[i]'hi=x at hxi
     obtain ⟨b1,o1,c1,rfl,h1⟩:=ha.pos (by omega)
     obtain ⟨b2,o2,c2,rfl,h2⟩:=hb.pos (by omega)
     obtain ⟨d1,m1,f1,cl1,ro1,at1,l1,g1⟩:=h1.get (iH hxi)
     obtain ⟨d2,m2,f2,cl2,ro2,at2,l2,g2⟩:=h2.get (iH hxi)
     have q0:Nat.blt i xs.length=true:=bU hi
     have q1:Nat.blt (o1+i*1) m1=true:=bU (by omega)
     have q2:Nat.blt (o2+i*1) m2=true:=bU (by omega)
     have q3:d1.get (path (o1+i*1))=some (A1 x):=by rw [Nat.mul_one];exact g1
     have q4:d2.get (path (o2+i*1))=some (A1 x):=by rw [Nat.mul_one];exact g2
     have q5:Nat.beq x x=true:=Nat.beq_refl _
     have w1:aR .i64 (.ofNat (i+1))=.ofNat (i+1):=bF (by omega)
     unfold zD
     simp only [↓aQ,NV,reduceCtorEq,t0,t1,t5,q0,at1,at2,q1,q2,q3,q4,q5,w1]
     exact .go ⟨rfl,rfl,by simp [t0],by simp [t1],by simp⟩
   · obtain ⟨rfl,rfl,t0,t1,t5⟩:=hI
     have q0:Nat.blt xs.length xs.length=false:=cI (Nat.le_refl _)
     unfold zD
     simp only [↓aQ,NV,reduceCtorEq,t0,t5,la,q0]
     exact .ex ⟨rfl,rfl,rfl,by simp [t0],by simp [t1],by simp [t5]⟩
   · exact ⟨rfl,rfl,by simp [cN],by simp [cP],by simp⟩
 rintro tm df H ⟨rfl,rfl,t0,t1,t5⟩
 simp only [↓aQ,NV,reduceCtorEq]
 refine .ret ?_
 simp only [↓aQ,NV,reduceCtorEq]
 exact ⟨rfl,rfl⟩
def aLK (call:Call):Prop:=∀ H a b xs,Sl 1 H a xs.length (dR xs)→Sl 1 H b xs.length (dR xs)→xs.length≤100000→call 14 [a,b] H=.val (.bool true) H
noncomputable def Nt (e:Nat):Value:=.agg ⟨sE e 0 (.slice none 0 0)⟩
theorem aCp {call:Call} {cd:cE} {h:Hp} {e:Nat}:Yields (dD Hj call cd [Nt e,Nt e] h) (QR (.bool true) h):=by
 have e1:Nat.beq e e=true:=Nat.beq_refl _
 have e2:Nat.beq 0 0=true:=rfl
 have e3:=Yx []
 have eb:∀ (H:Hp) (k:Value→eL),prK H (pF (.slice none 0 0)) k=k (.string (jM [])):=fun _ _=>rfl
 unfold Nt sE
 refine aP rfl ?_
 simp only [↓aQ,NV,reduceCtorEq,pQ,cN,cP,gM,e1,e2,e3,aVW,eb]
 refine .ret ?_
 simp only [↓aQ,NV,reduceCtorEq]
 exact ⟨rfl,rfl⟩
def aEE (call:Call):Prop:=∀ H e,call 25 [Nt e,Nt e] H=.val (.bool true) H
theorem aCq {call:Call} {cd:cE} (hA:aEE call) {h:Hp} {e:Nat}:Yields (dD Hi call cd [Nt e,Nt e] h) (QR (.bool true) h):=by
 have e1:=fun H=>hA H e
 unfold Nt sE at e1 ⊢
 refine aP rfl ?_
 simp only [↓aQ,NV,reduceCtorEq,pQ,cN,cP,gM,e1]
 refine .ret ?_
 simp only [↓aQ,NV,reduceCtorEq]
 exact ⟨rfl,rfl⟩
def aEF (call:Call):Prop:=∀ H e,call 9 [Nt e,Nt e] H=.val (.bool true) H
structure aTb (call:Call) (h:Hp):Prop where
 aGv:∀ H,Fr (fun _=>False) h H→call 4 [] H=.val (.bool true) H
 made:aLH call
 sized:Ty call
 pack:aLC call
 ask:aQ6 call
 ans:aEF call
 unpack:Jn call
 cost:aBS call
 input:aED call
 apply:aKw call
 same:aLK call
theorem aPm {call:Call} {cd:cE} {h:Hp} (hC:aTb call h) {in1 in2 w:Nat} {sv1 sv2 bv:Value} {q1 q2:List Q4} {bs:List Nat} (hw:Wf h) (h1:in1<256) (h2:in2<256) (hw8:w<256) (hq1:∀ q∈q1,Q4.Ok q) (hq2:∀ q∈q2,Q4.Ok q) (hs1:Sl 4 h sv1 q1.length (rV q1)) (hs2:Sl 4 h sv2 q2.length (rV q2)) (hbv:Sl 1 h bv bs.length (dR bs)) (hbs:∀ x∈bs,x<256) :
 Yields (dD aB7 call cd [.agg ⟨[A1 in1,sv1,A1 in2,sv2]⟩,bv,A1 w] h) (fun r H=>r=.bool true∧H.log=h.log):=by
 have hwb:=hw.base
 have one:∀ {n:Nat} {q:List Q4} {v:Value},Sl 4 h v n (rV q)→bY [v]=true:=fun hs=>by
  obtain ⟨_,⟨_,rfl|⟨b,o,c,rfl⟩⟩|⟨b,o,c,rfl,_⟩⟩:=hs<;>rfl
 obtain ⟨K,hK⟩:∃ K,h.new (aT [A1 in1,sv1,A1 in2,sv2] 4 25 true)=K:=⟨_,rfl⟩
 have wK:Wf K:=by rw [← hK];exact hw.new _
 have fK:Fr (fun _=>False) h K:=by rw [← hK];exact Fr.new _
 have nK:K.next=h.next+1:=by rw [← hK];rfl
 have a0:K.at h.next=some (aT [A1 in1,sv1,A1 in2,sv2] 4 25 true):=by rw [← hK,aM,if_pos rfl]
 have es:=hC.aGv K fK
 have hin:=Nat.mod_lt in1 (show 0<13 by decide)
 obtain ⟨r,G1,e1,ov1,ops1,m1,rfl,p1,hm1,o1,w1,f1⟩:=(hC.made K in1 sv1 q1 wK h1 hq1 (hs1.gV (Q:=fun _=>False) hw fK (fun _ h=>h.elim))).get
 generalize hN1:in1 % 13=n1 at *
 obtain ⟨X1,hX1,wX1,fX1,aX1,nX1⟩:=eP w1 D5 (cQ false n1 m1 ov1) 4 30
 have l1:=iT (li:=false) (n:=n1) (m:=m1) (nR o1)
 have g1:=f1.next
 have fh1:=(fK.trans (P:=fun _=>False) f1 fun _ _ h=>h).trans (P:=fun _=>False) fX1 fun _ _ h=>h
 have a0X1:X1.at h.next=_:=(fX1.at_ _ (by omega) fun h=>h).trans ((f1.at_ _ (by omega) fun h=>h).trans a0)
 have u1:iZ .u8 (.ofNat w) (.ofNat 8)=some (A1 (w % 8)):=lN _ (by omega)
 have u2:aR .i64 (.ofNat (w % 8))=.ofNat (w % 8):=bF (by omega)
 have u3:pE .i64 (.ofNat (w % 8)) (.ofNat 7)=some (.int .i64 (aR .i64 (.ofNat (w % 8 / 7)))):=tP _ (by omega)
 have u4:aR .i64 (.ofNat (w % 8 / 7))=.ofNat (w % 8 / 7):=bF (by omega)
 have u5:aR .i64 (.ofNat (m1+w % 8 / 7))=.ofNat (m1+w % 8 / 7):=bF (by omega)
 have hw7:w % 8 / 7≤1:=by omega
 generalize hN2:m1+w % 8 / 7=n2 at *
 obtain ⟨r,G2,e2,ov2,ops2,m2,rfl,p2,hm2,o2,w2,f2⟩:=(hC.sized X1 in2 n2 sv2 q2 wX1 (by omega) hq2 (hs2.gV (Q:=fun _=>False) hw fh1 (fun _ h=>h.elim))).get
 obtain ⟨X2,hX2,wX2,fX2,aX2,nX2⟩:=eP w2 D5 (cQ false n2 m2 ov2) 4 30
 have l2:=iT (li:=false) (n:=n2) (m:=m2) (nR o2)
 have g2:=f2.next
 have f12:=f2.trans (P:=fun _=>False) fX2 fun _ _ h=>h
 have aX12:X2.at G1.next=_:=(f12.at_ _ (by omega) fun h=>h).trans aX1
 have o1X2:=((o1.eH w1 fX1).eH wX1 f12)
 have o2X2:=o2.eH w2 fX2
 obtain ⟨r,G3,e3,v1,rfl,ro1,b1,w3,f3⟩:=(hC.pack X2 n1 m1 ops1 ov1 _ wX2 p1 o1X2).get
 have g3:=f3.next
 have aX13:G3.at G1.next=_:=(f3.at_ _ (by omega) fun h=>h).trans aX12
 have aX23:G3.at G2.next=_:=(f3.at_ _ (by omega) fun h=>h).trans aX2
 obtain ⟨r,G4,e4,v2,rfl,ro2,b2,w4,f4⟩:=(hC.pack G3 n2 m2 ops2 ov2 _ w3 p2 (o2X2.eH wX2 f3)).get
 have g4:=f4.next
 have aX14:G4.at G1.next=_:=(f4.at_ _ (by omega) fun h=>h).trans aX13
 have aX24:G4.at G2.next=_:=(f4.at_ _ (by omega) fun h=>h).trans aX23
 have hQ:Es G4 v1 v2 n1 m1 n2 m2 ops1 ops2:=⟨w4,p1,p2,by omega,by omega,ro1.eH w3 f4,ro2⟩
 obtain ⟨r,G5,e5,hcq⟩:=(hC.ask G4 v1 v2 n1 m1 n2 m2 ops1 ops2 hQ).get
 obtain ⟨⟨re,rN,rw_,rfl,hao⟩,w5,f5⟩:=hcq.ans
 obtain ⟨X5,hX5,wX5,fX5,aX5,nX5⟩:=eP w5 M7 (sE re rN rw_) 4 37
 have g5:=f5.next
 have f45:=f5.trans (P:=fun _=>False) fX5 fun _ _ h=>h
 have aX15:X5.at G1.next=_:=(f45.at_ _ (by omega) fun h=>h).trans aX14
 have aX25:X5.at G2.next=_:=(f45.at_ _ (by omega) fun h=>h).trans aX24
 obtain ⟨b1',o1',l1',c1',rfl⟩:=ro1.one
 obtain ⟨b2',o2',l2',c2',rfl⟩:=ro2.one
 have k0:Nat.blt 0 2=true:=rfl
 have k1:Nat.blt 1 2=true:=rfl
 have ld0:cR (aL [A1 in1,sv1,A1 in2,sv2] 0 .nil fun t=>t) (0+0*2) 2 []=some [A1 in1,sv1]:=rfl
 have ld1:cR (aL [A1 in1,sv1,A1 in2,sv2] 0 .nil fun t=>t) (0+1*2) 2 []=some [A1 in2,sv2]:=rfl
 have kb0:Nat.ble (0+0*2+2) 4=true:=rfl
 have kb1:Nat.ble (0+1*2+2) 4=true:=rfl
 have hcmd:∀ (lo:List Value) (tm:T Value),cZ [A0 0,A0 0,A0 0,A0 0,A0 0,A0 0,A1 0,.slice none 0 0,.slice none 0 0,.slice none 0 0,.slice none 0 0,.slice none 0 0] [(0,(1,OD.val (A0 7))),(10,(1,OD.loc 1)),(11,(1,OD.loc 0))] (cB b2' o2' l2' c2'::cB b1' o1' l1' c1'::lo) tm=some (.agg ⟨mG (cB b1' o1' l1' c1') (cB b2' o2' l2' c2')⟩):=fun lo tm=>rfl
 have h3:∀ (lo:List Value) (tm:T Value),cZ [Value.slice none 0 0,.slice none 0 0,.slice none 0 0] [] lo tm=some (.agg ⟨lJ⟩):=fun lo tm=>rfl
 unfold cQ at hX1 aX1 l1 hX2 aX2 l2 e1 e2 e3 e4 aX12 aX13 aX23 aX14 aX24 aX15 aX25
 unfold sE at hX5 aX5 hao e5
 by_cases hmn:m1=n2
 · obtain ⟨ops,p3,hsy,v3,hr,ro3,b3,_,_⟩:=hcq.1 hmn
   have hr':re=0∧rN=oH ops∧rw_=v3:=by
    have:=hr
    simp [sE] at this
    exact ⟨this.1,by have:=this.2.1;omega,this.2.2⟩
   obtain ⟨rfl,rfl,rfl⟩:=hr'
   have d1:Nat.beq n2 m1=true:=by rw [hmn];exact Nat.beq_refl _
   obtain ⟨b3',o3',l3',c3',rfl⟩:=ro3.one
   obtain ⟨r,G6,e6,ov,opsU,rfl,_,hoU,oU,w6,f6⟩:=(hC.unpack X5 n1 m2 ops _ wX5 p3 (ro3.eH w5 fX5)).get
   rw [hoU] at oU
   obtain ⟨X6,hX6,wX6,fX6,aX6,nX6⟩:=eP w6 D5 (cQ false n1 m2 ov) 4 30
   have l6:=iT (li:=false) (n:=n1) (m:=m2) (nR oU)
   have g6:=f6.next
   have f56:=f6.trans (P:=fun _=>False) fX6 fun _ _ h=>h
   have oU6:=oU.eH w6 fX6
   have aX16:X6.at G1.next=_:=(f56.at_ _ (by omega) fun h=>h).trans aX15
   have aX26:X6.at G2.next=_:=(f56.at_ _ (by omega) fun h=>h).trans aX25
   have aX56:X6.at G5.next=_:=(f56.at_ _ (by omega) fun h=>h).trans aX5
   have ec:=hC.cost (aS X6 X6.next []) n1 m2 ops ov _ false (wX6.sb []) p3 (show gD (aS X6 X6.next []) ov ops _ from oU6)
   have dc:Nat.beq (oH ops) (oH ops)=true:=Nat.beq_refl _
   have d0:Nat.beq 0 0=true:=rfl
   have f36:Fr (fun _=>False) X2 X6:=((f3.trans (P:=fun _=>False) f4 fun _ _ h=>h).trans (P:=fun _=>False) f45 fun _ _ h=>h).trans (P:=fun _=>False) f56 fun _ _ h=>h
   have fh6:Fr (fun _=>False) h X6:=(fh1.trans (P:=fun _=>False) f12 fun _ _ h=>h).trans (P:=fun _=>False) f36 fun _ _ h=>h
   obtain ⟨v7,G7,e7,o7,w7,f7⟩:=(hC.input X6 bv bs n1 wX6 (hbv.gV (Q:=fun _=>False) hw fh6 (fun _ h=>h.elim)) (by omega)).get
   have il:=aEC bs n1
   have ib:=aLJ hbs n1
   have hpl1:(eO ops1).length=m1:=p1.out
   have hpl2:(eO ops2).length=m2:=p2.out
   have f37:=f36.trans (P:=fun _=>False) f7 fun _ _ h=>h
   have g7:=f7.next
   have aX17:G7.at G1.next=_:=(f7.at_ _ (by omega) fun h=>h).trans aX16
   have aX27:G7.at G2.next=_:=(f7.at_ _ (by omega) fun h=>h).trans aX26
   have aX67:G7.at G6.next=_:=(f7.at_ _ (by omega) fun h=>h).trans aX6
   obtain ⟨r,G8,e8,y1,rfl,sy1,_,_,w8,f8⟩:=(hC.apply G7 v7 ov1 (Tz bs n1) n1 m1 ops1 _ w7 o7.sl p1 il (by omega) (o1X2.eH wX2 f37) ib).get
   have g8:=f8.next
   have aX28:G8.at G2.next=_:=(f8.at_ _ (by omega) fun h=>h).trans aX27
   have aX68:G8.at G6.next=_:=(f8.at_ _ (by omega) fun h=>h).trans aX67
   have hyl:(nH (Tz bs n1) (eO ops1)).length=m1:=by rw [Xv,hpl1]
   have hyb:∀ x∈nH (Tz bs n1) (eO ops1),x<256:=aFT (rM p1.rt)
   obtain ⟨r,G9,e9,y2,rfl,sy2,_,_,w9,f9⟩:=(hC.apply G8 y1 ov2 (nH (Tz bs n1) (eO ops1)) n2 m2 ops2 _ w8 (by rw [hyl];exact sy1) p2 (by rw [hyl,hmn]) (by omega) ((o2X2.eH wX2 f37).eH w7 f8) hyb).get
   have g9:=f9.next
   have aX69:G9.at G6.next=_:=(f9.at_ _ (by omega) fun h=>h).trans aX68
   have f79:=f8.trans (P:=fun _=>False) f9 fun _ _ h=>h
   obtain ⟨r,G10,e10,y3,rfl,sy3,_,_,w10,f10⟩:=(hC.apply G9 v7 ov (Tz bs n1) n1 m2 ops _ w9 (o7.sl.gV (Q:=fun _=>False) w7 f79 (fun _ h=>h.elim)) p3 il (by omega) ((oU6.eH wX6 f7).eH w7 f79) ib).get
   have hthr:nH (Tz bs n1) (eO ops)=nH (nH (Tz bs n1) (eO ops1)) (eO ops2):=by rw [hsy];exact aOL (rM p1.rt) (by rw [hpl1,hmn];exact rM p2.rt)
   have hfl:(nH (nH (Tz bs n1) (eO ops1)) (eO ops2)).length=m2:=by rw [Xv,hpl2]
   have e11:=hC.same G10 y3 y2 (nH (nH (Tz bs n1) (eO ops1)) (eO ops2)) (by rw [hfl,← hthr];exact sy3) (by rw [hfl];exact sy2.gV (Q:=fun _=>False) w9 f10 (fun _ h=>h.elim)) (by omega)
   unfold cQ at hX6 aX6 l6 e6 ec aX67 aX68 aX69 e8 e9 e10 aX16 aX17 aX27 aX28
   refine aP rfl ?_
   simp only [↓hcmd,↓h3,↓aQ,NV,reduceCtorEq,pQ,m0,m8,pW,gM,hK,es,a0,k0,kb0,ld0,e1,l1,hX1,a0X1,k1,kb1,ld1,aX1,u1,u2,u3,u4,u5,hN2,e2,l2,hX2,aX12,e3,iX,nW,oD,aX23,e4,e5,hao,hX5,aX15,aX25,d1,aX5,e6,l6,hX6,sW,aIQ,aIR,aX56,d0,aX6,ec,dc,aX16,e7,aX17,e8,aX28,e9,aX69,e10,e11]
   refine .ret ?_
   simp only [↓aQ,NV,reduceCtorEq]
   exact f10.log.trans (f79.log.trans (f37.log.trans (f12.log.trans fh1.log)))
 · obtain ⟨hr,_,_⟩:=hcq.2 hmn
   have hr':re=61∧rN=0∧rw_=.slice none 0 0:=by
    have:=hr
    simp [sE] at this
    exact ⟨by have:=this.1;omega,this.2⟩
   obtain ⟨rfl,rfl,rfl⟩:=hr'
   have ea:=fun H=>hC.ans H 61
   unfold Nt sE at ea
   have d1:Nat.beq n2 m1=false:=dO fun e=>hmn e.symm
   refine aP rfl ?_
   simp only [↓hcmd,↓h3,↓aQ,NV,reduceCtorEq,pQ,m0,m8,pW,gM,hK,es,a0,k0,kb0,ld0,e1,l1,hX1,a0X1,k1,kb1,ld1,aX1,u1,u2,u3,u4,u5,hN2,e2,l2,hX2,aX12,e3,iX,nW,oD,aX23,e4,e5,hao,hX5,aX15,aX25,d1,aX5,ea]
   refine .ret ?_
   simp only [↓aQ,NV,reduceCtorEq]
   exact fX5.log.trans (f5.log.trans (f4.log.trans (f3.log.trans (f12.log.trans fh1.log))))
end cG
end Go
