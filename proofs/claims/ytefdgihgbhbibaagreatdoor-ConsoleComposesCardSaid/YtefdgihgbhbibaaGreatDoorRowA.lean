/-
ConsoleComposes: the argument and the listed variables, opened.
Conditions: none.
-/
import Derived.Test.YtefdgihgbhbibaaGreatDoorRows
import Derived.ProofKit
import Derived.OpenShut
import Derived.ChangeArms
import Derived.Stop.LaidTwo
import Derived.Lib.LaidTab
import Derived.Lib.LaidU8
import Derived.LaidLaws
import Derived.Test.YtefdgihgbhbibaaGreatDoorRunLawB
set_option linter.unusedVariables false
set_option linter.unusedSimpArgs false
set_option maxRecDepth 100000
namespace Go
namespace cG
open RowKit Proofs
section
variable {H:Type} {enc:TypeId×Value→H} {W:World} {sp:Nat→Bool} {held:Bool}
theorem Aa {n:Int} (h:(Lit.int .u8 n).wf=true):∃ m:Nat,m<256∧n=.ofNat m:=by
 have:=bounds_u8 h
 exact ⟨n.toNat,by omega,by show n=(n.toNat:Int);omega⟩
theorem aTC {a:Addr} {cs:List Value} (hs:a.spot=none) (h:W.cells? 0 a 1=some cs) {x:Value} (e:cs=[x]):W.cell? ⟨a.block,a.off,none⟩=some x:=by
 subst e
 unfold World.cells? at h
 rw [if_pos (Nat.zero_le _)] at h
 have h0:=mapM_some_get h 0 0 rfl
 obtain ⟨b,o,s⟩:=a
 cases hs
 exact h0
theorem aEN {α:Type} {Q:Nat→α→Prop}:∀ (n:Nat),(∀ i,i<n→∃ p,Q i p)→∃ l:List α,l.length=n∧∀ (i:Nat) (p:α),l[i]?=some p→Q i p:=by
 intro n
 induction n with
 | zero=>intro _;exact ⟨[],rfl,fun i p h=>by simp at h⟩
 | succ n ih =>
  intro h
  obtain ⟨l,h1,h2⟩:=ih fun i hi=>h i (by omega)
  obtain ⟨p,hp⟩:=h n (by omega)
  refine ⟨l++[p],by simp [h1],fun i q hq=>?_⟩
  by_cases hi:i<n
  · rw [List.getElem?_append_left (by omega)] at hq
    exact h2 i q hq
  · have hlt:=(List.getElem?_eq_some_iff.1 hq).1
    simp [h1] at hlt
    have:i=n:=by omega
    subst this
    rw [List.getElem?_append_right (by omega),h1,Nat.sub_self] at hq
    cases hq
    exact hp
theorem Qr {a:Addr} (hs:a.spot=none) (k:Nat):(a.add k).block=a.block∧(a.add k).off=a.off+k∧(a.add k).spot=none:=by
 unfold Addr.add
 split
 · rename_i h;subst h;exact ⟨rfl,by simp,hs⟩
 · exact ⟨rfl,rfl,rfl⟩
theorem Uh {b o:Nat} {v:Value} (h:W.cell? ⟨b,o,none⟩=some v):∃ arr ty fz,W.heap[b]?=some (.cells arr ty fz)∧arr[o]?=some v:=by
 unfold World.cell? at h
 split at h
 · rename_i c t f heq
   exact ⟨c,t,f,heq,by simpa using h⟩
 · cases h
theorem aC7:Tryz.prog.cellsOf 5=1:=by kernel_rfl
theorem Nz:Tryz.prog.underlying 5=some (.int .u8):=by kernel_rfl
theorem Ui:Tryz.prog.underlying 26=some (.slice 5):=by kernel_rfl
theorem aWF {v:Value} {n base:Nat} {x:DataW H×List MemPlace} (h:DataW.trod enc Tryz.prog W 0 sp held n 26 [v]=some x) (hok:Cell.okWide Tryz.prog W .any base 26 v):∃ l,SlN 1 W v l.length l:=by
 rcases DataW.trod_slice Ui h with ⟨e,_⟩|⟨a,len,cap,elems,rest,m,rfl,e,_,_,h1,h2,h3,h4,_,_⟩
 · cases e;exact ⟨[],.inl ⟨rfl,rfl,rfl⟩⟩
 · cases e
   have hs:a.spot=none∧a.block<W.heap.size:=by
    have h5:len≤cap∧(cap:Int)≤IntKind.i64.max∧W.has Tryz.prog .any base a 5 cap:=by
     unfold Cell.okWide at hok
     rw [Ui] at hok
     unfold Cell.ok at hok
     rw [Ui] at hok
     exact hok
    obtain ⟨_,_,_,hsp,row,cells,hsh,_⟩:=h5
    refine ⟨hsp,?_⟩
    rcases Nat.lt_or_ge a.block W.heap.size with hlt|hge
    · exact hlt
    · unfold World.shape? at hsh
      rw [Array.getElem?_eq_none hge] at hsh
      cases hsh
   obtain ⟨hsp,hblk⟩:=hs
   rw [aC7] at h4
   obtain ⟨l,hl,hq⟩:=aEN (Q:=fun i (p:Nat)=>p<256∧W.cell? ⟨a.block,a.off+i,none⟩=some (A1 p)) len fun i hi=>by
    have h5:=h4 i hi
    obtain ⟨y,hy⟩:∃ y,elems[i]?=some y:=⟨_,List.getElem?_eq_getElem (by omega)⟩
    rw [hy] at h5
    obtain ⟨cs,h6,h7⟩:=Option.bind_eq_some_iff.1 h5
    obtain ⟨n,e1,_,wf⟩:=DataW.trod_int Nz h7
    obtain ⟨p,hp,rfl⟩:=Aa wf
    obtain ⟨a1,a2,a3⟩:=Qr hsp (i*1)
    have k1:=aTC a3 h6 e1
    rw [a1,a2,Nat.mul_one] at k1
    exact ⟨p,hp,k1⟩
   refine ⟨l,.inr ⟨a.block,a.off,cap,?_,by omega,by unfold eY;unfold maxLen at h2;omega,hblk,by rw [Nat.mul_one],fun hne=>?_⟩⟩
   · obtain ⟨b,o,s⟩:=a
     cases hsp
     rw [hl]
   · have hpos:0<l.length:=by cases l with|nil=>exact absurd rfl hne|cons _ _=>simp
     obtain ⟨arr,ty,fz,k1,_⟩:=Uh (hq 0 _ (List.getElem?_eq_getElem hpos)).2
     have same:∀ {k v},W.cell? ⟨a.block,k,none⟩=some v→arr[k]?=some v:=fun {k v} hk=>by
      obtain ⟨arr',ty',fz',k2,k3⟩:=Uh hk
      rw [k1] at k2
      cases k2
      exact k3
     refine ⟨arr,ty,fz,k1,?_,fun j x hx=>⟨(hq j x hx).1,same (hq j x hx).2⟩⟩
     have:=same (hq (l.length - 1) _ (List.getElem?_eq_getElem (by omega))).2
     have:=(Array.getElem?_eq_some_iff.1 this).1
     omega
theorem aRd {α:Type} {l:List α} {k:Nat} {x:α} (h:(l.drop k).take 1=[x]):l[k]?=some x:=by
 have:=congrArg (fun l=>l[0]?) h
 simpa using this
theorem aC8 {α:Type} {l:List α} {i s n k:Nat} {x:α} (hk:k<n) (h:((((l.drop (i*s)).take n).drop k).take 1)=[x]):l[i*s+k]?=some x:=by
 have:=aRd h
 rw [List.getElem?_take,if_pos hk,List.getElem?_drop] at this
 exact this
theorem aTD {a:Addr} {n:Nat} {cs:List Value} (hs:a.spot=none) (h:W.cells? 0 a n=some cs) {j:Nat} (hj:j<n) {x:Value} (e:cs[j]?=some x):W.cell? ⟨a.block,a.off+j,none⟩=some x:=by
 unfold World.cells? at h
 rw [if_pos (Nat.zero_le _)] at h
 have h0:=mapM_some_get h j j (by simp [hj])
 rw [e] at h0
 obtain ⟨b,o,s⟩:=a
 cases hs
 cases j with
 | zero=>exact h0
 | succ j=>exact h0
theorem aQc:Tryz.prog.cellsOf 70=4:=by kernel_rfl
theorem aQd:Tryz.prog.cellsOf 24=2:=by kernel_rfl
theorem aQe:Tryz.prog.cellsOf 25=4:=by kernel_rfl
theorem aQf:Tryz.prog.cellsOf 22=1:=by kernel_rfl
theorem aQg:Tryz.prog.underlying 70=some (.array 4 5):=by kernel_rfl
theorem Uj:Tryz.prog.underlying 22=some (.slice 70):=by kernel_rfl
theorem aEO:Tryz.prog.underlying 25=some (.array 2 24):=by kernel_rfl
theorem aTE {cs:List Value} {n:Nat} {x:DataW H×List MemPlace} (h:DataW.trod enc Tryz.prog W 0 sp held n 70 cs=some x):∀ i,i<4→∃ a:Nat,a<256∧cs[i]?=some (A1 a):=fun i hi=>by
 obtain ⟨xs,m,rfl,_,hl,hxl,he⟩:=DataW.trod_array aQg h
 rw [aC7] at he
 have h1:=he i hi
 obtain ⟨y,hy⟩:∃ y,xs[i]?=some y:=⟨_,List.getElem?_eq_getElem (by omega)⟩
 rw [hy,Nat.mul_one] at h1
 obtain ⟨n,e1,_,wf⟩:=DataW.trod_int Nz h1
 obtain ⟨a,ha,rfl⟩:=Aa wf
 exact ⟨a,ha,aRd e1⟩
theorem aMW {v:Value} {n base:Nat} {x:DataW H×List MemPlace} (h:DataW.trod enc Tryz.prog W 0 sp held n 22 [v]=some x) (hok:Cell.okWide Tryz.prog W .any base 22 v):∃ k l,SlN 4 W v k l:=by
 rcases DataW.trod_slice Uj h with ⟨e,_⟩|⟨a,len,cap,elems,rest,m,rfl,e,_,_,h1,h2,h3,h4,_,_⟩
 · cases e;exact ⟨0,[],.inl ⟨rfl,rfl,rfl⟩⟩
 · cases e
   have hs:a.spot=none∧a.block<W.heap.size:=by
    have h5:len≤cap∧(cap:Int)≤IntKind.i64.max∧W.has Tryz.prog .any base a 70 cap:=by
     unfold Cell.okWide at hok
     rw [Uj] at hok
     unfold Cell.ok at hok
     rw [Uj] at hok
     exact hok
    obtain ⟨_,_,_,hsp,row,cells,hsh,_⟩:=h5
    refine ⟨hsp,?_⟩
    rcases Nat.lt_or_ge a.block W.heap.size with hlt|hge
    · exact hlt
    · unfold World.shape? at hsh
      rw [Array.getElem?_eq_none hge] at hsh
      cases hsh
   obtain ⟨hsp,hblk⟩:=hs
   rw [aQc] at h4
   obtain ⟨l,hl,hq⟩:=aEN (Q:=fun i (p:Nat)=>p<256∧W.cell? ⟨a.block,a.off+i,none⟩=some (A1 p)) (len*4) fun i hi=>by
    have h5:=h4 (i / 4) (by omega)
    obtain ⟨y,hy⟩:∃ y,elems[i / 4]?=some y:=⟨_,List.getElem?_eq_getElem (by omega)⟩
    rw [hy] at h5
    obtain ⟨cs,h6,h7⟩:=Option.bind_eq_some_iff.1 h5
    obtain ⟨p,hp,e1⟩:=aTE h7 (i % 4) (by omega)
    obtain ⟨a1,a2,a3⟩:=Qr hsp (i / 4*4)
    have k1:=aTD a3 h6 (by omega) e1
    rw [a1,a2,show a.off+i / 4*4+i % 4=a.off+i by omega] at k1
    exact ⟨p,hp,k1⟩
   refine ⟨len,l,.inr ⟨a.block,a.off,cap,?_,by omega,by unfold eY;unfold maxLen at h2;omega,hblk,hl,fun hne=>?_⟩⟩
   · obtain ⟨b,o,s⟩:=a
     cases hsp
     rfl
   · have hpos:0<l.length:=by cases l with|nil=>exact absurd rfl hne|cons _ _=>simp
     obtain ⟨arr,ty,fz,k1,_⟩:=Uh (hq 0 _ (List.getElem?_eq_getElem hpos)).2
     have same:∀ {k v},W.cell? ⟨a.block,k,none⟩=some v→arr[k]?=some v:=fun {k v} hk=>by
      obtain ⟨arr',ty',fz',k2,k3⟩:=Uh hk
      rw [k1] at k2
      cases k2
      exact k3
     refine ⟨arr,ty,fz,k1,?_,fun j x hx=>⟨(hq j x hx).1,same (hq j x hx).2⟩⟩
     have:=same (hq (l.length - 1) _ (List.getElem?_eq_getElem (by omega))).2
     have:=(Array.getElem?_eq_some_iff.1 this).1
     omega
theorem aAs {t u:TypeId} {cs:Array Value} {ts:List TypeId} {base i:Nat} {v:Value} (hts:Tryz.prog.cellTypes Tryz.prog.depth t=some ts) (h:Row.okWide Tryz.prog W .any base t cs) (hv:cs[i]?=some v) (hu:ts[i % ts.length]?=some u):Cell.okWide Tryz.prog W .any base u v:=by
 obtain ⟨ts',h1,_,h2⟩:=h
 rw [hts] at h1
 cases h1
 obtain ⟨u',h3,h4⟩:=h2 i v hv
 rw [hu] at h3
 cases h3
 exact h4
theorem aEP:Tryz.prog.cellTypes Tryz.prog.depth 25=some [5,22,5,22]:=by kernel_rfl
theorem aTF {cs:Array Value} {n base:Nat} {x:DataW H×List MemPlace} (h:DataW.trod enc Tryz.prog W 0 sp held n 25 cs.toList=some x) (hok:Row.okWide Tryz.prog W .any base 25 cs) :
 ∃ (va vb:Nat) (ra rb:Value) (na nb:Nat) (la lb:List Nat),va<256∧vb<256∧cs.toList=[A1 va,ra,A1 vb,rb]∧SlN 4 W ra na la∧SlN 4 W rb nb lb:=by
 obtain ⟨xs,m,rfl,_,hl,hxl,he⟩:=DataW.trod_array aEO h
 rw [aQe] at hl
 rw [aQd] at he
 have one:∀ i,i<2→∃ (a:Nat) (r:Value),a<256∧cs.toList[i*2+0]?=some (A1 a)∧cs.toList[i*2+1]?=some r ∧
  (∃ (m':Nat) (y:DataW H×List MemPlace),DataW.trod enc Tryz.prog W 0 sp held m' 22 [r]=some y):=fun i hi=>by
  have h1:=he i hi
  obtain ⟨y,hy⟩:∃ y,xs[i]?=some y:=⟨_,List.getElem?_eq_getElem (by omega)⟩
  rw [hy] at h1
  obtain ⟨ys,m',rfl,_,hl2,hyl,hf⟩:=DataW.trod_struct Tryz.underlying24 h1
  have hys:ys.length=2:=hyl
  have fld:∀ (j:Nat) (f:Field) (t:TypeId),f.type=t→f.offset=j→DataW.trod enc Tryz.prog W 0 sp held m' f.type ((((cs.toList.drop (i*2)).take 2).drop f.offset).take (Tryz.prog.cellsOf f.type))=ys[j]? →
   DataW.trod enc Tryz.prog W 0 sp held m' t ((((cs.toList.drop (i*2)).take 2).drop j).take (Tryz.prog.cellsOf t))=ys[j]?:=fun j f t h1 h2 h3=>by
   rw [h1,h2] at h3;exact h3
  have f0:=fld 0 _ 5 rfl rfl (hf 0 _ rfl)
  have f1:=fld 1 _ 22 rfl rfl (hf 1 _ rfl)
  obtain ⟨z0,hz0⟩:∃ z,ys[0]?=some z:=⟨_,List.getElem?_eq_getElem (by omega)⟩
  obtain ⟨z1,hz1⟩:∃ z,ys[1]?=some z:=⟨_,List.getElem?_eq_getElem (by omega)⟩
  rw [aC7,hz0] at f0
  rw [aQf,hz1] at f1
  obtain ⟨a,e0,_,wf⟩:=DataW.trod_int Nz f0
  obtain ⟨a',ha',rfl⟩:=Aa wf
  have g0:=aC8 (k:=0) (by omega) e0
  obtain ⟨r,hr⟩:∃ r,cs.toList[i*2+1]?=some r:=⟨_,List.getElem?_eq_getElem (by omega)⟩
  have tk:∀ j v,j<2→cs.toList[i*2+j]?=some v→(((cs.toList.drop (i*2)).take 2).drop j).take 1=[v]:=fun j v hj hv=>by
   refine List.ext_getElem? fun q=>?_
   cases q with
   | zero =>
    rw [List.getElem?_take,if_pos (by omega),List.getElem?_drop,List.getElem?_take,if_pos (by omega),List.getElem?_drop,Nat.add_zero,hv];rfl
   | succ q=>rw [List.getElem?_take,if_neg (by omega)];rfl
  rw [tk 1 r (by omega) hr] at f1
  exact ⟨a',r,ha',g0,hr,⟨_,_,f1⟩⟩
 obtain ⟨va,ra,hva,a0,a1,⟨m1,y1,t1⟩⟩:=one 0 (by omega)
 obtain ⟨vb,rb,hvb,b0,b1,⟨m3,y3,t3⟩⟩:=one 1 (by omega)
 have arr:∀ {k v},cs.toList[k]?=some v→cs[k]?=some v:=fun {k v} h=>by rw [← Array.getElem?_toList];exact h
 obtain ⟨na,la,s1⟩:=aMW t1 (aAs (i:=1) aEP hok (arr a1) rfl)
 obtain ⟨nb,lb,s2⟩:=aMW t3 (aAs (i:=3) aEP hok (arr b1) rfl)
 refine ⟨va,vb,ra,rb,na,nb,la,lb,hva,hvb,List.ext_getElem? fun i=>?_,s1,s2⟩
 match i with
 | 0=>exact a0
 | 1=>exact a1
 | 2=>exact b0
 | 3=>exact b1
 | i+4=>rw [List.getElem?_eq_none (by omega)];rfl
theorem aWG {v:Value} {n:Nat} {x:DataW H×List MemPlace} (h:DataW.trod enc Tryz.prog W 0 sp held n 5 [v]=some x):∃ a:Nat,a<256∧v=A1 a:=by
 obtain ⟨n,e1,_,wf⟩:=DataW.trod_int Nz h
 obtain ⟨a,ha,rfl⟩:=Aa wf
 cases e1
 exact ⟨a,ha,rfl⟩
end
theorem aMX {W:World} {n:String} {k:IntKind} {zs:List Int} {g:Nat} {t e:TypeId} {c:Nat} (h:Lib.VarReads Tryz.prog W n (Lib.tabData k zs)) (hg:Tryz.prog.globalNamed n=some g) (ht:(Tryz.prog.globals[g]?).map (·.type)=some t)
 (hu:Tryz.prog.underlying t=some (.array c e)) (he:Tryz.prog.underlying e=some (.int k)) (hce:Tryz.prog.cellsOf e=1) (hct:Tryz.prog.cellsOf t=c):∃ ty fz,W.heap[g]?=some (.cells (zs.map fun z=>Value.int k z).toArray ty fz):=by
 obtain ⟨g',t',cs,fuel,p,hg',ht',hv,hd⟩:=h
 rw [hg] at hg';cases hg'
 rw [ht] at ht';cases ht'
 have e1:=Lib.cells_of_tab hu he hce hct hd
 unfold World.var? at hv
 rw [hg] at hv
 simp only [Option.bind_some] at hv
 split at hv
 · rename_i cs' ty fz heq
   cases hv
   obtain ⟨l⟩:=cs
   simp at e1
   subst e1
   exact ⟨ty,fz,heq⟩
 · cases hv
end cG
end Go
