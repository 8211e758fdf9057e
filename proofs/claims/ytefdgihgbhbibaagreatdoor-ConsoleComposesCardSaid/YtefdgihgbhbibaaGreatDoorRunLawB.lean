/-
The law's call in the evaluator and in the model.
Conditions: none.
-/
import Derived.Test.YtefdgihgbhbibaaGreatDoorRunLaw
import Derived.Test.YtefdgihgbhbibaaGreatDoorRunSane
import Derived.Test.YtefdgihgbhbibaaGreatDoorRunLitE
set_option linter.unusedVariables false
set_option linter.unusedSimpArgs false
set_option maxRecDepth 10000
namespace Go
namespace cG
theorem aWA:Uz Proofs.Tryz.prog dN 103=zB:=by kernel_rfl
theorem lits:aWf Proofs.Tryz.prog dN:=⟨aME,aGU,aMF,aCD,aCE,aMG,Ud,aGV,Ue,aGW,aGX,aGY,aMH,aPZ,aCF,aCG,Zx,aMI,aGZ,aMJ,aMK,aCH,Zy,aP0,aG0,aCI,aTz,aG2,Zz,aP1,aG3,aML,aCJ,aCK,aAa,aG4,aCL,aAb,aG5,aCM,aAc,aG6,aCN,aAd,aG7,aAe,aAf,Uf,aAg,aAh,aCO,aG8,Oy,aMM,aP2,aMN,aMO,aCP,aMP,aMQ,aCQ,Nx,aCR,aTA,Oz,aP3,aP4,aG9,aCS,aP5,aCT,aCU,Ug,aP6,aCV,aHa,aHb,aAi,aMR,aAj,aCW,aCX,aAk,aMS,aMT,aCY,aHc,aCZ,aHd,aC0,aC1,aWA,fun call b H=>by kernel_rfl,fun call b H=>by kernel_rfl⟩
inductive Rel:FuncId→List Value→Hp→fV→Prop where
 | aGv (H:Hp) (hB:aPT H):Rel 4 [] H (.val (.bool true) H)
theorem Rel.uniq {g:FuncId} {args:List Value} {H:Hp} {r r':fV} (h:Rel g args H r) (h':Rel g args H r'):r=r':=by
 cases h with
 | aGv _ _=>cases h';rfl
open Classical in
noncomputable def ovH (g:FuncId) (args:List Value) (H:Hp):Option fV:=if h:∃ r,Rel g args H r then some h.choose else none
theorem aMU {g:FuncId} {args:List Value} {H:Hp} {r:fV} (h:Rel g args H r):ovH g args H=some r:=by
 have hx:∃ r,Rel g args H r:=⟨r,h⟩
 unfold ovH
 rw [dif_pos hx]
 exact congrArg some (hx.choose_spec.uniq h)
theorem aP8 {g:FuncId} {args:List Value} {H:Hp} {r:fV} (h:ovH g args H=some r):Rel g args H r:=by
 unfold ovH at h
 split at h
 · rename_i hx
   cases h
   exact hx.choose_spec
 · cases h
theorem aAl:∀ (g:FuncId) (args:List Value) (H:Hp),Nat.beq g 4=false→ovH g args H=none:=fun g args H h=>by
 unfold ovH
 rw [dif_neg]
 rintro ⟨r,hr⟩
 cases hr with
 | aGv _ _=>cases h
theorem aZb {N:Nat} (h:16≤N):∀ g∈dN.gs,g<N:=by
 have:∀ g∈[1,3],g<4:=by decide
 intro g hg
 have:=this g hg
 omega
theorem aTB:∀ g args h r,ovH g args h=some r→mE Proofs.Tryz.prog dN.gs g args h r:=by
 intro g args h r hr
 cases aP8 hr with
 | aGv _ hB =>
  obtain ⟨h1,e1,e2⟩:=aMD
  exact aTx (aZb (Nat.le_refl _)) (Wa aCC aMB 100) aPV (fun a ha=>by cases ha) e1 e2 rfl hB.at_
noncomputable def CY (n:Nat):Call:=cH Proofs.Tryz.prog dN ovH bV n
theorem aWB (n:Nat):gW Proofs.Tryz.prog dN.gs (CY n):=aKj aCC aMB aTB n
theorem aP9 {n:Nat} {h:Hp} (hB:aPT h):∀ H,Fr (fun _=>False) h H→CY (n+1) 4 [] H=.val (.bool true) H:=fun H f=>by
 have h16:=hB.next
 have hr:Rel 4 [] H (.val (.bool true) H):=.aGv H ⟨by have:=f.next;omega,fun b hb=>by rw [f.at_ b (by omega) fun h=>h];exact hB.at_ b hb⟩
 show Option.rec (motive:=fun _=>fV) _ (fun r=>r) (ovH 4 [] H)=_
 rw [aMU hr]
theorem aQa {h:Hp} {in1 in2 w:Nat} {sv1 sv2 bv:Value} {q1 q2:List Q4} {bs:List Nat} (hw:Wf h) (hB:aPT h) (hlog:h.log=[]) (h1:in1<256) (h2:in2<256) (hw8:w<256) (hq1:∀ q∈q1,Q4.Ok q) (hq2:∀ q∈q2,Q4.Ok q) (hs1:Sl 4 h sv1 q1.length (rV q1)) (hs2:Sl 4 h sv2 q2.length (rV q2)) (hbv:Sl 1 h bv bs.length (dR bs)) (hbs:∀ x∈bs,x<256) :
 ∃ H,CY 13 3 [.agg ⟨[A1 in1,sv1,A1 in2,sv2]⟩,bv,A1 w] h=.val (.bool true) H∧H.log=[]:=by
 have hL:aTb (CY (0+12)) h:=aWu lits aAl 0 (aP9 (n:=11) hB)
 obtain ⟨r,H,e,rfl,hl⟩:=(aPm (call:=CY 12) (cd:=fun g=>yB (Uz Proofs.Tryz.prog dN g) (CY 12)) hL hw h1 h2 hw8 hq1 hq2 hs1 hs2 hbv hbs).get
 refine ⟨H,?_,by rw [hl,hlog]⟩
 have:=kY (n:=12) (g:=3) (args:=[.agg ⟨[A1 in1,sv1,A1 in2,sv2]⟩,bv,A1 w]) (H:=h) aAl lits.aWl rfl rfl
 exact this.trans e
def SlN (s:Nat) (W:World) (v:Value) (n:Nat) (l:List Nat):Prop:=(v=.slice none 0 0∧n=0∧l=[])∨∃ c o cap,v=.slice (some ⟨c,o,none⟩) n cap∧n≤cap∧cap<eY∧c<W.heap.size∧l.length=n*s ∧
 (l≠[]→∃ arr ty fz,W.heap[c]?=some (.cells arr ty fz)∧o+l.length≤arr.size∧∀ (j:Nat) (x:Nat),l[j]?=some x→x<256∧arr[o+j]?=some (A1 x))
def aC3 (v:Value):Value:=match v with|.slice (some a) l c=>cB (16+a.block) a.off l c|v=>v
def Cm (v:Value) (l:List Nat):List Nat:=match v,l with|.slice (some a) _ _,_::_=>[a.block]|_,_=>[]
noncomputable def aC4 (v:Value):Value:=bif gG v then v else .chan (some 0)
theorem aAm (f:Map) (v:Value):bS f (aC4 v) v:=by
 unfold aC4
 cases h:gG v with
 | false=>exact .top v
 | true =>
  rw [cond_true]
  cases v with
  | bool b=>exact .bool b
  | int k n=>exact .int k n
  | string s=>exact .string s
  | pointer a=>cases a with | none=>exact .nilPtr | some a=>cases h
  | slice a l c=>cases a with | none=>exact .iF l c | some a=>cases h
  | map a=>cases a with | none=>exact .pR | some a=>cases h
  | nilFunc=>exact .nilFunc
  | nilIface=>exact .nilIface
  | _=>cases h
noncomputable def aAn (W:World) (c:Nat):Option dY:=match W.heap[c]? with
 | some (.cells arr _ _)=>some (.row (aL (arr.toList.map aC4) 0 .nil fun t=>t) arr.size UNK true true)
 | _=>none
noncomputable def aAo (W:World) (c:Nat):Nat:=match W.heap[c]? with
 | some (.cells arr _ _)=>arr.size
 | _=>0
noncomputable def hA (W:World) (C:List Nat):Hp:=C.foldr (fun c h=>⟨T.set (path (16+c)) h.bl (aAn W c),16+W.heap.size,16+W.heap.size,[]⟩) ⟨hpG.bl,16+W.heap.size,16+W.heap.size,[]⟩
theorem z7 (W:World) (C:List Nat):(hA W C).next=16+W.heap.size∧(hA W C).base=16+W.heap.size∧(hA W C).log=[]:=by
 cases C<;>exact ⟨rfl,rfl,rfl⟩
theorem aAp (W:World) (C:List Nat) (b:Nat):(hA W C).at b=if 16≤b∧b - 16∈C then aAn W (b - 16) else hpG.at b:=by
 induction C with
 | nil=>rw [if_neg (by simp)];rfl
 | cons c C ih =>
  have e:(hA W (c::C)).at b=if path (16+c)=path b then aAn W c else (hA W C).at b:=T.aB _ _ _ _
  rw [e]
  by_cases h:16+c=b
  · subst h
    rw [if_pos rfl,if_pos ⟨by omega,by simp⟩,Nat.add_sub_cancel_left]
  · rw [if_neg (fun hp=>h (Jq hp)),ih]
    by_cases h2:16≤b∧b - 16∈C
    · rw [if_pos h2,if_pos ⟨h2.1,by simp [h2.2]⟩]
    · rw [if_neg h2,if_neg]
      rintro ⟨h3,h4⟩
      rcases List.mem_cons.1 h4 with h5|h5
      · omega
      · exact h2 ⟨h3,h5⟩
structure aMV (W:World):Prop where
 g0:∃ e fz,W.heap[1]?=some (.cells (Ey Ik).toArray e fz)
 g1:∃ e fz,W.heap[3]?=some (.cells (Ey tC).toArray e fz)
noncomputable def fA (W:World):Map:=fun b=>if b=1 then some ⟨1,0,8,0⟩ else if b=3 then some ⟨3,0,64,0⟩ else if 16≤b∧b - 16<W.heap.size then some ⟨b - 16,0,aAo W (b - 16),0⟩ else none
theorem aC5 {W:World} {c:Nat} (hc:c<W.heap.size):fA W (16+c)=some ⟨c,0,aAo W c,0⟩:=by
 unfold fA
 rw [if_neg (by omega),if_neg (by omega),if_pos ⟨by omega,by omega⟩,Nat.add_sub_cancel_left]
theorem aAq {f:Map} {l:List Value} {b:Nat} {arr:Array Value} {e:TypeId} {fz:Nat×Nat} {s:Nat} (hl:arr.size=l.length) (h:∀ (k:Nat) (v:Value),l[k]?=some v→∃ v',arr[k]?=some v'∧bS f v v'):pD f ⟨b,0,l.length,s⟩ (Ua l) (.cells arr e fz):=by
 unfold Ua
 refine .row _ _ _ _ _ arr e fz (.inr rfl) hl (by simp) (fun _=>⟨rfl,rfl⟩) (fun h=>by cases h) fun k v hk hv=>?_
 rw [bM,if_pos ⟨by omega,by omega⟩,Nat.sub_zero] at hv
 show ∃ v',arr[0+k]?=some v'∧_
 rw [Nat.zero_add]
 exact h k v hv
theorem Qo {f:Map} {l:List Value} (hl:∀ v∈l,gG v=true):∀ (k:Nat) (v:Value),l[k]?=some v→∃ v',l.toArray[k]?=some v'∧bS f v v':=fun k v hv=>by
 refine ⟨v,by rw [List.getElem?_toArray];exact hv,?_⟩
 have:=aAm f v
 unfold aC4 at this
 rwa [hl v (List.mem_of_getElem? hv)] at this
def aC6 (W:World) (C:List Nat):Prop:=∀ c∈C,∃ (arr:Array Value) (ty:TypeId) (fz:Nat×Nat) (o:Nat) (n:Int),W.heap[c]?=some (.cells arr ty fz)∧arr[o]?=some (Value.int .u8 n)
theorem aWD {W:World} {C:List Nat} (hg:aMV W) (hC:aC6 W C):gX (fA W) (hA W C) W:=by
 have lt:∀ {c:Nat} {o:Obj},W.heap[c]?=some o→c<W.heap.size:=fun h=>(Array.getElem?_eq_some_iff.1 h).1
 obtain ⟨⟨e0,z0,g0⟩,⟨e1,z1,g1⟩⟩:=hg
 have key:∀ b i,fA W b=some i→b<16+W.heap.size∧i.fE<W.heap.size:=fun b i h=>by
  unfold fA at h
  repeat' split at h
  all_goals first|cases h|skip
  all_goals subst_vars
  · exact ⟨by have:=lt g0;omega,lt g0⟩
  · exact ⟨by have:=lt g1;omega,lt g1⟩
  · rename_i h16;exact ⟨by omega,h16.2⟩
 have cC:∀ c∈C,c<W.heap.size:=fun c hc=>by obtain ⟨arr,ty,fz,o,n,h1,_⟩:=hC c hc;exact lt h1
 refine ⟨fun b o i hb ho=>?_,fun b c i j hb hc h1 h2 hij=>?_,fun b i hb=>by rw [(z7 W C).1];exact key b i hb,fun b hb=>?_,by rw [(z7 W C).1,(z7 W C).2.1];exact Nat.le_refl _⟩
 · rw [aAp] at ho
   split at ho
   · rename_i h16
     obtain ⟨arr,ty,fz,o',n,h1,_⟩:=hC _ h16.2
     obtain ⟨c,rfl⟩:∃ c,b=16+c:=⟨b - 16,by omega⟩
     rw [Nat.add_sub_cancel_left] at h1 ho h16
     rw [aC5 (lt h1)] at hb
     cases hb
     unfold aAn at ho
     unfold aAo
     rw [h1] at ho ⊢
     cases ho
     refine ⟨_,rfl,.row _ _ _ _ _ arr ty fz (.inr rfl) rfl (by simp) (fun _=>⟨rfl,rfl⟩) (fun h=>by cases h) fun k v hk hv=>?_⟩
     rw [bM,if_pos ⟨by omega,by simp;omega⟩,Nat.sub_zero,List.getElem?_map] at hv
     have hk':arr.toList[k]?=some arr[k]:=by rw [Array.getElem?_toList,Array.getElem?_eq_getElem hk]
     rw [hk'] at hv
     cases hv
     exact ⟨arr[k],by show arr[0+k]?=_;rw [Nat.zero_add,Array.getElem?_eq_getElem hk],aAm _ _⟩
   · rw [Ub] at ho
     repeat' split at ho
     all_goals first|cases ho|skip
     all_goals subst_vars
     · have:fA W 3=some ⟨3,0,(Ey tC).length,0⟩:=rfl
       rw [this] at hb;cases hb
       exact ⟨_,g1,aAq (by simp) (Qo (z6 _))⟩
     · have:fA W 1=some ⟨1,0,(Ey Ik).length,0⟩:=rfl
       rw [this] at hb;cases hb
       exact ⟨_,g0,aAq (by simp) (Qo (z6 _))⟩
 · have glob:∀ b,(hpG.at b).isSome→b=1∨b=3:=fun b h=>by
    rw [Ub] at h
    repeat' split at h
    all_goals first|omega|cases h
   have gi:∀ b i,(b=1∨b=3)→fA W b=some i→i.fE=b:=fun b i hb h=>by
    rcases hb with rfl|rfl<;>(cases h;rfl)
   have no8:∀ c,c∈C→¬ (c=1∨c=3):=fun c hc hg=>by
    obtain ⟨arr,ty,fz,o,n,k1,k2⟩:=hC c hc
    have nou:∀ l:List Nat,(Ey l).toArray[o]?≠some (Value.int .u8 n):=fun l e=>by
     rw [List.getElem?_toArray] at e
     obtain ⟨m,_,e⟩:=List.mem_map.1 (List.mem_of_getElem? e)
     cases e
    rcases hg with rfl|rfl
    · rw [g0] at k1;cases k1;exact nou _ k2
    · rw [g1] at k1;cases k1;exact nou _ k2
   have argi:∀ b i,16≤b∧b - 16∈C→fA W b=some i→i.fE=b - 16:=fun b i hb h=>by
    obtain ⟨c,rfl⟩:∃ c,b=16+c:=⟨b - 16,by omega⟩
    rw [Nat.add_sub_cancel_left] at hb ⊢
    rw [aC5 (cC c hb.2)] at h
    cases h;rfl
   rw [aAp] at h1 h2
   by_cases p1:16≤b∧b - 16∈C
   · by_cases p2:16≤c∧c - 16∈C
     · have e1:=argi b i p1 hb
       have e2:=argi c j p2 hc
       omega
     · rw [if_neg p2] at h2
       have q:=glob c h2
       have e1:=argi b i p1 hb
       have e2:=gi c j q hc
       exact absurd (by rw [← e1,hij,e2];exact q) (no8 (b - 16) p1.2)
   · rw [if_neg p1] at h1
     have q:=glob b h1
     have e1:=gi b i q hb
     by_cases p2:16≤c∧c - 16∈C
     · have e2:=argi c j p2 hc
       exact absurd (by rw [← e2,← hij,e1];exact q) (no8 (c - 16) p2.2)
     · rw [if_neg p2] at h2
       have e2:=gi c j (glob c h2) hc
       omega
 · rw [(z7 W C).1] at hb
   rw [aAp,if_neg]
   · rw [Ub]
     repeat' rw [if_neg (by omega)]
   · rintro ⟨h16,hc⟩
     have:=cC _ hc
     omega
theorem Ny {s:Nat} {W:World} {v:Value} {n:Nat} {l:List Nat} (h:SlN s W v n l):aC6 W (Cm v l):=by
 intro c hc
 rcases h with ⟨rfl,_,rfl⟩|⟨b,o,cap,rfl,_,_,_,_,hu⟩
 · simp [Cm] at hc
 · cases l with
   | nil=>simp [Cm] at hc
   | cons x r =>
    simp [Cm] at hc
    subst hc
    obtain ⟨arr,ty,fz,h1,h2,h3⟩:=hu (by simp)
    exact ⟨arr,ty,fz,o+0,_,h1,(h3 0 x rfl).2⟩
theorem SlN.byte {s:Nat} {W:World} {v:Value} {n:Nat} {l:List Nat} (h:SlN s W v n l):∀ x∈l,x<256:=by
 intro x hx
 rcases h with ⟨rfl,_,rfl⟩|⟨b,o,cap,rfl,_,_,_,_,hu⟩
 · cases hx
 · obtain ⟨arr,ty,fz,h1,h2,h3⟩:=hu (by intro e;rw [e] at hx;cases hx)
   obtain ⟨j,hj,rfl⟩:=List.getElem_of_mem hx
   exact (h3 j _ (List.getElem?_eq_getElem hj)).1
theorem SlN.sl {s:Nat} {W:World} {C:List Nat} {v:Value} {n:Nat} {l:List Nat} (hs:0<s) (h:SlN s W v n l) (hC:∀ c∈Cm v l,c∈C):Sl s (hA W C) (aC3 v) n (dR l):=by
 rcases h with ⟨rfl,rfl,rfl⟩|⟨b,o,cap,rfl,h1,h2,h3,h4,hu⟩
 · exact ⟨by simp [dR],.inl ⟨rfl,.inl rfl⟩⟩
 · refine ⟨by rw [eZ];exact h4,?_⟩
   cases l with
   | nil =>
    have hn:n=0:=by
     rcases Nat.eq_zero_or_pos n with h|h
     · exact h
     · have:=Nat.mul_pos h hs
       simp at h4
       omega
    subst hn
    exact .inl ⟨rfl,.inr ⟨_,_,_,rfl⟩⟩
   | cons x r =>
    obtain ⟨arr,ty,fz,k1,k2,k3⟩:=hu (by simp)
    have hn:0<n:=by
     rcases Nat.eq_zero_or_pos n with h|h
     · rw [h,Nat.zero_mul] at h4;simp at h4
     · exact h
    refine .inr ⟨16+b,o,cap,rfl,hn,aL (arr.toList.map aC4) 0 .nil fun t=>t,arr.size,UNK,true,true,?_,by rw [eZ];exact k2,fun k hk=>?_⟩
    · rw [aAp,if_pos ⟨by omega,by rw [Nat.add_sub_cancel_left];exact hC b (by simp [Cm])⟩,Nat.add_sub_cancel_left]
      unfold aAn
      rw [k1]
    · rw [eZ] at hk
      obtain ⟨q1,q2⟩:=k3 k _ (List.getElem?_eq_getElem hk)
      have hlt:=(Array.getElem?_eq_some_iff.1 q2).1
      rw [bM,if_pos ⟨by omega,by simp;omega⟩,Nat.sub_zero,List.getElem?_map,Array.getElem?_toList,q2,iH (List.getElem?_eq_getElem hk)];rfl
theorem SlN.rel {s:Nat} {W:World} {v:Value} {n:Nat} {l:List Nat} (h:SlN s W v n l):bS (fA W) (aC3 v) v:=by
 rcases h with ⟨rfl,_,rfl⟩|⟨b,o,cap,rfl,h1,h2,h3,_⟩
 · exact .iF 0 0
 · have:=bS.slice (f:=fA W) (16+b) o n cap ⟨b,0,aAo W b,0⟩ (aC5 h3) h2 h1
   rw [show (⟨b,0,aAo W b,0⟩:Cn).o+o=o by simp] at this
   exact this
theorem aQb (W:World) (C:List Nat):aPT (hA W C):=⟨by rw [(z7 _ _).1];omega,fun b hb=>by rw [aAp,if_neg (by omega)]⟩
def Ez:Nat→List Nat→List Q4
 | 0,_=>[]
 | n+1,l=>(l.getD 0 0,l.getD 1 0,l.getD 2 0,l.getD 3 0)::Ez n (l.drop 4)
theorem Qp (n:Nat):∀ l,(Ez n l).length=n:=by
 induction n with
 | zero=>intro l;rfl
 | succ n ih=>intro l;show (Ez n (l.drop 4)).length+1=n+1;rw [ih]
theorem Qq (n:Nat):∀ l:List Nat,l.length=n*4→rV (Ez n l)=dR l:=by
 induction n with
 | zero=>intro l h;simp at h;subst h;rfl
 | succ n ih =>
  intro l h
  match l,h with
  | a::b::c::d::r,h =>
   have h2:r.length=n*4:=by simp at h;omega
   have e:rV (Ez (n+1) (a::b::c::d::r))=q4 (a,b,c,d)++rV (Ez n r):=rfl
   rw [e,ih r h2];rfl
  | [],h=>simp at h
  | [_],h=>simp at h;omega
  | [_,_],h=>simp at h;omega
  | [_,_,_],h=>simp at h;omega
theorem z8 {l:List Nat} (h:∀ x∈l,x<256) (i:Nat):l.getD i 0<256:=by
 rw [List.getD_eq_getElem?_getD]
 cases hx:l[i]? with
 | none=>exact Nat.zero_lt_succ _
 | some x=>exact h x (List.mem_of_getElem? hx)
theorem aAr (n:Nat):∀ l:List Nat,(∀ x∈l,x<256)→∀ q∈Ez n l,Q4.Ok q:=by
 induction n with
 | zero=>intro l _ q hq;cases hq
 | succ n ih =>
  intro l h q hq
  rcases List.mem_cons.1 hq with h1|h1
  · rw [h1];exact ⟨z8 h 0,z8 h 1,z8 h 2,z8 h 3⟩
  · exact ih _ (fun x hx=>h x (List.mem_of_mem_drop hx)) q h1
theorem aWE {W:World} {in1 in2 w:Nat} {s1 s2 bv:Value} {n1 n2:Nat} {l1 l2 bs:List Nat} (hg:aMV W) (h1:in1<256) (h2:in2<256) (hw8:w<256) (hs1:SlN 4 W s1 n1 l1) (hs2:SlN 4 W s2 n2 l2) (hb:SlN 1 W bv bs.length bs):Calls Proofs.Tryz.prog 3 #[.agg ⟨[A1 in1,s1,A1 in2,s2]⟩,bv,A1 w] W fun e W'=>e=.returned (.bool true)∧RowKit.Below W.heap.size W W':=by
 have hC:aC6 W (Cm s1 l1++(Cm s2 l2++Cm bv bs)):=fun c hc=>by
  rcases List.mem_append.1 hc with h|h
  · exact Ny hs1 c h
  rcases List.mem_append.1 h with h|h
  · exact Ny hs2 c h
  · exact Ny hb c h
 generalize hCC:Cm s1 l1++(Cm s2 l2++Cm bv bs)=C at *
 have m1:∀ c∈Cm s1 l1,c∈C:=fun c h=>by rw [← hCC];simp [h]
 have m2:∀ c∈Cm s2 l2,c∈C:=fun c h=>by rw [← hCC];simp [h]
 have m3:∀ c∈Cm bv bs,c∈C:=fun c h=>by rw [← hCC];simp [h]
 have hr:=aWD hg hC
 have hn:=z7 W C
 have hw:Wf (hA W C):=⟨hr.dead,hr.base⟩
 have len4:∀ {v n l},SlN 4 W v n l→l.length=n*4:=fun h=>by
  rcases h with ⟨_,rfl,rfl⟩|⟨_,_,_,_,_,_,_,h,_⟩
  · rfl
  · exact h
 have a1:=hs1.sl (by omega) m1
 have a2:=hs2.sl (by omega) m2
 rw [← Qq n1 l1 (len4 hs1)] at a1
 rw [← Qq n2 l2 (len4 hs2)] at a2
 obtain ⟨H,e,hl⟩:=aQa (q1:=Ez n1 l1) (q2:=Ez n2 l2) (bs:=bs) hw (aQb W C) hn.2.2 h1 h2 hw8 (aAr n1 l1 hs1.byte) (aAr n2 l2 hs2.byte) (by rw [Qp];exact a1) (by rw [Qp];exact a2) (hb.sl (by omega) m3) hb.byte
 have hG:mC dN.gs (fA W):=fun g hg=>by
  have hg':g∈[1,3]:=hg
  simp only [List.mem_cons,List.not_mem_nil,or_false] at hg'
  rcases hg' with rfl|rfl
  · exact ⟨⟨1,0,8,0⟩,rfl,rfl,rfl⟩
  · exact ⟨⟨3,0,64,0⟩,rfl,rfl,rfl⟩
 have hagg:bS (fA W) (.agg ⟨[A1 in1,aC3 s1,A1 in2,aC3 s2]⟩) (.agg ⟨[A1 in1,s1,A1 in2,s2]⟩):=.agg _ _ rfl fun i hi=>by
  match i,hi with
  | 0,_=>exact .int _ _
  | 1,_=>exact hs1.rel
  | 2,_=>exact .int _ _
  | 3,_=>exact hs2.rel
 have hl1:dA (fA W) [.agg ⟨[A1 in1,aC3 s1,A1 in2,aC3 s2]⟩,aC3 bv,A1 w] [.agg ⟨[A1 in1,s1,A1 in2,s2]⟩,bv,A1 w]:=.cons hagg (.cons hb.rel (.cons (.int _ _) (.nil _)))
 have hok:=aWB 13 3 _ _ _ _ W hG hr hl1
 rw [e] at hok
 refine hok.2.mono fun e W' he=>?_
 cases e with
 | panicked c=>exact he.elim
 | outgrown=>exact he.elim
 | returned v' =>
  obtain ⟨f',hA',hCs,hv'⟩:=he
  cases hv'
  refine ⟨rfl,hCs.os,hCs.tape,hCs.out,hCs.size,fun c hc=>hCs.bT c hc fun b i hb _ _=>⟨?_,by rw [hl];simp⟩⟩
  rw [hn.2.1,← hn.1]
  exact (hr.fresh b i hb).1
end cG
end Go
