/-
ConsoleComposes: the globals that the program looks at, as the card lays them; calls that are run over a part of the memory.
Conditions: none.
-/
import Derived.Test.YtefdgihgbhbibaaGreatDoorRunBase
set_option linter.unusedVariables false
set_option linter.unusedSimpArgs false
namespace Go
namespace cG
section
noncomputable def Ua (l:List Value):dY:=.row (aL l 0 .nil fun t=>t) l.length UNK true true
noncomputable def Ey (l:List Nat):List Value:=l.map fun n=>K6 n
noncomputable def Ik:List Nat:=[1779033703,3144134277,1013904242,2773480762,1359893119,2600822924,528734635,1541459225]
noncomputable def tC:List Nat:=[1116352408,1899447441,3049323471,3921009573,961987163,1508970993,2453635748,2870763221,3624381080,310598401,607225278,1426881987,1925078388,2162078206,2614888103,3248222580,3835390401,4022224774,264347078,604807628,770255983,1249150122,1555081692,1996064986,2554220882,2821834349,2952996808,3210313671,3336571891,3584528711,113926993,338241895,666307205,773529912,1294757372,1396182291,1695183700,1986661051,2177026350,2456956037,2730485921,2820302411,3259730800,3345764771,3516065817,3600352804,4094571909,275423344,430227734,506948616,659060556,883997877,958139571,1322822218,1537002063,1747873779,1955562222,2024104815,2227730452,2361852424,2428436474,2756734187,3204031479,3329325298]
noncomputable def hpG:Hp:=T.tD (path 1) .nil (some (Ua (Ey Ik))) fun t=>T.tD (path 3) t (some (Ua (Ey tC))) fun t=>⟨t,16,16,[]⟩
structure aPT (h:Hp):Prop where
 next:16≤h.next
 at_:∀ b,b<16→h.at b=hpG.at b
theorem Ub (b:Nat):hpG.at b=if b=3 then some (Ua (Ey tC)) else if b=1 then some (Ua (Ey Ik)) else none:=by
 have e:hpG=⟨T.set (path 3) (T.set (path 1) .nil (some (Ua (Ey Ik)))) (some (Ua (Ey tC))),16,16,[]⟩:=by
  unfold hpG
  rw [T.iA,T.iA]
 rw [e]
 have pi:∀ i,(path i=path b)↔b=i:=fun i=>⟨fun h=>(Jq h).symm,fun h=>by rw [h]⟩
 unfold Hp.at
 simp only [T.aB,pi]
 rfl
variable {P:Program} {gs:List Nat}
def Low (N:Nat) (v:Value):Prop:=gG v=true∨v=.chan (some 0)∨∃ b o l c,v=cB b o l c∧b<N
def low (N:Nat) (f:Map):Map:=fun b=>if b<N then f b else none
theorem Uc {N:Nat} {f:Map} {b:Nat} (hb:b<N):low N f b=f b:=if_pos hb
theorem uU {N:Nat} {f:Map} {b:Nat} {i:Cn} (h:low N f b=some i):b<N∧f b=some i:=by
 unfold low at h
 split at h
 · exact ⟨by assumption,h⟩
 · cases h
theorem bS.low {N:Nat} {f:Map} {v v':Value} (hv:Low N v) (h:bS f v v'):bS (low N f) v v':=by
 rcases hv with hp|rfl|⟨b,o,l,c,rfl,hb⟩
 · exact h.Pv hp
 · cases h with
   | top=>exact .top _
 · cases h with
   | slice _ _ _ _ i hi hc hl=>exact .slice _ _ _ _ i (by rw [Uc hb];exact hi) hc hl
   | iM _ _ _ _ lb i o' c' hi h1 h2 h3 h4 h5 h6=>exact .iM _ _ _ _ lb i o' c' (by rw [Uc hb];exact hi) h1 h2 h3 h4 h5 h6
def aPU (N:Nat) (o:dY):Prop:=∃ c m e cl ro,o=.row c m e cl ro∧∀ (k:Nat) (v:Value),k<m→c.get (path k)=some v→Low N v
theorem aPU.rel {N:Nat} {f:Map} {i:Cn} {o:dY} {x:Obj} (hl:aPU N o) (h:pD f i o x):pD (low N f) i o x:=by
 obtain ⟨c,m,e,cl,ro,rfl,hl⟩:=hl
 cases h with
 | row cells n elem cl ro arr elem' fz he hs hn hcl hro hc =>
  refine .row _ _ _ _ _ arr elem' fz he hs hn hcl hro fun k v hk hv=>?_
  obtain ⟨v',h1,h2⟩:=hc k v hk hv
  exact ⟨v',h1,h2.low (hl k v hk hv)⟩
structure aTw (N:Nat) (h0:Hp):Prop where
 next:h0.next=N
 base:h0.base=N
 rows:∀ (b:Nat) (o:dY),h0.at b=some o→b<N∧aPU N o
theorem aMA {N:Nat} {f:Map} {h0 h:Hp} {w:World} (h0l:aTw N h0) (hr:gX f h w) (hB:∀ b,b<N→h.at b=h0.at b):gX (low N f) h0 w:=by
 refine ⟨fun b o i hb ho=>?_,fun b c i j hb hc h1 h2=>?_,fun b i hb=>⟨by rw [h0l.next];exact (uU hb).1,(hr.fresh b i (uU hb).2).2⟩,fun b hb=>?_,by rw [h0l.base,h0l.next];exact Nat.le_refl _⟩
 · obtain ⟨hN,hf⟩:=uU hb
   obtain ⟨x,hx,hor⟩:=hr.obj b o i hf (by rw [hB b hN];exact ho)
   exact ⟨x,hx,(h0l.rows b o ho).2.rel hor⟩
 · obtain ⟨hb',hfb⟩:=uU hb
   obtain ⟨hc',hfc⟩:=uU hc
   exact hr.inj b c i j hfb hfc (by rw [hB b hb'];exact h1) (by rw [hB c hc'];exact h2)
 · cases h:h0.at b with
   | none=>rfl
   | some o=>have:=(h0l.rows b o h).1;rw [h0l.next] at hb;omega
theorem aTx {N:Nat} {call0:Call} (hgs:∀ g∈gs,g<N) (H:gW P gs call0) {g:FuncId} {args:List Value} {h0 h h1:Hp} {v:Value} (h0l:aTw N h0) (hp:∀ a∈args,Low N a) (hrun:call0 g args h0=.val v h1) (hlog:h1.log=[]) (hpv:tN v=true) (hB:∀ b,b<N→h.at b=h0.at b):mE P gs g args h (.val v h):=by
 intro args' f w hG hr hl
 have hl0:dA (low N f) args args':=⟨hl.1,fun i v hv=>by
  obtain ⟨v',h1,h2⟩:=hl.2 i v hv
  exact ⟨v',h1,h2.low (hp v (List.mem_of_getElem? hv))⟩⟩
 have hG0:mC gs (low N f):=fun g hg=>by
  obtain ⟨i,h1,h2⟩:=hG g hg
  exact ⟨i,by rw [Uc (hgs g hg)];exact h1,h2⟩
 have h2:=H g args args' (low N f) h0 w hG0 (aMA h0l hr hB) hl0
 rw [hrun] at h2
 refine ⟨h2.1,h2.2.mono fun e w' he=>?_⟩
 cases e with
 | panicked c=>exact he.elim
 | outgrown=>exact he.elim
 | returned v' =>
  obtain ⟨f',hA,hC,hv⟩:=he
  have hk:∀ c,c<w.heap.size→w'.heap[c]?=w.heap[c]?:=fun c hc=>hC.bT c hc fun b i hb _ _=>by
   refine ⟨?_,by rw [hlog];simp⟩
   rw [h0l.base]
   exact (uU hb).1
  refine ⟨f,cV.refl h,⟨hr,Map.le_refl f,⟨fun b o i hb ho=>?_,hr.inj,fun b i hb=>⟨(hr.fresh b i hb).1,Nat.lt_of_lt_of_le (hr.fresh b i hb).2 hC.size⟩,hr.dead,hr.base⟩,hC.size,hC.tape,hC.os,hC.out,fun c hc _=>hk c hc,fun b i h1 h2=>by (rw [h1] at h2;cases h2)⟩,hv.vM hpv⟩
  obtain ⟨x,hx,hor⟩:=hr.obj b o i hb ho
  exact ⟨x,by rw [hk i.fE (hr.fresh b i hb).2];exact hx,hor⟩
theorem Zv {N:Nat} {l:List Value} (hl:∀ v∈l,Low N v):aPU N (Ua l):=by
 refine ⟨_,_,_,_,_,rfl,fun k v hk hv=>?_⟩
 rw [bM,if_pos ⟨by omega,by omega⟩] at hv
 exact hl v (List.mem_of_getElem? hv)
theorem z6 (l:List Nat):∀ v∈Ey l,gG v=true:=fun v hv=>by
 obtain ⟨n,_,rfl⟩:=List.mem_map.1 hv
 rfl
theorem aPV:aTw 16 hpG:=by
 refine ⟨rfl,rfl,fun b o h=>?_⟩
 rw [Ub] at h
 repeat' split at h
 · cases h;exact ⟨by omega,Zv fun v hv=>.inl (z6 _ v hv)⟩
 · cases h;exact ⟨by omega,Zv fun v hv=>.inl (z6 _ v hv)⟩
 · cases h
end
end cG
end Go
