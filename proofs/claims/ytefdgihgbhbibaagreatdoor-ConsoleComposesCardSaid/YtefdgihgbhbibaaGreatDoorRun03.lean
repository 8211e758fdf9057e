/-
Symbolic runs of the law's functions and of the program's, part 3.
Conditions: none.
-/
import Derived.Test.YtefdgihgbhbibaaGreatDoorRun02
import Derived.Test.YtefdgihgbhbibaaGreatDoorRunLit
set_option linter.unusedVariables false
set_option linter.unusedSimpArgs false
set_option linter.defProp false
set_option maxRecDepth 10000
namespace Go
namespace cG
theorem aKd {call:Call} {cd:cE} (hN:Me call) (hT:Ao call RC) (hCl:Sx call) {o:eJ} (ho:o.Ok) (h3:o.kind=4) {b1 b2 sC tR:Nat} {xs ys:List Nat} {h:Hp} (hw:Wf h) (hr1:Rd h b1 sC (o.code++xs)) (hr2:Rd h b2 tR (o.data++ys)) (hb1:b1<h.next) (hb2:b2<h.next) (hne:b1≠b2) (hl1:tR≠b1) (hl2:sC≠b2) (hq1:sC<h.next) (hq2:tR<h.next) :
 Yields (dD Bk call cd [bE b1 0,bE b2 0] h) (aFQ o b1 b2 sC tR xs ys h):=by
 obtain ⟨kind,from_,len,b,data⟩:=o
 obtain rfl:kind=4:=h3
 obtain ⟨hk,hf,hl,hb,hd,hbyte⟩:=ho
 have hk2:from_=0∧b=0∧data.length=len:=by
  rcases hk with h|h|h|h
  · exact absurd (show (4:Nat)=_ from h.1) (by decide)
  · exact absurd (show (4:Nat)=_ from h.1) (by decide)
  · exact absurd (show (4:Nat)=_ from h.1) (by decide)
  · exact h.2
 obtain ⟨rfl,rfl,rfl⟩:=hk2
 have hcode:eJ.code ⟨4,0,data.length,0,data⟩=be 1 4++be 3 data.length:=rfl
 rw [hcode,List.append_assoc] at hr1
 have hz:=h.next
 let h1:=h.new (aT [A0 0,A0 0,A0 0,A1 0,.slice none 0 0] 5 68 true)
 have hr1':Rd h1 b1 sC (be 1 4++(be 3 data.length++xs)):=hr1.bT fun c hc=>by rw [aM,if_neg (by have:=hr1.lo;rcases hc with h|h<;>omega)]
 obtain ⟨H2,e2,r2,wf2,fr2,nx2⟩:=hr1'.num hN (hw.new _) (by decide) (by decide)
 refine aP rfl ?_
 have lo1h:=hr1.lo
 have lo2h:=hr2.lo
 have b3:H2.next≠b1:=by rw [nx2,aF];omega
 generalize hH3:(H2.new (aT [A0 0,A0 0,A0 0,A1 0,.slice none 0 0] 5 68 true))=H3
 have n0:Nat.blt 0 5=true:=rfl
 have n31:Nat.beq 4 1=false:=rfl
 have n32:Nat.beq 4 2=false:=rfl
 have n33:Nat.beq 4 3=false:=rfl
 have n34:Nat.beq 4 4=true:=rfl
 simp only [↓aQ,A3,reduceCtorEq,cN,cP,e2,Sy,Sz,yS,yT,Ta,Tb,n0,n31,n32,n33]
 generalize hHX:Hp.put (H2.new _) H2.next _=HX
 have hn1:h1.next=h.next+1:=aF _ _
 have nH2:H2.next=h.next+1:=by rw [nx2,hn1]
 have nX:HX.next=h.next+2:=by rw [← hHX,aV,aF,nx2,hn1]
 have bX:HX.base=H2.base:=by rw [← hHX];rfl
 have atX:∀ c,c<h.next+1→HX.at c=H2.at c:=fun c hc=>by rw [← hHX,aJ,if_neg (by omega),aM,if_neg (by omega)]
 have wfX:Wf HX:=by rw [← hHX];exact (wf2.new _).put (by rw [aF];omega) _
 have rX:=r2.bT fun c hc=>atX c (by rcases hc with h|h<;>omega)
 obtain ⟨H4,e4,r4,wf4,fr4,nx4⟩:=rX.num hN wfX (by exact hl) (by decide)
 obtain ⟨CX,hatX,hCX⟩:∃ CX,HX.at H2.next=some (.row CX 5 68 true false)∧∀ k,k<5→CX.get (path k)=[A0 4,A0 0,A0 0,A1 0,.slice none 0 0][k]? :=
  ⟨_,by rw [← hHX,aJ,if_pos rfl],fun k hk=>by rw [bM,if_pos ⟨Nat.zero_le _,by simpa using hk⟩,Nat.sub_zero]⟩
 have hat4:H4.at H2.next=some (.row CX 5 68 true false):=by rw [fr4.at_ _ (by omega) (by omega)];exact hatX
 have m1:Nat.ble (0+2+1) 5=true:=rfl
 have hCY:∀ k,k<5→(aL [A0 data.length] (0+2) CX fun t=>t).get (path k)=[A0 4,A0 0,A0 data.length,A1 0,.slice none 0 0][k]?:=fun k hk=>by
  rw [bM]
  match k,hk with
  | 0,_=>exact hCX 0 (by decide)
  | 1,_=>exact hCX 1 (by decide)
  | 2,_=>rfl
  | 3,_=>exact hCX 3 (by decide)
  | 4,_=>exact hCX 4 (by decide)
 generalize hCy:(aL [A0 data.length] (0+2) CX fun t=>t)=CY at hCY
 have g0:CY.get (path (0+0))=some (A0 4):=hCY 0 (by decide)
 have g2:CY.get (path (0+2))=some (A0 data.length):=hCY 2 (by decide)
 have n02:Nat.blt (0+2) 5=true:=rfl
 have n5:H4.next=h.next+2:=by rw [nx4,nX]
 have b5:H4.base=h.base:=by rw [fr4.base,bX,fr2.base];rfl
 have hwb:=hw.base
 have at4:∀ c,c<h.next→c≠b1→H4.at c=h.at c:=fun c hc hn=>by
  rw [fr4.at_ _ (by omega) hn,atX _ (by omega),fr2.at_ _ (by omega) hn,aM,if_neg (by omega)]
 have w1:=wf4.put (b:=H2.next) (by omega) (some (.row CY 5 68 true false))
 have rd2:Rd (H4.put H2.next (some (.row CY 5 68 true false))) b2 tR (data++ys):=hr2.bT fun c hc=>by
  have:c<h.next∧c≠b1:=by rcases hc with h|h<;>omega
  rw [aJ,if_neg (by omega)]
  exact at4 c this.1 this.2
 obtain ⟨tv,H6,e6,rt,bt,rd6,wf6,fr6,nx6⟩:=rd2.take hT w1
 obtain ⟨dv,H7,e7,hout,wf7,fr7⟩:=(hCl H6 tv data wf6 rt (by have:data.length≤1000:=hd;omega)).get
 have n7:=fr7.next
 have n6:H6.next=h.next+2:=by rw [nx6,aV,n5]
 have b6:H6.base=h.base:=by rw [fr6.base,mF,b5]
 have b7:H7.base=h.base:=by rw [fr7.base,b6]
 have lb2:b2<h.next:=hb2
 have hat7:H7.at H2.next=some (.row CY 5 68 true false):=by rw [fr7.at_ _ (by omega) (fun h=>h),fr6.at_ _ (by rw [aV];omega) (by omega),aJ,if_pos rfl]
 have hat7h:∃ C0,H7.at h.next=some (.row C0 5 68 true false):=⟨_,by
  rw [fr7.at_ _ (by omega) (fun h=>h),fr6.at_ _ (by rw [aV];omega) (by omega),aJ,if_neg (by omega),fr4.at_ _ (by omega) (by omega),atX _ (by omega),fr2.at_ _ (by omega) (by omega),aM,if_pos rfl];rfl⟩
 obtain ⟨C0,hat7h⟩:=hat7h
 have m4:Nat.ble (0+4+1) 5=true:=rfl
 have m5:Nat.ble (0+5) 5=true:=rfl
 have hone1:bY [dv]=true:=by
  rcases hout.2.2 with ⟨_,⟨_,rfl⟩|rfl⟩|⟨_,rfl,_⟩<;>rfl
 have hone5:bY [A0 4,A0 0,A0 data.length,A1 0,dv]=true:=hone1
 have hCZ:∀ k,k<5→(aL [dv] (0+4) CY fun t=>t).get (path k)=[A0 4,A0 0,A0 data.length,A1 0,dv][k]?:=fun k hk=>by
  rw [bM]
  match k,hk with
  | 0,_=>exact hCY 0 (by decide)
  | 1,_=>exact hCY 1 (by decide)
  | 2,_=>exact hCY 2 (by decide)
  | 3,_=>exact hCY 3 (by decide)
  | 4,_=>rfl
 generalize hCz:(aL [dv] (0+4) CY fun t=>t)=CZ at hCZ
 have hLd:cR CZ 0 5 []=some [A0 4,A0 0,A0 data.length,A1 0,dv]:=dV (o:=0) (vs:=[A0 4,A0 0,A0 data.length,A1 0,dv]) fun k hk=>by rw [Nat.zero_add];exact hCZ k hk
 have hne2:H2.next≠h.next:=by omega
 simp only [↓aQ,A3,reduceCtorEq,e4,hat4,m1,hCy,g0,g2,n02,n0,n31,n32,n33,n34,e6,e7,hat7,hone1,m4,hCz,m5,hLd,hone5,hne2,hat7h,yS,yT]
 refine .ret ?_
 have hLd2:cR (aL [A0 4,A0 0,A0 data.length,A1 0,dv] 0 C0 fun t=>t) 0 5 []=some [A0 4,A0 0,A0 data.length,A1 0,dv]:=dV (o:=0) (vs:=[A0 4,A0 0,A0 data.length,A1 0,dv]) fun k hk=>by rw [Nat.zero_add,bM,if_pos ⟨Nat.zero_le _,by simpa using hk⟩,Nat.sub_zero]
 rw [fI (b:=h.next) (by simp) (by rw [aJ,if_pos rfl]) (Nat.le_refl _) hLd2]
 have w2:=wf7.put (b:=H2.next) (by omega) (some (.row CZ 5 68 true false))
 have w3:=w2.put (b:=h.next) (by rw [aV];omega) (some (.row (aL [A0 4,A0 0,A0 data.length,A1 0,dv] 0 C0 fun t=>t) 5 68 true false))
 have at7:∀ c,c<h.next→c≠b2→H7.at c=H4.at c:=fun c hc hn=>by
  rw [fr7.at_ _ (by omega) (fun h=>h),fr6.at_ _ (by rw [aV];omega) hn,aJ,if_neg (by omega)]
 refine ⟨⟨dv,rfl,hout.sl.bT fun c h0 hc=>?_,fun h0 c hc=>?_⟩,r4.bT fun c hc=>?_,rd6.bT fun c hc=>?_,w3,?_⟩
 · have h1:=hout.fE h0 hc
   rw [aJ,if_neg (by omega),aJ,if_neg (by omega)]
 · have h1:=hout.fE h0 hc
   have h2:=hout.sl.lt wf7 h0 hc
   rw [aV,aV]
   omega
 · have:c<h.next∧c≠b2:=by rcases hc with h|h<;>omega
   rw [aJ,if_neg (by omega),aJ,if_neg (by omega)]
   exact at7 c this.1 this.2
 · have:c<h.next:=by have:=rd6.lo;rcases hc with h|h<;>omega
   rw [aJ,if_neg (by omega),aJ,if_neg (by omega)]
   exact fr7.at_ c (by omega) fun h=>h
 · have f2:p7 (fun k=>k=b1∨k=b2) h H2:=(Fr.new (P:=fun k=>k=b1∨k=b2) _).lift.same fr2 hwb fun k h=>.inl h
   have fX:p7 (fun k=>k=b1∨k=b2) h HX:=by
    rw [← hHX]
    exact (f2.dE _).cJ _ hwb fun h=>by omega
   have f6:p7 (fun k=>k=b1∨k=b2) h H6:=((fX.same fr4 hwb fun k h=>.inl h).cJ _ hwb fun h=>by omega).same fr6 hwb fun k h=>.inr h
   exact ((f6.same fr7.lift hwb fun k h=>h.elim).cJ _ hwb fun h=>by omega).cJ _ hwb fun h=>by omega
theorem aKe {call:Call} {cd:cE} (hN:Me call) (hT:Ao call RC) (hCl:Sx call) {o:eJ} (ho:o.Ok) (h3:o.kind=2) {b1 b2 sC tR:Nat} {xs ys:List Nat} {h:Hp} (hw:Wf h) (hr1:Rd h b1 sC (o.code++xs)) (hr2:Rd h b2 tR (o.data++ys)) (hb1:b1<h.next) (hb2:b2<h.next) (hne:b1≠b2) (hl1:tR≠b1) (hl2:sC≠b2) (hq1:sC<h.next) (hq2:tR<h.next) :
 Yields (dD Bk call cd [bE b1 0,bE b2 0] h) (aFQ o b1 b2 sC tR xs ys h):=by
 obtain ⟨kind,from_,len,b,data⟩:=o
 obtain rfl:kind=2:=h3
 obtain ⟨hk,hf,hl,hb,hd,hbyte⟩:=ho
 have hk2:b=0∧data.length=len:=by
  rcases hk with h|h|h|h
  · exact absurd (show (2:Nat)=_ from h.1) (by decide)
  · exact h.2
  · exact absurd (show (2:Nat)=_ from h.1) (by decide)
  · exact absurd (show (2:Nat)=_ from h.1) (by decide)
 obtain ⟨rfl,rfl⟩:=hk2
 have hcode:eJ.code ⟨2,from_,data.length,0,data⟩=be 1 2++(be 3 from_++be 3 data.length):=rfl
 rw [hcode,List.append_assoc] at hr1
 have hz:=h.next
 let h1:=h.new (aT [A0 0,A0 0,A0 0,A1 0,.slice none 0 0] 5 68 true)
 have hr1':Rd h1 b1 sC (be 1 2++(be 3 from_++be 3 data.length++xs)):=hr1.bT fun c hc=>by rw [aM,if_neg (by have:=hr1.lo;rcases hc with h|h<;>omega)]
 obtain ⟨H2,e2,r2,wf2,fr2,nx2⟩:=hr1'.num hN (hw.new _) (by decide) (by decide)
 refine aP rfl ?_
 have lo1h:=hr1.lo
 have lo2h:=hr2.lo
 have b3:H2.next≠b1:=by rw [nx2,aF];omega
 generalize hH3:(H2.new (aT [A0 0,A0 0,A0 0,A1 0,.slice none 0 0] 5 68 true))=H3
 have n0:Nat.blt 0 5=true:=rfl
 have n31:Nat.beq 2 1=false:=rfl
 have n32:Nat.beq 2 2=true:=rfl
 have n33:Nat.beq 2 3=false:=rfl
 have n34:Nat.beq 2 4=false:=rfl
 simp only [↓aQ,A3,reduceCtorEq,cN,cP,e2,Sy,Sz,yS,yT,Ta,Tb,n0,n31,n32,n33]
 generalize hHX:Hp.put (H2.new _) H2.next _=HX
 have hn1:h1.next=h.next+1:=aF _ _
 have nH2:H2.next=h.next+1:=by rw [nx2,hn1]
 have nX:HX.next=h.next+2:=by rw [← hHX,aV,aF,nx2,hn1]
 have bX:HX.base=H2.base:=by rw [← hHX];rfl
 have atX:∀ c,c<h.next+1→HX.at c=H2.at c:=fun c hc=>by rw [← hHX,aJ,if_neg (by omega),aM,if_neg (by omega)]
 have wfX:Wf HX:=by rw [← hHX];exact (wf2.new _).put (by rw [aF];omega) _
 have rX:=r2.bT fun c hc=>atX c (by rcases hc with h|h<;>omega)
 rw [List.append_assoc] at rX
 obtain ⟨G4,e4',r4',wf4',fr4',nx4'⟩:=rX.num hN wfX (by exact hf) (by decide)
 obtain ⟨H4,e4,r4,wf4,fr4b,nx4⟩:=r4'.num hN wf4' (by exact hl) (by decide)
 have fr4:p7 (fun k=>k=b1) HX H4:=fr4'.same fr4b wfX.base fun _ h=>h
 have mm1:Nat.ble (0+1+1) 5=true:=rfl
 obtain ⟨CX,hatX,hCX⟩:∃ CX,HX.at H2.next=some (.row CX 5 68 true false)∧∀ k,k<5→CX.get (path k)=[A0 2,A0 0,A0 0,A1 0,.slice none 0 0][k]? :=
  ⟨_,by rw [← hHX,aJ,if_pos rfl],fun k hk=>by rw [bM,if_pos ⟨Nat.zero_le _,by simpa using hk⟩,Nat.sub_zero]⟩
 have hat4:H4.at H2.next=some (.row CX 5 68 true false):=by rw [fr4.at_ _ (by omega) (by omega)];exact hatX
 have m1:Nat.ble (0+2+1) 5=true:=rfl
 have hCY:∀ k,k<5→(aL [A0 data.length] (0+2) (aL [A0 from_] (0+1) CX fun t=>t) fun t=>t).get (path k)=[A0 2,A0 from_,A0 data.length,A1 0,.slice none 0 0][k]?:=fun k hk=>by
  rw [bM,bM]
  match k,hk with
  | 0,_=>exact hCX 0 (by decide)
  | 1,_=>rfl
  | 2,_=>rfl
  | 3,_=>exact hCX 3 (by decide)
  | 4,_=>exact hCX 4 (by decide)
 generalize hCy:(aL [A0 data.length] (0+2) (aL [A0 from_] (0+1) CX fun t=>t) fun t=>t)=CY at hCY
 have g0:CY.get (path (0+0))=some (A0 2):=hCY 0 (by decide)
 have g2:CY.get (path (0+2))=some (A0 data.length):=hCY 2 (by decide)
 have n02:Nat.blt (0+2) 5=true:=rfl
 have n5:H4.next=h.next+2:=by rw [nx4,nx4',nX]
 have b5:H4.base=h.base:=by rw [fr4.base,bX,fr2.base];rfl
 have hwb:=hw.base
 have at4:∀ c,c<h.next→c≠b1→H4.at c=h.at c:=fun c hc hn=>by
  rw [fr4.at_ _ (by omega) hn,atX _ (by omega),fr2.at_ _ (by omega) hn,aM,if_neg (by omega)]
 have w1:=(wf4.put (b:=H2.next) (by omega) (some (.row (aL [A0 from_] (0+1) CX fun t=>t) 5 68 true false))).put (b:=H2.next) (by rw [aV];omega) (some (.row CY 5 68 true false))
 have rd2:Rd ((H4.put H2.next (some (.row (aL [A0 from_] (0+1) CX fun t=>t) 5 68 true false))).put H2.next (some (.row CY 5 68 true false))) b2 tR (data++ys):=hr2.bT fun c hc=>by
  have:c<h.next∧c≠b1:=by rcases hc with h|h<;>omega
  rw [aJ,if_neg (by omega),aJ,if_neg (by omega)]
  exact at4 c this.1 this.2
 obtain ⟨tv,H6,e6,rt,bt,rd6,wf6,fr6,nx6⟩:=rd2.take hT w1
 obtain ⟨dv,H7,e7,hout,wf7,fr7⟩:=(hCl H6 tv data wf6 rt (by have:data.length≤1000:=hd;omega)).get
 have n7:=fr7.next
 have n6:H6.next=h.next+2:=by rw [nx6,aV,aV,n5]
 have b6:H6.base=h.base:=by rw [fr6.base,mF,mF,b5]
 have b7:H7.base=h.base:=by rw [fr7.base,b6]
 have lb2:b2<h.next:=hb2
 have hat7:H7.at H2.next=some (.row CY 5 68 true false):=by rw [fr7.at_ _ (by omega) (fun h=>h),fr6.at_ _ (by rw [aV,aV];omega) (by omega),aJ,if_pos rfl]
 have hat7h:∃ C0,H7.at h.next=some (.row C0 5 68 true false):=⟨_,by
  rw [fr7.at_ _ (by omega) (fun h=>h),fr6.at_ _ (by rw [aV,aV];omega) (by omega),aJ,if_neg (by omega),aJ,if_neg (by omega),fr4.at_ _ (by omega) (by omega),atX _ (by omega),fr2.at_ _ (by omega) (by omega),aM,if_pos rfl];rfl⟩
 obtain ⟨C0,hat7h⟩:=hat7h
 have m4:Nat.ble (0+4+1) 5=true:=rfl
 have m5:Nat.ble (0+5) 5=true:=rfl
 have hone1:bY [dv]=true:=by
  rcases hout.2.2 with ⟨_,⟨_,rfl⟩|rfl⟩|⟨_,rfl,_⟩<;>rfl
 have hone5:bY [A0 2,A0 from_,A0 data.length,A1 0,dv]=true:=hone1
 have hCZ:∀ k,k<5→(aL [dv] (0+4) CY fun t=>t).get (path k)=[A0 2,A0 from_,A0 data.length,A1 0,dv][k]?:=fun k hk=>by
  rw [bM]
  match k,hk with
  | 0,_=>exact hCY 0 (by decide)
  | 1,_=>exact hCY 1 (by decide)
  | 2,_=>exact hCY 2 (by decide)
  | 3,_=>exact hCY 3 (by decide)
  | 4,_=>rfl
 generalize hCz:(aL [dv] (0+4) CY fun t=>t)=CZ at hCZ
 have hLd:cR CZ 0 5 []=some [A0 2,A0 from_,A0 data.length,A1 0,dv]:=dV (o:=0) (vs:=[A0 2,A0 from_,A0 data.length,A1 0,dv]) fun k hk=>by rw [Nat.zero_add];exact hCZ k hk
 have hne2:H2.next≠h.next:=by omega
 simp only [↓aQ,A3,reduceCtorEq,e4',e4,hat4,m1,mm1,hCy,g0,g2,n02,n0,n31,n32,n33,n34,e6,e7,hat7,hone1,m4,hCz,m5,hLd,hone5,hne2,hat7h,yS,yT]
 refine .ret ?_
 have hLd2:cR (aL [A0 2,A0 from_,A0 data.length,A1 0,dv] 0 C0 fun t=>t) 0 5 []=some [A0 2,A0 from_,A0 data.length,A1 0,dv]:=dV (o:=0) (vs:=[A0 2,A0 from_,A0 data.length,A1 0,dv]) fun k hk=>by rw [Nat.zero_add,bM,if_pos ⟨Nat.zero_le _,by simpa using hk⟩,Nat.sub_zero]
 rw [fI (b:=h.next) (by simp) (by rw [aJ,if_pos rfl]) (Nat.le_refl _) hLd2]
 have w2:=wf7.put (b:=H2.next) (by omega) (some (.row CZ 5 68 true false))
 have w3:=w2.put (b:=h.next) (by rw [aV];omega) (some (.row (aL [A0 2,A0 from_,A0 data.length,A1 0,dv] 0 C0 fun t=>t) 5 68 true false))
 have at7:∀ c,c<h.next→c≠b2→H7.at c=H4.at c:=fun c hc hn=>by
  rw [fr7.at_ _ (by omega) (fun h=>h),fr6.at_ _ (by rw [aV,aV];omega) hn,aJ,if_neg (by omega),aJ,if_neg (by omega)]
 refine ⟨⟨dv,rfl,hout.sl.bT fun c h0 hc=>?_,fun h0 c hc=>?_⟩,r4.bT fun c hc=>?_,rd6.bT fun c hc=>?_,w3,?_⟩
 · have h1:=hout.fE h0 hc
   rw [aJ,if_neg (by omega),aJ,if_neg (by omega)]
 · have h1:=hout.fE h0 hc
   have h2:=hout.sl.lt wf7 h0 hc
   rw [aV,aV]
   omega
 · have:c<h.next∧c≠b2:=by rcases hc with h|h<;>omega
   rw [aJ,if_neg (by omega),aJ,if_neg (by omega)]
   exact at7 c this.1 this.2
 · have:c<h.next:=by have:=rd6.lo;rcases hc with h|h<;>omega
   rw [aJ,if_neg (by omega),aJ,if_neg (by omega)]
   exact fr7.at_ c (by omega) fun h=>h
 · have f2:p7 (fun k=>k=b1∨k=b2) h H2:=(Fr.new (P:=fun k=>k=b1∨k=b2) _).lift.same fr2 hwb fun k h=>.inl h
   have fX:p7 (fun k=>k=b1∨k=b2) h HX:=by
    rw [← hHX]
    exact (f2.dE _).cJ _ hwb fun h=>by omega
   have f6:p7 (fun k=>k=b1∨k=b2) h H6:=(((fX.same fr4 hwb fun k h=>.inl h).cJ _ hwb fun h=>by omega).cJ _ hwb fun h=>by omega).same fr6 hwb fun k h=>.inr h
   exact ((f6.same fr7.lift hwb fun k h=>h.elim).cJ _ hwb fun h=>by omega).cJ _ hwb fun h=>by omega
theorem aOI {call:Call} {cd:cE} (hN:Me call) (hT:Ao call RC) (hCl:Sx call) {o:eJ} (ho:o.Ok) {b1 b2 sC tR:Nat} {xs ys:List Nat} {h:Hp} (hw:Wf h) (hr1:Rd h b1 sC (o.code++xs)) (hr2:Rd h b2 tR (o.data++ys)) (hb1:b1<h.next) (hb2:b2<h.next) (hne:b1≠b2) (hl1:tR≠b1) (hl2:sC≠b2) (hq1:sC<h.next) (hq2:tR<h.next) :
 Yields (dD Bk call cd [bE b1 0,bE b2 0] h) (aFQ o b1 b2 sC tR xs ys h):=by
 rcases ho.kind with h1|h1|h1|h1
 · exact aKc hN ho h1.1 hw hr1 hr2 hb1 hb2 hne hl1 hl2 hq1 hq2
 · exact aKe hN hT hCl ho h1.1 hw hr1 hr2 hb1 hb2 hne hl1 hl2 hq1 hq2
 · exact aKb hN ho h1.1 hw hr1 hr2 hb1 hb2 hne hl1 hl2 hq1 hq2
 · exact aKd hN hT hCl ho h1.1 hw hr1 hr2 hb1 hb2 hne hl1 hl2 hq1 hq2
def own (lo wb k:Nat):Prop:=lo≤k∧k≠wb
def dB (l:List eJ):List Nat:=l.flatMap eJ.code
def dF (l:List eJ):List Nat:=l.flatMap eJ.data
theorem Bm (l:List eJ) (o:eJ):dB (l++[o])=dB l++o.code:=by simp [dB]
theorem Bn (l:List eJ) (o:eJ):dF (l++[o])=dF l++o.data:=by simp [dF]
noncomputable def opC (o:eJ) (dv:Value):List Value:=[A0 o.kind,A0 o.from_,A0 o.len,A1 o.b,dv]
def gD (h:Hp) (v:Value) (l:List eJ) (P:Nat→Prop):Prop:=(l=[]∧(v=.slice none 0 0∨∃ b o c,v=cB b o 0 c))∨∃ b o c,v=cB b o l.length c∧P b∧∃ cc m e cl ro,h.at b=some (.row cc m e cl ro)∧o+5*l.length≤m∧∀ i x,l[i]?=some x→∃ dv,(∀ k,k<5→cc.get (path (o+i*5+k))=(opC x dv)[k]?)∧Sl 1 h dv x.data.length (dR x.data)∧∀ c,0<x.data.length→gY dv c→P c
theorem gD.bT {h H:Hp} {v:Value} {l:List eJ} {P:Nat→Prop} (hr:gD h v l P) (e:∀ c,P c→H.at c=h.at c):gD H v l P:=by
 rcases hr with h1|⟨b,o,c,rfl,hP,cc,m,e',cl,ro,hat,hm,hx⟩
 · exact .inl h1
 refine .inr ⟨b,o,c,rfl,hP,cc,m,e',cl,ro,by rw [e b hP];exact hat,hm,fun i x hi=>?_⟩
 obtain ⟨dv,h1,h2,h3⟩:=hx i x hi
 exact ⟨dv,h1,h2.bT fun c h0 hc=>e c (h3 c h0 hc),h3⟩
theorem gD.len {h:Hp} {v:Value} {l:List eJ} {P:Nat→Prop} (hr:gD h v l P):rW v (fun _ _ l _=>some (A0 l)) (fun l _=>some (A0 l)) none=some (A0 l.length):=by
 rcases hr with ⟨rfl,rfl|⟨b,o,c,rfl⟩⟩|⟨b,o,c,rfl,_⟩<;>rfl
structure SymM where
 dL:Bool
 at_:Nat
 b:Nat
def aOJ:SymM:=⟨false,0,0⟩
structure SymM.Ok (s:SymM) (size:Nat):Prop where
 at_:s.dL=true→s.at_<size
 no:s.dL=false→s.at_=0
 b:s.b<256
structure eJ.Rt (o:eJ) (size:Nat):Prop where
 ok:o.Ok
 pos:0<o.len
 ins:o.kind≤2→o.from_+o.len≤size
theorem eJ.Rt.k {o:eJ} {size:Nat} (h:o.Rt size):o.kind=1∨o.kind=2∨o.kind=3∨o.kind=4:=by
 rcases h.ok.kind with h|h|h|h
 · exact .inl h.1
 · exact .inr (.inl h.1)
 · exact .inr (.inr (.inl h.1))
 · exact .inr (.inr (.inr h.1))
def Mf (o:eJ) (i:Nat):SymM:=if o.kind=1 then ⟨true,o.from_+i,0⟩ else if o.kind=2 then ⟨true,o.from_+i,o.data.getD i 0⟩ else if o.kind=3 then ⟨false,0,o.b⟩ else ⟨false,0,o.data.getD i 0⟩
def oR (o:eJ):List SymM:=(List.range o.len).map (Mf o)
theorem vU (o:eJ):(oR o).length=o.len:=by simp [oR]
theorem Mg {o:eJ} {i:Nat} (h:i<o.len):(oR o)[i]?=some (Mf o i):=by
 unfold oR
 rw [List.getElem?_map,List.getElem?_range h];rfl
def eO (ops:List eJ):List SymM:=ops.flatMap oR
def iS (ops:List eJ):Nat:=(eO ops).length
theorem Bo (ops:List eJ) (o:eJ):eO (ops++[o])=eO ops++oR o:=by simp [eO]
theorem uP (ops:List eJ) (o:eJ):iS (ops++[o])=iS ops+o.len:=by unfold iS;rw [Bo,List.length_append,vU]
theorem Gl (o:eJ) (ops:List eJ):iS (o::ops)=o.len+iS ops:=by
 unfold iS eO
 rw [List.flatMap_cons,List.length_append,vU]
theorem Xu:iS []=0:=rfl
theorem aKf (a b:List eJ):iS (a++b)=iS a+iS b:=by unfold iS eO;rw [List.flatMap_append,List.length_append]
theorem aFR {ops:List eJ} {i:Nat}:iS (ops.take i)≤iS ops:=by
 conv=>rhs;rw [← List.take_append_drop i ops,aKf]
 omega
theorem qC {α:Type} {l:List α} {i:Nat} {x:α} (hx:l[i]?=some x):l.take (i+1)=l.take i++[x]:=by
 rw [List.take_add_one,hx];rfl
theorem zT {ops:List eJ} {i:Nat} {o:eJ} (h:ops[i]?=some o):iS (ops.take i)+o.len≤iS ops:=by
 have:=aFR (ops:=ops) (i:=i+1)
 rw [qC h,uP] at this
 exact this
structure kF.Ok (n m:Nat) (ops:List eJ):Prop where
 rt:∀ o∈ops,o.Rt n
 out:iS ops=m
 n:n≤1000
 m:m≤100
theorem kF.Ok.num {n m:Nat} {ops:List eJ} (h:kF.Ok n m ops):ops.length≤m:=by
 have key:∀ l:List eJ,(∀ o∈l,o.Rt n)→l.length≤iS l:=by
  intro l
  induction l with
  | nil=>intro _;exact Nat.le_refl _
  | cons o l ih =>
   intro hl
   have h1:=ih fun x hx=>hl x (by simp [hx])
   have h2:=(hl o (by simp)).pos
   rw [Gl,List.length_cons];omega
 have:=key ops h.rt
 rw [h.out] at this
 exact this
theorem aKg {o:eJ} {n i:Nat} (h:o.Rt n) (hi:i<o.len):(Mf o i).Ok n:=by
 have hd:∀ k,o.data.getD k 0<256:=fun k=>by
  rw [List.getD_eq_getElem?_getD]
  cases e:o.data[k]? with
  | none=>show (0:Nat)<256;omega
  | some x=>exact h.ok.byte x (List.mem_of_getElem? e)
 unfold Mf
 split
 · exact ⟨fun _=>by have:=h.ins (by omega);show o.from_+i<n;omega,fun h=>(by cases h),by show (0:Nat)<256;omega⟩
 split
 · exact ⟨fun _=>by have:=h.ins (by omega);show o.from_+i<n;omega,fun h=>(by cases h),hd i⟩
 split
 · exact ⟨fun h=>(by cases h),fun _=>rfl,h.ok.b⟩
 · exact ⟨fun h=>(by cases h),fun _=>rfl,hd i⟩
theorem rM {n:Nat} {ops:List eJ} (h:∀ o∈ops,o.Rt n):∀ s∈eO ops,s.Ok n:=by
 intro s hs
 obtain ⟨o,ho,h1⟩:=List.mem_flatMap.1 hs
 unfold oR at h1
 obtain ⟨i,hi,rfl⟩:=List.mem_map.1 h1
 exact aKg (h o ho) (by simpa using hi)
def jZ (dL:List Nat) (s:SymM):Nat:=if s.dL then (s.b+dL.getD s.at_ 0) % 256 else s.b
def nH (dL:List Nat) (l:List SymM):List Nat:=l.map (jZ dL)
theorem Xv (dL:List Nat) (l:List SymM):(nH dL l).length=l.length:=by simp [nH]
theorem aFS (dL:List Nat) (l:List SymM) (s:SymM):nH dL (l++[s])=nH dL l++[jZ dL s]:=by simp [nH]
theorem aFT {dL:List Nat} {l:List SymM} {n:Nat} (h:∀ s∈l,s.Ok n):∀ x∈nH dL l,x<256:=by
 intro x hx
 obtain ⟨s,hs,rfl⟩:=List.mem_map.1 hx
 unfold jZ
 split
 · exact Nat.mod_lt _ (by decide)
 · exact (h s hs).b
def rO (a:List SymM) (s:SymM):SymM:=if s.dL then ⟨((a[s.at_]?).getD aOJ).dL,((a[s.at_]?).getD aOJ).at_,(((a[s.at_]?).getD aOJ).b+s.b) % 256⟩ else ⟨false,0,s.b⟩
def vV (a b:List SymM):List SymM:=b.map (rO a)
theorem aKh (a b:List SymM):(vV a b).length=b.length:=by simp [vV]
theorem aFU (a b:List SymM) (s:SymM):vV a (b++[s])=vV a b++[rO a s]:=by simp [vV]
theorem Gm {a:List SymM} {s x:SymM} (h1:s.dL=true) (h2:a[s.at_]?=some x):rO a s=⟨x.dL,x.at_,(x.b+s.b) % 256⟩:=by
 unfold rO
 rw [if_pos h1,h2];rfl
theorem Qb {a:List SymM} {s:SymM} (h:s.dL=false):rO a s=⟨false,0,s.b⟩:=by
 unfold rO
 rw [if_neg (by rw [h];decide)]
theorem aOK {a b:List SymM} {n:Nat} (ha:∀ s∈a,s.Ok n) (hb:∀ s∈b,s.Ok a.length):∀ s∈vV a b,s.Ok n:=by
 intro y hy
 obtain ⟨s,hs,rfl⟩:=List.mem_map.1 hy
 cases h:s.dL with
 | true =>
  have h1:=(hb s hs).at_ h
  have h2:=List.getElem?_eq_getElem h1
  rw [Gm h h2]
  have h3:=ha _ (List.getElem_mem h1)
  exact ⟨h3.at_,h3.no,Nat.mod_lt _ (by decide)⟩
 | false =>
  rw [Qb h]
  exact ⟨fun h=>(by cases h),fun _=>rfl,(hb s hs).b⟩
theorem aOL {a b:List SymM} {dL:List Nat} {n:Nat} (ha:∀ s∈a,s.Ok n) (hb:∀ s∈b,s.Ok a.length):nH dL (vV a b)=nH (nH dL a) b:=by
 unfold vV nH
 rw [List.map_map]
 apply List.map_congr_left
 intro s hs
 show jZ dL (rO a s)=jZ (a.map (jZ dL)) s
 cases h:s.dL with
 | true =>
  have h1:=(hb s hs).at_ h
  have h2:=List.getElem?_eq_getElem h1
  rw [Gm h h2]
  have h3:=ha _ (List.getElem_mem h1)
  generalize a[s.at_]=x at h2 h3
  have h4:(a.map (jZ dL)).getD s.at_ 0=jZ dL x:=by rw [List.getD_eq_getElem?_getD,List.getElem?_map,h2];rfl
  have h5:jZ (a.map (jZ dL)) s=(s.b+jZ dL x) % 256:=by
   show (if s.dL then _ else _)=_
   rw [h,if_pos rfl,h4]
  rw [h5]
  have hb3:=h3.b
  cases h6:x.dL with
  | true =>
   show (if true=true then ((x.b+s.b) % 256+dL.getD x.at_ 0) % 256 else _)=_
   rw [if_pos rfl]
   unfold jZ
   rw [h6,if_pos rfl]
   omega
  | false =>
   show (if false=true then _ else (x.b+s.b) % 256)=_
   rw [if_neg (by decide)]
   unfold jZ
   rw [h6,if_neg (by decide)]
   omega
 | false =>
  rw [Qb h]
  unfold jZ
  rw [h];rfl
noncomputable def fF (s:SymM):List Value:=[.bool s.dL,A0 s.at_,A1 s.b]
noncomputable def gH (l:List SymM):List Value:=l.flatMap fF
theorem Mh (s:SymM):(fF s).length=3:=rfl
theorem nI (l:List SymM):(gH l).length=l.length*3:=by
 unfold gH
 induction l with
 | nil=>rfl
 | cons s l ih=>rw [List.flatMap_cons,List.length_append,ih,Mh,List.length_cons];omega
theorem yU (a b:List SymM):gH (a++b)=gH a++gH b:=by simp [gH]
theorem Xw (s:SymM):gH [s]=fF s:=by simp [gH]
theorem Mi {l:List SymM} {i k:Nat} {s:SymM} (h:l[i]?=some s) (hk:k<3):(gH l)[i*3+k]?=(fF s)[k]?:=by
 have h1:l=l.take i++s::l.drop (i+1):=by
  have hi:=(List.getElem?_eq_some_iff.1 h).1
  have e:=(List.getElem?_eq_some_iff.1 h).2
  conv=>lhs;rw [← List.take_append_drop i l,List.drop_eq_getElem_cons hi,e]
 have hi:=(List.getElem?_eq_some_iff.1 h).1
 have hl:(gH (l.take i)).length=i*3:=by rw [nI,List.length_take];congr 1;omega
 rw [h1,yU,List.getElem?_append_right (by omega),hl,Nat.add_sub_cancel_left]
 have e2:gH (s::l.drop (i+1))=fF s++gH (l.drop (i+1)):=by simp [gH]
 rw [e2,List.getElem?_append_left (by rw [Mh];exact hk)]
theorem aFV (l:List SymM) (k:Nat):(gH l).drop (k*3)=gH (l.drop k):=by
 have h:l=l.take k++l.drop k:=(List.take_append_drop k l).symm
 by_cases hk:k≤l.length
 · have hl:(gH (l.take k)).length=k*3:=by rw [nI,List.length_take];congr 1;omega
   conv=>lhs;rw [h,yU,← hl]
   rw [List.drop_left]
 · rw [List.drop_of_length_le (by rw [nI];omega),List.drop_of_length_le (by omega)];rfl
theorem aFW (l:List SymM) (k:Nat):(gH l).take (k*3)=gH (l.take k):=by
 have h:l=l.take k++l.drop k:=(List.take_append_drop k l).symm
 by_cases hk:k≤l.length
 · have hl:(gH (l.take k)).length=k*3:=by rw [nI,List.length_take];congr 1;omega
   conv=>lhs;rw [h,yU,← hl]
   rw [List.take_left]
 · rw [List.take_of_length_le (by rw [nI];omega),List.take_of_length_le (by omega)]
section
def bR:=A2 @yI <| A2 @aDE <| A2 @aDF <| A2 @aDG <| A2 @aIU <| A2 @z_t <| A2 @z_l <| A2 @z_v <| A2 @z_o <| A2 @aIV <| A2 @aIW <| A2 @aUR <| A2 @aUS <| A2 @aDH <| A2 @aQx <| A2 @aUT <| A2 @aUU <| A2 @aUV <| A2 @aUW <| A2 @aUX <| A2 @aUY <| A2 @Rz <| A2 @aIX <| A2 @T.aB <| A2 @aIY <| A2 @aIZ <| A2 @aDJ <| A2 @aDK <| A2 @aDL <| A2 @aI0 <| A2 @aI1 <| A2 @aI2 <| A2 @aI3 <| A2 @aQy <| A2 @aDI <| A2 @aI4 <| A2 @aQz <| A2 @aDM <| A2 @aIS <| A2 @aIT <| A2 @Wp <| A2 @aF <| A2 @dX <| A2 @Gc <| A2 @aV <| A2 @mF <| A2 @aM <| A2 @aJ <| A2 @dM <| A2 @cL <| A2 @mL <| A2 @Ds <| A2 @aDN <| A2 @uL <| A2 @Ws <| A2 @An <| A2 @aI7 <| A2 @aI8 <| A2 @aI9 <| A2 @aJa <| A2 @aJb <| A2 @aJc <| A2 @aQA <| A2 @aJd <| A2 @aDO <| A2 @Wt <| A2 @Wu <| A2 @Dt <| A2 @dQ <| A2 @cN <| A2 @cP <| A2 @m0 <| A2 @m8 <| A2 @pW <| A2 @aQB <| A2 @aDP <| A2 @aJe <| A2 @aJf <| A2 @Du <| A2 @Dv <| A2 @aDQ <| A2 @aJh <| A2 @aJi <| A2 @eS <| A2 @Kz <| A2 @Sb <| A2 @aJD <| A2 @tO <| A2 @aJE <| A2 @aJF <| A2 @aDR <| A2 @Lb <| A2 @aJj <| A2 @aJk <| A2 @aJl <| A2 @aDS <| A2 @aDT <| A2 @aJm <| A2 @aJn <| A2 @aJo <| A2 @aJp <| A2 @aDU <| A2 @aJq <| A2 @aJr <| A2 @Lc <| A2 @Pw <| A2 @Wv <| A2 @Ww <| A2 @Wy <| A2 @aQC <| A2 @aDW <| A2 @aJs <| A2 @aDX <| A2 @pX <| A2 @yL <| A2 @aQD <| A2 @aJt <| A2 @aJu <| A2 @aJv <| A2 @aJw <| A2 @aJx <| A2 @aJy <| A2 @aJz <| A2 @aJA <| A2 @aJB <| A2 @aJC <| A2 @gM <| A2 @aDY <| A2 @aQE <| A2 @aQF <| A2 @aQG <| A2 @aQH <| A2 @aQI <| A2 @aQJ <| A2 @aQK <| A2 @aQL <| @aQM
def aOM (n:Nat) (v:Value):Bool:=match v with
 | .pointer (some ⟨b,_,none⟩)=>Nat.blt b n
 | .slice (some ⟨b,_,none⟩) _ _=>Nat.blt b n
 | v=>gG v
def aSb (n:Nat) (v:Value):Bool:=match v with
 | .agg a=>a.toList.all (aOM n)
 | .iface _ (.agg a)=>a.toList.all (aOM n)
 | v=>aOM n v
def aBE (n:Nat) (v:Value):Bool:=match v with
 | .tuple a=>a.toList.all (aSb n)
 | v=>aSb n v
theorem bS.yV {n:Nat} {f g:Map} {v v':Value} (hp:aOM n v=true) (hg:∀ b i,b<n→f b=some i→g b=some i) (h:bS f v v'):bS g v v':=by
 cases h with
 | ptr b o i h1=>exact .ptr b o i (hg b i (Nat.blt_eq.mp hp) h1)
 | slice b o l c i h1 hc hl=>exact .slice b o l c i (hg b i (Nat.blt_eq.mp hp) h1) hc hl
 | iM b o l c lb i o' c' h1 hc hlb hl hb ho hn=>exact .iM b o l c lb i o' c' (hg b i (Nat.blt_eq.mp hp) h1) hc hlb hl hb ho hn
 | bool b=>exact .bool b
 | int k n=>exact .int k n
 | string s=>exact .string s
 | nilPtr=>exact .nilPtr
 | iF l c=>exact .iF l c
 | pR=>exact .pR
 | nilFunc=>exact .nilFunc
 | nilIface=>exact .nilIface
 | top v=>cases hp
 | map b i h=>cases hp
 | func g a c a' c' ha hc va vc=>cases hp
 | iface t v v' h=>cases hp
 | agg a a' hs h=>cases hp
 | tuple a a' hs h=>cases hp
theorem aBF {p:Value→Bool} {a:Array Value} (h:a.toList.all p=true) {i:Nat} (hi:i<a.size):p (a.getD i undef)=true:=by
 have h1:=List.all_eq_true.1 h (a[i]) (by simp)
 rw [iD (v:=a[i]) (by simp [hi])]
 exact h1
theorem bS.uQ {n:Nat} {f g:Map} {v v':Value} (hp:aSb n v=true) (hg:∀ b i,b<n→f b=some i→g b=some i) (h:bS f v v'):bS g v v':=by
 cases h with
 | agg a a' hs h=>exact .agg a a' hs fun i hi=>(h i hi).yV (aBF hp hi) hg
 | iface t v v' h =>
  cases h with
  | agg a a' hs h=>exact .iface t _ _ (.agg a a' hs fun i hi=>(h i hi).yV (aBF hp hi) hg)
  | _=>cases hp
 | tuple a a' hs h=>cases hp
 | ptr b o i h1=>exact bS.yV hp hg (.ptr b o i h1)
 | slice b o l c i h1 hc hl=>exact bS.yV hp hg (.slice b o l c i h1 hc hl)
 | iM b o l c lb i o' c' h1 hc hlb hl hb ho hn=>exact bS.yV hp hg (.iM b o l c lb i o' c' h1 hc hlb hl hb ho hn)
 | bool b=>exact .bool b
 | int k n=>exact .int k n
 | string s=>exact .string s
 | nilPtr=>exact .nilPtr
 | iF l c=>exact .iF l c
 | pR=>exact .pR
 | nilFunc=>exact .nilFunc
 | nilIface=>exact .nilIface
 | top v=>cases hp
 | map b i h=>cases hp
 | func g a c a' c' ha hc va vc=>cases hp
theorem bS.aKi {n:Nat} {f g:Map} {v v':Value} (hp:aBE n v=true) (hg:∀ b i,b<n→f b=some i→g b=some i) (h:bS f v v'):bS g v v':=by
 cases h with
 | tuple a a' hs h=>exact .tuple a a' hs fun i hi=>(h i hi).uQ (aBF hp hi) hg
 | agg a a' hs h=>exact bS.uQ hp hg (.agg a a' hs h)
 | iface t v v' h=>exact bS.uQ hp hg (.iface t v v' h)
 | ptr b o i h1=>exact bS.uQ hp hg (.ptr b o i h1)
 | slice b o l c i h1 hc hl=>exact bS.uQ hp hg (.slice b o l c i h1 hc hl)
 | iM b o l c lb i o' c' h1 hc hlb hl hb ho hn=>exact bS.uQ hp hg (.iM b o l c lb i o' c' h1 hc hlb hl hb ho hn)
 | bool b=>exact .bool b
 | int k n=>exact .int k n
 | string s=>exact .string s
 | nilPtr=>exact .nilPtr
 | iF l c=>exact .iF l c
 | pR=>exact .pR
 | nilFunc=>exact .nilFunc
 | nilIface=>exact .nilIface
 | top v=>cases hp
 | map b i h=>cases hp
 | func g a c a' c' ha hc va vc=>cases hp
noncomputable def aBG (r:fV) (h:Hp):fV:=match r with
 | .val v h1=>bif aBE h.next v then (match h1.log with | []=>.val v h | _=>.none) else .none
 | _=>.none
variable {P:Program}
theorem aFX {gs:List Nat} {g:FuncId} {args:List Value} {h:Hp} {r:fV} (H:mE P gs g args (aS h h.next []) r):mE P gs g args h (aBG r h):=by
 intro args' f w hG hr hl
 have hr':gX f (aS h h.next []) w:=hr.aS (Nat.le_refl _)
 have h1:=H args' f w hG hr' hl
 revert h1
 cases r with
 | none=>intro _;trivial
 | panic c h1=>intro _;trivial
 | val v h1 =>
  intro hh
  show match (bif aBE h.next v then (match h1.log with|[]=>fV.val v h|_=>.none) else .none) with|.none=>True|.val v h'=>_|.panic c h'=>_
  cases hp:aBE h.next v with
  | false=>trivial
  | true =>
   rw [cond_true]
   cases hlog:h1.log with
   | cons x y=>trivial
   | nil =>
    refine ⟨hh.1,hh.2.mono fun e w' he=>?_⟩
    cases e with
    | panicked c=>exact he.elim
    | outgrown=>exact he.elim
    | returned v' =>
     obtain ⟨f',hA,hC,hv⟩:=he
     have hat:∀ b,b<h.next→h1.at b=h.at b:=fun b hb=>hA.bT b hb (by rw [hlog];simp)
     refine ⟨f,cV.refl h,⟨hr,Map.le_refl f,⟨fun b o i hb ho=>?_,hr.inj,fun b i hb=>⟨(hr.fresh b i hb).1,Nat.lt_of_lt_of_le (hr.fresh b i hb).2 hC.size⟩,hr.dead,hr.base⟩,hC.size,hC.tape,hC.os,hC.out,fun c hc hh=>?_,fun b i h1 h2=>by (rw [h1] at h2;cases h2)⟩,hv.aKi hp fun b i hb hi=>?_⟩
     · obtain ⟨x,hx,hor⟩:=hr.obj b o i hb ho
       refine ⟨x,?_,hor⟩
       rw [hC.bT i.fE (hr.fresh b i hb).2 fun b' i' h1 _ h3=>⟨(hr.fresh b' i' h1).1,by rw [hlog];simp⟩]
       exact hx
     · exact hC.bT c hc fun b' i' h1 _ h3=>⟨(hr.fresh b' i' h1).1,by rw [hlog];simp⟩
     · cases e:f b with
       | some j =>
        have:=hC.le b j e
        rw [hi] at this
        exact this.symm
       | none =>
        have:=(hC.news b i e hi).1
        have e2:(aS h h.next []).next=h.next:=rfl
        omega
noncomputable def cH (P:Program) (cx:Cx) (ov:FuncId→List Value→Hp→Option fV) (q:List Nat):Nat→Call
 | 0=>fun _ _ _=>.none
 | n+1=>fun g args h=>Option.rec (motive:=fun _=>fV)
  (bif q.any (Nat.beq g) then aBG (dD (cF P cx g) (cH P cx ov q n) (fun g=>yB (Uz P cx g) (cH P cx ov q n)) args (aS h h.next [])) h
    else dD (cF P cx g) (cH P cx ov q n) (fun g=>yB (Uz P cx g) (cH P cx ov q n)) args h) (fun r=>r) (ov g args h)
theorem aKj {cx:Cx} {ov:FuncId→List Value→Hp→Option fV} {q:List Nat} (hX:xO P cx) (hdraw:tL P cx) (hov:∀ g args h r,ov g args h=some r→mE P cx.gs g args h r):∀ n,gW P cx.gs (cH P cx ov q n):=by
 intro n
 induction n with
 | zero=>exact oP.2 fun g args h=>yK
 | succ n ih =>
  have hF:=oP.1 (Rq hX hdraw ih (Rs hX hdraw ih))
  refine oP.2 fun g args h=>?_
  show mE P cx.gs g args h (Option.rec (motive:=fun _=>fV) _ (fun r=>r) (ov g args h))
  cases ho:ov g args h with
  | some r=>exact hov g args h r ho
  | none =>
   show mE P cx.gs g args h (bif q.any (Nat.beq g) then _ else _)
   cases q.any (Nat.beq g) with
   | true=>exact aFX (hF g args _)
   | false=>exact hF g args h
structure QR (v0:Value) (h:Hp) (v:Value) (H:Hp):Prop where
 eq:v=v0
 log:H.log=h.log
theorem aFY {r:fV} {h:Hp} {v:Value} (hy:Yields r (QR v (aS h h.next []))) (ho:aBE h.next v=true):aBG r h=.val v h:=by
 obtain ⟨v',H,rfl,rfl,hl⟩:=hy.get
 show (bif aBE h.next v' then (match H.log with|[]=>fV.val v' h|_=>.none) else .none)=_
 rw [ho,hl];rfl
theorem QR.put {v:Value} {h H:Hp} {b:Nat} {o:Option dY} (h0:H.log=h.log) (h1:H.base≤b):QR v h v (H.put b o):=⟨rfl,by rw [kM h1];exact h0⟩
end
theorem aSc (a b c d e:Value):[a,b,c,d,e].length=5:=rfl
theorem aSd:Nat.blt (0+0) 5=true:=rfl
theorem aSe:Nat.blt (0+1) 5=true:=rfl
theorem aSf:Nat.blt (0+2) 5=true:=rfl
theorem aSg:Nat.blt (0+3) 5=true:=rfl
theorem aSh:Nat.blt (0+4) 5=true:=rfl
theorem aVi:Nat.ble (0+5) 5=true:=rfl
theorem aSi:Nat.ble (0+0+1) 5=true:=rfl
theorem aSj:Nat.ble (0+1+1) 5=true:=rfl
theorem aSk:Nat.ble (0+2+1) 5=true:=rfl
theorem aSl:Nat.ble (0+3+1) 5=true:=rfl
theorem aSm:Nat.ble (0+4+1) 5=true:=rfl
theorem aVj (a b c d e:Value) (t:T Value):(aL [a,b,c,d,e] 0 t fun t=>t).get (path (0+0))=some a:=by rw [bM,if_pos ⟨Nat.zero_le _,by simp⟩];rfl
theorem aVk (a b c d e:Value) (t:T Value):(aL [a,b,c,d,e] 0 t fun t=>t).get (path (0+1))=some b:=by rw [bM,if_pos ⟨Nat.zero_le _,by simp⟩];rfl
theorem aVl (a b c d e:Value) (t:T Value):(aL [a,b,c,d,e] 0 t fun t=>t).get (path (0+2))=some c:=by rw [bM,if_pos ⟨Nat.zero_le _,by simp⟩];rfl
theorem aVm (a b c d e:Value) (t:T Value):(aL [a,b,c,d,e] 0 t fun t=>t).get (path (0+3))=some d:=by rw [bM,if_pos ⟨Nat.zero_le _,by simp⟩];rfl
theorem aVn (a b c d e:Value) (t:T Value):(aL [a,b,c,d,e] 0 t fun t=>t).get (path (0+4))=some e:=by rw [bM,if_pos ⟨Nat.zero_le _,by simp⟩];rfl
theorem aKl (a b c d e:Value) (t:T Value):cR (aL [a,b,c,d,e] 0 t fun t=>t) 0 5 []=some [a,b,c,d,e]:=dV (o:=0) (vs:=[a,b,c,d,e]) fun k hk=>by rw [Nat.zero_add,bM,if_pos ⟨Nat.zero_le _,by simpa using hk⟩,Nat.sub_zero]
theorem aSn:Nat.beq 5 5=true:=rfl
def oS:=A2 @aSc <| A2 @aSd <| A2 @aSe <| A2 @aSf <| A2 @aSg <| A2 @aSh <| A2 @aVi <| A2 @aSi <| A2 @aSj <| A2 @aSk <| A2 @aSl <| A2 @aSm <| A2 @aVj <| A2 @aVk <| A2 @aVl <| A2 @aVm <| A2 @aVn <| A2 @aKl <| @aSn
theorem aD8 (a:Value) (t:T Value):(aL [a] 0 t fun t=>t).get (path 0)=some a:=by rw [bM,if_pos ⟨Nat.zero_le _,by simp⟩];rfl
theorem aQW:Nat.blt 0 1=true:=rfl
theorem aVo:Nat.ble (0+1) 1=true:=rfl
def dP:=A2 @aD8 <| A2 @aQW <| @aVo
def NW:=A2 aQ (A2 bR (A2 bQ bP))
def NV:=A2 NW dP
theorem aSo:Nat.blt (0+0) 3=true:=rfl
theorem aSp:Nat.blt (0+1) 3=true:=rfl
theorem aSq:Nat.blt (0+2) 3=true:=rfl
theorem aVp:Nat.ble (0+3) 3=true:=rfl
theorem aSr:Nat.ble (0+1) 3=true:=rfl
theorem aSs:Nat.ble (1+1) 3=true:=rfl
theorem aSt:Nat.ble (2+1) 3=true:=rfl
theorem aON:Nat.ble (0+0+1) 3=true:=rfl
theorem aOO:Nat.ble (0+1+1) 3=true:=rfl
theorem aOP:Nat.ble (0+2+1) 3=true:=rfl
theorem aSu:Nat.beq 3 3=true:=rfl
theorem aKm (a b c:Value) (t:T Value):(aL [a,b,c] 0 t fun t=>t).get (path (0+0))=some a:=by rw [bM,if_pos ⟨Nat.zero_le _,by simp⟩];rfl
theorem aKn (a b c:Value) (t:T Value):(aL [a,b,c] 0 t fun t=>t).get (path (0+1))=some b:=by rw [bM,if_pos ⟨Nat.zero_le _,by simp⟩];rfl
theorem aVq (a b c:Value) (t:T Value):(aL [a,b,c] 0 t fun t=>t).get (path (0+2))=some c:=by rw [bM,if_pos ⟨Nat.zero_le _,by simp⟩];rfl
theorem Xx (a b c:Value) (t:T Value):cR (aL [a,b,c] 0 t fun t=>t) 0 3 []=some [a,b,c]:=dV (o:=0) (vs:=[a,b,c]) fun k hk=>by rw [Nat.zero_add,bM,if_pos ⟨Nat.zero_le _,by simpa using hk⟩,Nat.sub_zero]
theorem aOQ {R:Type} (o n:Nat) (b:Bool) (z:List Value) (k:List Value→R) (no:R):oE o n (.bool b) z k no=bif Nat.beq 1 n then bif Nat.ble (o+n) z.length then k (over z o [.bool b]) else no else no:=by
 show (bif false then no else bif Nat.beq 1 n then bif Nat.ble (Nat.add o n) (len z) then k (over z o [.bool b]) else no else no)=_
 rw [eF];rfl
def yX:=A2 @aSo <| A2 @aSp <| A2 @aSq <| A2 @aVp <| A2 @aSr <| A2 @aSs <| A2 @aSt <| A2 @aON <| A2 @aOO <| A2 @aOP <| A2 @aSu <| A2 @aKm <| A2 @aKn <| A2 @aVq <| A2 @Xx <| @aOQ
theorem aSv:Nat.blt (0+0) 4=true:=rfl
theorem aSw:Nat.blt (0+1) 4=true:=rfl
theorem aSx:Nat.blt (0+2) 4=true:=rfl
theorem aSy:Nat.blt (0+3) 4=true:=rfl
theorem aVr:Nat.ble (0+4) 4=true:=rfl
theorem aSz:Nat.ble (0+0+1) 4=true:=rfl
theorem aSA:Nat.ble (0+1+1) 4=true:=rfl
theorem aSB:Nat.ble (0+2+1) 4=true:=rfl
theorem aSC:Nat.ble (0+3+1) 4=true:=rfl
theorem aVs:Nat.ble (0+1) 4=true:=rfl
theorem aVt:Nat.ble (1+1) 4=true:=rfl
theorem aVu:Nat.ble (2+1) 4=true:=rfl
theorem aVv:Nat.ble (3+1) 4=true:=rfl
theorem aSD:Nat.beq 4 4=true:=rfl
theorem aVw (a b c d:Value) (t:T Value):(aL [a,b,c,d] 0 t fun t=>t).get (path (0+0))=some a:=by rw [bM,if_pos ⟨Nat.zero_le _,by simp⟩];rfl
theorem aVx (a b c d:Value) (t:T Value):(aL [a,b,c,d] 0 t fun t=>t).get (path (0+1))=some b:=by rw [bM,if_pos ⟨Nat.zero_le _,by simp⟩];rfl
theorem aVy (a b c d:Value) (t:T Value):(aL [a,b,c,d] 0 t fun t=>t).get (path (0+2))=some c:=by rw [bM,if_pos ⟨Nat.zero_le _,by simp⟩];rfl
theorem aVz (a b c d:Value) (t:T Value):(aL [a,b,c,d] 0 t fun t=>t).get (path (0+3))=some d:=by rw [bM,if_pos ⟨Nat.zero_le _,by simp⟩];rfl
theorem sV (a b c d:Value) (t:T Value):cR (aL [a,b,c,d] 0 t fun t=>t) 0 4 []=some [a,b,c,d]:=dV (o:=0) (vs:=[a,b,c,d]) fun k hk=>by rw [Nat.zero_add,bM,if_pos ⟨Nat.zero_le _,by simpa using hk⟩,Nat.sub_zero]
def pQ:=A2 @aSv <| A2 @aSw <| A2 @aSx <| A2 @aSy <| A2 @aVr <| A2 @aSz <| A2 @aSA <| A2 @aSB <| A2 @aSC <| A2 @aVs <| A2 @aVt <| A2 @aVu <| A2 @aVv <| A2 @aSD <| A2 @aVw <| A2 @aVx <| A2 @aVy <| A2 @aVz <| @sV
theorem sW (k:Nat) (bar:Bool) (own:List (Nat×Bool)) (g:OD) (want:Bool) (f:DO) (r:CD) (cm:Nat→Nat→Bool) (call:Call) (d:Dn) (lo:List Value) (tm:T Value) (df:Df) (h:Hp):qA (.uZ k bar own g want f r) cm call d lo tm df h=iB (bW g lo tm) want (qA (.aD k bar own f r) cm call d lo tm df h) (qA r cm call d (undef::lo) tm df h) .none:=rfl
def tT (v:Value) (n:Nat):Prop:=rW v (fun _ _ l _=>some (A0 l)) (fun l _=>some (A0 l)) none=some (A0 n)
noncomputable def fW (k f l b:Nat) (dv:Value):List Value:=[A0 k,A0 f,A0 l,A1 b,dv]
theorem aBK {call:Call} {cd:cE} {h:Hp} {k f l b size:Nat} {dv:Value} (hs:size<1000000) (hle:f+l≤size):Yields (dD Gn call cd [.agg ⟨fW k f l b dv⟩,A0 size] h) (QR (.bool true) h):=by
 refine aP rfl ?_
 have q0:Nat.blt f 0=false:=cI (Nat.zero_le _)
 have s1:gP .i64 (.ofNat size) (.ofNat l)=some (.int .i64 (aR .i64 (.ofNat (size - l)))):=jI _ (by omega)
 have s2:aR .i64 (.ofNat (size - l))=.ofNat (size - l):=bF (by omega)
 have q1:Nat.blt (size - l) f=false:=cI (by omega)
 simp only [↓aQ,A3,reduceCtorEq,oS,fW,cN,cP,q0,s1,s2,q1]
 refine .ret ?_
 simp only [↓aQ,A3,reduceCtorEq,eS]
 exact ⟨rfl,rfl⟩
def Td (call:Call):Prop:=∀ H k f l b size dv,size<1000000→f+l≤size→call 539 [.agg ⟨fW k f l b dv⟩,A0 size] H=.val (.bool true) H
theorem Xy {call:Call} {cd:cE} {h:Hp} (hin:Td call) {f l size:Nat} {dv:Value} (hs:size<1000000) (hle:f+l≤size) (hd:tT dv 0):Yields (dD Br call cd [.agg ⟨fW 1 f l 0 dv⟩,A0 size] h) (QR (.bool true) h):=by
 have e1:=fun H=>hin H 1 f l 0 size dv hs hle
 unfold fW at e1
 unfold tT at hd
 refine aP rfl ?_
 simp only [↓aQ,A3,reduceCtorEq,oS,fW,cN,cP,e1,hd]
 refine .ret ?_
 simp only [↓aQ,A3,reduceCtorEq,eS]
 exact ⟨rfl,rfl⟩
theorem Xz {call:Call} {cd:cE} {h:Hp} (hin:Td call) {f l size:Nat} {dv:Value} (hs:size<1000000) (hle:f+l≤size) (hd:tT dv l):Yields (dD Bs call cd [.agg ⟨fW 2 f l 0 dv⟩,A0 size] h) (QR (.bool true) h):=by
 have e1:=fun H=>hin H 2 f l 0 size dv hs hle
 unfold fW at e1
 unfold tT at hd
 refine aP rfl ?_
 simp only [↓aQ,A3,reduceCtorEq,oS,fW,cN,cP,e1,hd]
 refine .ret ?_
 simp only [↓aQ,A3,reduceCtorEq,eS]
 exact ⟨rfl,rfl⟩
theorem Ya {call:Call} {cd:cE} {h:Hp} {l b:Nat} {dv sv:Value} (hd:tT dv 0):Yields (dD Bt call cd [.agg ⟨fW 3 0 l b dv⟩,sv] h) (QR (.bool true) h):=by
 unfold tT at hd
 refine aP rfl ?_
 simp only [↓aQ,A3,reduceCtorEq,oS,fW,cN,cP,hd]
 refine .ret ?_
 simp only [↓aQ,A3,reduceCtorEq,eS]
 exact ⟨rfl,rfl⟩
theorem Yb {call:Call} {cd:cE} {h:Hp} {l:Nat} {dv sv:Value} (hd:tT dv l):Yields (dD Bu call cd [.agg ⟨fW 4 0 l 0 dv⟩,sv] h) (QR (.bool true) h):=by
 unfold tT at hd
 refine aP rfl ?_
 simp only [↓aQ,A3,reduceCtorEq,oS,fW,cN,cP,hd]
 refine .ret ?_
 simp only [↓aQ,A3,reduceCtorEq,eS]
 exact ⟨rfl,rfl⟩
theorem aBL {call:Call} {cd:cE} {h:Hp} {v:Value} (l:List Value) (hv:v=.agg ⟨l⟩):Yields (dD Gp call cd [v] h) (QR (A0 4) h):=by
 subst hv
 refine aP rfl ?_
 simp only [↓aQ,A3,reduceCtorEq,dQ]
 refine .ret ?_
 simp only [↓aQ,A3,reduceCtorEq,eS]
 exact ⟨rfl,rfl⟩
theorem aBM {call:Call} {cd:cE} {h:Hp} {v:Value} (l:List Value) (hv:v=.agg ⟨l⟩):Yields (dD Gr call cd [v] h) (QR (A0 4) h):=by
 subst hv
 refine aP rfl ?_
 simp only [↓aQ,A3,reduceCtorEq,dQ]
 refine .ret ?_
 simp only [↓aQ,A3,reduceCtorEq,eS]
 exact ⟨rfl,rfl⟩
theorem aBN {call:Call} {cd:cE} {h:Hp} {k f l b:Nat} {dv:Value} (hl:l<1000000):Yields (dD Gq call cd [.agg ⟨fW k f l b dv⟩] h) (QR (A0 (4+l)) h):=by
 refine aP rfl ?_
 have w1:aR .i64 (.ofNat (4+l))=.ofNat (4+l):=bF (by omega)
 simp only [↓aQ,A3,reduceCtorEq,oS,fW,dQ,w1]
 refine .ret ?_
 simp only [↓aQ,A3,reduceCtorEq,eS]
 exact ⟨rfl,rfl⟩
theorem aBO {call:Call} {cd:cE} {h:Hp} {k f l b:Nat} {dv:Value} (hl:l<1000000):Yields (dD Gs call cd [.agg ⟨fW k f l b dv⟩] h) (QR (A0 (2+l)) h):=by
 refine aP rfl ?_
 have w1:aR .i64 (.ofNat (2+l))=.ofNat (2+l):=bF (by omega)
 simp only [↓aQ,A3,reduceCtorEq,oS,fW,dQ,w1]
 refine .ret ?_
 simp only [↓aQ,A3,reduceCtorEq,eS]
 exact ⟨rfl,rfl⟩
theorem aFZ {call:Call} {cd:cE} {h:Hp} (hw:Wf h) {k f l b i:Nat} {dv:Value} (hf:f+i<1000000):Yields (dD Mm call cd [.agg ⟨fW k f l b dv⟩,A0 i] h) (QR (.agg ⟨[.bool true,A0 (f+i),A1 0]⟩) h):=by
 have hb:=hw.base
 refine aP rfl ?_
 have w1:aR .i64 (.ofNat (f+i))=.ofNat (f+i):=bF (by omega)
 simp only [↓aQ,A3,reduceCtorEq,oS,yX,fW,cN,cP,w1]
 refine .ret ?_
 rw [fI (b:=h.next+1) (by simp) (by rw [aJ,if_pos rfl]) (Nat.le_refl _) (Xx _ _ _ _)]
 exact .put rfl (by show h.base≤h.next+1;omega)
theorem aF0 {call:Call} {cd:cE} {h:Hp} (hw:Wf h) {k f l b:Nat} {dv iv:Value}:Yields (dD Mo call cd [.agg ⟨fW k f l b dv⟩,iv] h) (QR (.agg ⟨[.bool false,A0 0,A1 b]⟩) h):=by
 have hb:=hw.base
 refine aP rfl ?_
 simp only [↓aQ,A3,reduceCtorEq,oS,yX,fW,cN,cP]
 refine .ret ?_
 rw [fI (b:=h.next+1) (by simp) (by rw [aJ,if_pos rfl]) (Nat.le_refl _) (Xx _ _ _ _)]
 exact .put rfl (by show h.base≤h.next+1;omega)
theorem aF1 {call:Call} {cd:cE} {h:Hp} (hw:Wf h) {k f l b i x:Nat} {dv:Value} {xs:List Nat} (hd:Sl 1 h dv xs.length (dR xs)) (hx:xs[i]?=some x):Yields (dD Mp call cd [.agg ⟨fW k f l b dv⟩,A0 i] h) (QR (.agg ⟨[.bool false,A0 0,A1 x]⟩) h):=by
 have hb:=hw.base
 have hi:=(List.getElem?_eq_some_iff.1 hx).1
 obtain ⟨bb,oo,cp,rfl,hh⟩:=hd.pos (by omega)
 have hlt:=hh.lt hw
 obtain ⟨c1,m1,e1,cl1,ro1,hat1,hm1,hc1⟩:=hh.get (iH hx)
 have q1:Nat.blt i xs.length=true:=bU hi
 have q2:Nat.blt (oo+i*1) m1=true:=bU (by omega)
 have q3:c1.get (path (oo+i*1))=some (A1 x):=by rw [Nat.mul_one];exact hc1
 have n1:(h.next=bb)=False:=by simp;omega
 have n2:(h.next+1=bb)=False:=by simp;omega
 refine aP rfl ?_
 simp only [↓aQ,A3,reduceCtorEq,oS,yX,fW,cN,cP,q1,q2,q3,n1,n2,hat1]
 refine .ret ?_
 rw [fI (b:=h.next+1) (by simp) (by rw [aJ,if_pos rfl]) (Nat.le_refl _) (Xx _ _ _ _)]
 exact .put rfl (by show h.base≤h.next+1;omega)
theorem aF2 {call:Call} {cd:cE} {h:Hp} (hw:Wf h) {k f l b i x:Nat} {dv:Value} {xs:List Nat} (hf:f+i<1000000) (hd:Sl 1 h dv xs.length (dR xs)) (hx:xs[i]?=some x):Yields (dD Mn call cd [.agg ⟨fW k f l b dv⟩,A0 i] h) (QR (.agg ⟨[.bool true,A0 (f+i),A1 x]⟩) h):=by
 have hb:=hw.base
 have hi:=(List.getElem?_eq_some_iff.1 hx).1
 obtain ⟨bb,oo,cp,rfl,hh⟩:=hd.pos (by omega)
 have hlt:=hh.lt hw
 obtain ⟨c1,m1,e1,cl1,ro1,hat1,hm1,hc1⟩:=hh.get (iH hx)
 have q1:Nat.blt i xs.length=true:=bU hi
 have q2:Nat.blt (oo+i*1) m1=true:=bU (by omega)
 have q3:c1.get (path (oo+i*1))=some (A1 x):=by rw [Nat.mul_one];exact hc1
 have n1:(h.next=bb)=False:=by simp;omega
 have n2:(h.next+1=bb)=False:=by simp;omega
 have w1:aR .i64 (.ofNat (f+i))=.ofNat (f+i):=bF (by omega)
 have k1:Nat.beq h.next (h.next+1)=false:=dO (by omega)
 have k2:Nat.beq bb (h.next+1)=false:=dO (by omega)
 have k3:jN (h.next+1+1) [] (h.next+1)=[h.next+1]:=kQ (by omega)
 have k4:∀ l,below h.base [h.next+1] l=l:=pY (by omega)
 refine aP rfl ?_
 simp only [↓aQ,A3,reduceCtorEq,oS,yX,fW,cN,cP,q1,q2,q3,n1,n2,hat1,w1,k1,k2,k3,k4]
 refine .ret ?_
 rw [fI (b:=h.next+1) (by simp) (by first|rw [aJ,if_pos rfl]|rw [dM,aJ,if_pos rfl]) (Nat.le_refl _) (Xx _ _ _ _)]
 exact ⟨rfl,rfl⟩
structure EqR (v0:Value) (H0:Hp) (v:Value) (H:Hp):Prop where
 eq:v=v0
 hp:H=H0
theorem EqR.get {r:fV} {v0:Value} {H0:Hp} (h:Yields r (EqR v0 H0)):r=.val v0 H0:=by
 obtain ⟨v,H,e,rfl,rfl⟩:=h.get
 exact e
noncomputable def opT (k:Nat):TypeId:=if k=1 then 137 else if k=2 then 138 else if k=3 then 139 else 140
theorem of_run {call:Call} {cd:cE} {h:Hp} {k f l b:Nat} {dv:Value} (hk:k=1∨k=2∨k=3∨k=4):dD aKk call cd [.agg ⟨fW k f l b dv⟩] h=.val (.iface (opT k) (.agg ⟨fW k f l b dv⟩)) (h.new (aT (fW k f l b dv) 5 68 true)):=by
 refine EqR.get ?_
 rcases hk with rfl|rfl|rfl|rfl
 · refine aP rfl ?_
   simp only [↓aQ,A3,reduceCtorEq,oS,fW,dQ,Lp]
   refine .ret ?_
   simp only [↓aQ,A3,reduceCtorEq,eS]
   exact ⟨rfl,rfl⟩
 · have q1:Nat.beq 2 1=false:=rfl
   refine aP rfl ?_
   simp only [↓aQ,A3,reduceCtorEq,oS,fW,dQ,Lp,q1]
   refine .ret ?_
   simp only [↓aQ,A3,reduceCtorEq,eS]
   exact ⟨rfl,rfl⟩
 · have q1:Nat.beq 3 1=false:=rfl
   have q2:Nat.beq 3 2=false:=rfl
   refine aP rfl ?_
   simp only [↓aQ,A3,reduceCtorEq,oS,fW,dQ,Lp,q1,q2]
   refine .ret ?_
   simp only [↓aQ,A3,reduceCtorEq,eS]
   exact ⟨rfl,rfl⟩
 · have q1:Nat.beq 4 1=false:=rfl
   have q2:Nat.beq 4 2=false:=rfl
   have q3:Nat.beq 4 3=false:=rfl
   refine aP rfl ?_
   simp only [↓aQ,A3,reduceCtorEq,oS,fW,dQ,Lp,q1,q2,q3]
   refine .ret ?_
   simp only [↓aQ,A3,reduceCtorEq,eS]
   exact ⟨rfl,rfl⟩
def OfC (call:Call):Prop:=∀ H k f l b dv,k=1∨k=2∨k=3∨k=4→call 30 [.agg ⟨fW k f l b dv⟩] H=.val (.iface (opT k) (.agg ⟨fW k f l b dv⟩)) (H.new (aT (fW k f l b dv) 5 68 true))
noncomputable def tbR:List (Nat×Nat):=[(137,537),(138,541),(139,544),(140,547),(141,550)]
noncomputable def tbY:List (Nat×Nat):=[(137,538),(138,542),(139,545),(140,548),(141,551)]
noncomputable def tbK:List (Nat×Nat):=[(137,536),(138,540),(139,543),(140,546),(141,549)]
def yY (o:eJ):Nat:=if o.kind=2 then 4+o.len else if o.kind=4 then 2+o.len else 4
def aKp (call:Call):Prop:=∀ H o size dv,eJ.Rt o size→size<1000000→tT dv o.data.length→aFK call tbR (.iface (opT o.kind) (.agg ⟨fW o.kind o.from_ o.len o.b dv⟩)) [A0 size] H=.val (.bool true) H
def aSF (call:Call):Prop:=∀ H o size dv i,Wf H→eJ.Rt o size→size<1000→i<o.len→o.len<1000→Sl 1 H dv o.data.length (dR o.data)→aFK call tbY (.iface (opT o.kind) (.agg ⟨fW o.kind o.from_ o.len o.b dv⟩)) [A0 i] H=.val (.agg ⟨fF (Mf o i)⟩) H
def aQX (call:Call):Prop:=∀ H o size dv,eJ.Rt o size→o.len<1000→aFK call tbK (.iface (opT o.kind) (.agg ⟨fW o.kind o.from_ o.len o.b dv⟩)) [] H=.val (A0 (yY o)) H
theorem gD.eH {h H:Hp} {v:Value} {l:List eJ} {P:Nat→Prop} (hr:gD h v l P) (hw:Wf h) (e:Fr (fun _=>False) h H):gD H v l P:=by
 rcases hr with h1|⟨b,o,c,rfl,hP,cc,m,e',cl,ro,hat,hm,hx⟩
 · exact .inl h1
 refine .inr ⟨b,o,c,rfl,hP,cc,m,e',cl,ro,by rw [e.at_ b (hw.lt hat) fun h=>h];exact hat,hm,fun i x hi=>?_⟩
 obtain ⟨dv,h1,h2,h3⟩:=hx i x hi
 exact ⟨dv,h1,h2.bT fun c h0 hc=>e.at_ c (h2.lt hw h0 hc) fun h=>h,h3⟩
theorem gD.at_ {h:Hp} {v:Value} {l:List eJ} {P:Nat→Prop} (hr:gD h v l P) {i:Nat} {x:eJ} (hx:l[i]?=some x):∃ b o c cc m e cl ro dv,v=cB b o l.length c∧h.at b=some (.row cc m e cl ro)∧o+i*5+5≤m∧cR cc (o+i*5) 5 []=some (fW x.kind x.from_ x.len x.b dv)∧Sl 1 h dv x.data.length (dR x.data):=by
 have hi:=(List.getElem?_eq_some_iff.1 hx).1
 rcases hr with ⟨rfl,_⟩|⟨b,o,c,rfl,hP,cc,m,e',cl,ro,hat,hm,h⟩
 · simp at hi
 obtain ⟨dv,h1,h2,h3⟩:=h i x hx
 exact ⟨b,o,c,cc,m,e',cl,ro,dv,rfl,hat,by omega,dV (vs:=fW x.kind x.from_ x.len x.b dv) fun k hk=>h1 k hk,h2⟩
theorem Sl.aVA {s:Nat} {h:Hp} {v:Value} {n:Nat} {vs:List Value} (ho:Sl s h v n vs):tT v n:=ho.len
theorem aBP {P:Nat→Prop} {H Y:Hp} (hf:Fr P H Y):aS Y H.base H.log=Y:=by
 rw [← hf.base,← hf.log];exact uL Y
theorem aD9 {P:Nat→Prop} {H:Hp} (hw:Wf H) (r:dY) (o:Option dY):Fr P H ((H.new r).put H.next o):=(Fr.new r).cJ o (fun h=>absurd h (Nat.lt_irrefl _)) hw.base
theorem aKq {H:Hp} (hw:Wf H) (r:dY) (o:Option dY):Wf ((H.new r).put H.next o):=(hw.new r).put (by rw [aF];omega) o
theorem s6 {k f l b:Nat} {h:Hp} {dv:Value} {n:Nat} {vs:List Value} (hd:Sl 1 h dv n vs):bY (fW k f l b dv)=true:=by
 obtain ⟨_,⟨_,rfl|⟨b,o,c,rfl⟩⟩|⟨b,o,c,rfl,_⟩⟩:=hd<;>rfl
noncomputable def mm2 (mx:Bool) (kd:IntKind) (a b:Int):Option Value:=some (.int kd (bif (aBp (uB b a) (uB a b) mx) then b else a))
theorem aYK (mx:Bool) (x y:OD) (lo:List Value) (tm:T Value):Hm mx [x,y] lo tm=jQ (bW x lo tm) (fun kd a=>jQ (bW y lo tm) (fun _ b=>mm2 mx kd a b) none) none:=by
 show jQ (bW x lo tm) (fun kd a=>jQ (bW y lo tm) (fun _ b=>nU kd (bif (Bool.rec (motive:=fun _=>Bool) (uB b a) (uB a b) mx) then b else a)) none) none=_
 simp only [jC];rfl
theorem aSG (kd:IntKind) (a b:Nat):mm2 false kd (.ofNat a) (.ofNat b)=some (.int kd (.ofNat (min a b))):=by
 show some (Value.int kd (bif Nat.blt b a then _ else _))=_
 by_cases h:b<a
 · rw [bU h,cond_true,Nat.min_eq_right (by omega)]
 · rw [cI (by omega),cond_false,Nat.min_eq_left (by omega)]
theorem aSH (kd:IntKind) (a b:Nat):mm2 true kd (.ofNat a) (.ofNat b)=some (.int kd (.ofNat (max a b))):=by
 show some (Value.int kd (bif Nat.blt a b then _ else _))=_
 by_cases h:a<b
 · rw [bU h,cond_true,Nat.max_eq_right (by omega)]
 · rw [cI (by omega),cond_false,Nat.max_eq_left (by omega)]
noncomputable def cQ (li:Bool) (n m:Nat) (ov:Value):List Value:=[.bool li,A0 n,A0 m,ov]
structure CkS (h1:Hp) (b0:Nat) (ov:Value) (ops:List eJ) (m:Nat) (i:Nat) (tm:T Value) (df:Df) (H:Hp):Prop where
 df:df=[]
 t1:tm.get [true]=some (bE b0 0)
 t30:tm.get [false,false,false,false]=some ov
 t31:tm.get [true,true,true,true,true]=some (A0 ops.length)
 t32:tm.get [false,true,true,true,true]=some (A0 i)
 t4:tm.get [false,true]=some (A0 (m - iS (ops.take i)))
 wf:Wf H
 fr:Fr (fun _=>False) h1 H
theorem aF3 {call:Call} {cd:cE} {h:Hp} {n m:Nat} {ops:List eJ} {ov:Value} {P:Nat→Prop} {li:Bool} (hw:Wf h) (hof:OfC call) (hri:aKp call) (hp:kF.Ok n m ops) (ho:gD h ov ops P) :
 Yields (dD Mj call cd [.agg ⟨cQ li n m ov⟩] h) (QR (.tuple ⟨[A0 ops.length,A0 0]⟩) h):=by
 have hl:=ho.len
 have hnum:=hp.num
 have hn:=hp.n
 have hm:=hp.m
 have q1:Nat.blt (min n m) 0=false:=cI (Nat.zero_le _)
 have q2:Nat.blt 65536 (max n m)=false:=cI (by omega)
 have q3:Nat.blt 4096 ops.length=false:=cI (by omega)
 refine aP rfl ?_
 simp only [↓aQ,A3,reduceCtorEq,pQ,cQ,dQ,aYK,aSG,aSH,q1,q2,q3,hl,gM]
 have hw1:Wf (h.new (aT [.bool li,A0 n,A0 m,ov] 4 30 true)):=hw.new _
 have f1:Fr (fun _=>False) h (h.new (aT [.bool li,A0 n,A0 m,ov] 4 30 true)):=Fr.new _
 have a1:(h.new (aT [.bool li,A0 n,A0 m,ov] 4 30 true)).at h.next=some (aT [.bool li,A0 n,A0 m,ov] 4 30 true):=by rw [aM,if_pos rfl]
 have n1:(h.new (aT [.bool li,A0 n,A0 m,ov] 4 30 true)).next=h.next+1:=rfl
 have ho1:=ho.eH hw f1
 generalize (h.new (aT [.bool li,A0 n,A0 m,ov] 4 30 true))=h1 at *
 refine bC.lp (id:=0) (P:=CkS h1 h.next ov ops m ops.length) ?_ ?_
 · refine cT (n:=ops.length) (by omega) (CkS h1 h.next ov ops m) (fun i tm df H hi hI=>?_) (fun tm df H hI=>?_) ?_
   · obtain ⟨rfl,t1,t30,t31,t32,t4,wf,fr⟩:=hI
     obtain ⟨x,hx⟩:∃ x,ops[i]?=some x:=⟨ops[i],List.getElem?_eq_getElem hi⟩
     have hrt:=hp.rt x (List.mem_of_getElem? hx)
     obtain ⟨b,o,c,cc,mm,e,cl,ro,dv,rfl,hat,hmm,hld,hdv⟩:=(ho1.eH hw1 fr).at_ hx
     have e1:Nat.blt i ops.length=true:=bU hi
     have e2:Nat.ble (o+i*5+5) mm=true:=cX hmm
     have e3:=s6 (k:=x.kind) (f:=x.from_) (l:=x.len) (b:=x.b) hdv
     have hof':=fun H=>hof H x.kind x.from_ x.len x.b dv hrt.k
     have hri':=fun H=>hri H x n dv hrt (by omega) hdv.aVA
     unfold tbR at hri'
     have hle:=zT hx
     have hout:=hp.out
     have hpos:=hrt.pos
     have nx:=fr.next
     have hb:=wf.base
     have aH:H.at h.next=some (aT [.bool li,A0 n,A0 m,(cB b o ops.length c)] 4 30 true):=by rw [fr.at_ _ (by omega) fun h=>h];exact a1
     have m1:(H.next=h.next)=False:=by simp;omega
     have m2:(H.next+1=h.next)=False:=by simp;omega
     have m3:(H.next+1=H.next)=False:=by simp
     have hlg:∀ r o,Hp.log (Hp.put (H.new r) H.next o)=H.log:=fun r o=>kM (by rw [dX];exact hb)
     have htk:iS (ops.take (i+1))=iS (ops.take i)+x.len:=by rw [qC hx,uP]
     generalize hL:iS (ops.take i)=L at *
     have g1:Nat.blt x.len 1=false:=cI (by omega)
     have g2:Nat.blt (m - L) x.len=false:=cI (by omega)
     have s1:gP .i64 (.ofNat (m - L)) (.ofNat x.len)=some (.int .i64 (aR .i64 (.ofNat (m - L - x.len)))):=jI _ (by omega)
     have s2:aR .i64 (.ofNat (m - L - x.len))=.ofNat (m - L - x.len):=bF (by omega)
     have w1:aR .i64 (.ofNat (i+1))=.ofNat (i+1):=bF (by omega)
     unfold fW at hld e3 hof' hri'
     unfold yW
     simp only [↓aQ,A3,reduceCtorEq,pQ,oS,sW,t1,t30,t31,t32,t4,e1,e2,e3,hat,hld,hof',hri',Ln,aH,m1,m2,m3,hlg,g1,g2,s1,s2,w1]
     rw [aBP (P:=fun _=>False) ((aD9 wf _ _).dE _)]
     refine .go ⟨rfl,by simp [t1],by simp [t30],by simp [t31],by simp,?_,(aKq wf _ _).new _,fr.trans ((aD9 wf _ _).dE _) fun _ _ h=>h⟩
     rw [htk,← Nat.sub_sub]
     simp [T.aB]
   · obtain ⟨rfl,t1,t30,t31,t32,t4,wf,fr⟩:=hI
     have e1:Nat.blt ops.length ops.length=false:=cI (Nat.le_refl _)
     unfold yW
     simp only [↓aQ,A3,reduceCtorEq,t31,t32,e1]
     exact .ex ⟨rfl,rfl,by simp [t1],by simp [t30],by simp [t31],by simp [t32],by simp [t4],wf,fr⟩
   · exact ⟨rfl,by simp,by simp,by simp,by simp,by simp [Xu],hw1,Fr.refl _ _⟩
 rintro tm df H ⟨rfl,t1,t30,t31,t32,t4,wf,fr⟩
 rw [List.take_length,hp.out,Nat.sub_self] at t4
 have e0:Nat.blt 0 0=false:=rfl
 have aH:H.at h.next=some (aT [.bool li,A0 n,A0 m,ov] 4 30 true):=by rw [fr.at_ _ (by omega) fun h=>h];exact a1
 simp only [↓aQ,A3,reduceCtorEq,pQ,t1,t4,e0,aH,hl]
 refine .ret ?_
 simp only [↓aQ,A3,reduceCtorEq,iO]
 exact ⟨rfl,by rw [fr.log,f1.log]⟩
def aBQ (call:Call):Prop:=∀ H n m ops ov P li,Wf H→kF.Ok n m ops→gD H ov ops P→call 54 [.agg ⟨cQ li n m ov⟩] H=.val (.tuple ⟨[A0 ops.length,A0 0]⟩) H
def oH (ops:List eJ):Nat:=(ops.map yY).foldl (·+·) 0
theorem aBR (ops:List eJ) (o:eJ):oH (ops++[o])=oH ops+yY o:=by simp [oH]
structure CoS (h1:Hp) (b0:Nat) (ov:Value) (ops:List eJ) (i:Nat) (tm:T Value) (df:Df) (H:Hp):Prop where
 df:df=[]
 t7:tm.get [true,true,true]=some ov
 t8:tm.get [false,true,true]=some (A0 ops.length)
 t9:tm.get [true,false,true]=some (A0 i)
 t3:tm.get [true,true]=some (A0 (oH (ops.take i)))
 bd:oH (ops.take i)≤i*200
 wf:Wf H
 fr:Fr (fun _=>False) h1 H
theorem aKr {call:Call} {cd:cE} {h:Hp} {n m:Nat} {ops:List eJ} {ov:Value} {P:Nat→Prop} {li:Bool} (hw:Wf h) (hof:OfC call) (hco:aQX call) (hp:kF.Ok n m ops) (ho:gD h ov ops P) :
 Yields (dD Tc call cd [.agg ⟨cQ li n m ov⟩] h) (QR (A0 (oH ops)) h):=by
 have hl:=ho.len
 have hnum:=hp.num
 have hm:=hp.m
 refine aP rfl ?_
 simp only [↓aQ,A3,reduceCtorEq,pQ,cQ,dQ,hl,gM]
 have hw1:Wf (h.new (aT [.bool li,A0 n,A0 m,ov] 4 30 true)):=hw.new _
 have f1:Fr (fun _=>False) h (h.new (aT [.bool li,A0 n,A0 m,ov] 4 30 true)):=Fr.new _
 have ho1:=ho.eH hw f1
 generalize (h.new (aT [.bool li,A0 n,A0 m,ov] 4 30 true))=h1 at *
 refine bC.lp (id:=0) (P:=CoS h1 h.next ov ops ops.length) ?_ ?_
 · refine cT (n:=ops.length) (by omega) (CoS h1 h.next ov ops) (fun i tm df H hi hI=>?_) (fun tm df H hI=>?_) ?_
   · obtain ⟨rfl,t7,t8,t9,t3,bd,wf,fr⟩:=hI
     obtain ⟨x,hx⟩:∃ x,ops[i]?=some x:=⟨ops[i],List.getElem?_eq_getElem hi⟩
     have hrt:=hp.rt x (List.mem_of_getElem? hx)
     obtain ⟨b,o,c,cc,mm,e,cl,ro,dv,rfl,hat,hmm,hld,hdv⟩:=(ho1.eH hw1 fr).at_ hx
     have e1:Nat.blt i ops.length=true:=bU hi
     have e2:Nat.ble (o+i*5+5) mm=true:=cX hmm
     have e3:=s6 (k:=x.kind) (f:=x.from_) (l:=x.len) (b:=x.b) hdv
     have hle:=zT hx
     have hout:=hp.out
     have hlx:x.len≤100:=by omega
     have hof':=fun H=>hof H x.kind x.from_ x.len x.b dv hrt.k
     have hco':=fun H=>hco H x n dv hrt (by omega)
     unfold tbK at hco'
     have hb:=wf.base
     have m3:(H.next+1=H.next)=False:=by simp
     have htk:oH (ops.take (i+1))=oH (ops.take i)+yY x:=by rw [qC hx,aBR]
     have hcb:yY x≤104:=by
      unfold yY
      split
      · omega
      split<;>omega
     generalize hL:oH (ops.take i)=L at *
     have w0:aR .i64 (.ofNat (L+yY x))=.ofNat (L+yY x):=bF (by omega)
     have w1:aR .i64 (.ofNat (i+1))=.ofNat (i+1):=bF (by omega)
     unfold fW at hld e3 hof' hco'
     unfold Bq
     simp only [↓aQ,A3,reduceCtorEq,oS,t7,t8,t9,t3,e1,e2,e3,hat,hld,hof',hco',Ln,m3,w0,w1]
     exact .go ⟨rfl,by simp [t7],by simp [t8],by simp,by rw [htk];simp [T.aB],by rw [htk];omega,(aKq wf _ _).new _,fr.trans ((aD9 wf _ _).dE _) fun _ _ h=>h⟩
   · obtain ⟨rfl,t7,t8,t9,t3,bd,wf,fr⟩:=hI
     have e1:Nat.blt ops.length ops.length=false:=cI (Nat.le_refl _)
     unfold Bq
     simp only [↓aQ,A3,reduceCtorEq,t8,t9,e1]
     exact .ex ⟨rfl,rfl,by simp [t7],by simp [t8],by simp [t9],by simp [t3],bd,wf,fr⟩
   · exact ⟨rfl,by simp,by simp,by simp,by simp [oH],by simp [oH],hw1,Fr.refl _ _⟩
 rintro tm df H ⟨rfl,t7,t8,t9,t3,bd,wf,fr⟩
 rw [List.take_length] at t3
 simp only [↓aQ,A3,reduceCtorEq,t3]
 refine .ret ?_
 simp only [↓aQ,A3,reduceCtorEq,eS]
 exact ⟨rfl,by rw [fr.log,f1.log]⟩
def aBS (call:Call):Prop:=∀ H n m ops ov P li,Wf H→kF.Ok n m ops→gD H ov ops P→call 11 [.agg ⟨cQ li n m ov⟩] H=.val (A0 (oH ops)) H
def pN (h:Hp) (v:Value) (s cap n:Nat) (vs:List Value):Prop:=∃ b c e cl,v=cB b 0 n cap∧h.at b=some (.row c (cap*s) e cl false)∧n≤cap∧vs.length=n*s∧∀ k,k<n*s→c.get (path k)=vs[k]?
theorem pN.sl {h:Hp} {v:Value} {s cap n:Nat} {vs:List Value} (hc:pN h v s cap n vs):Sl s h v n vs:=by
 obtain ⟨b,c,e,cl,rfl,hat,hl,hv,hg⟩:=hc
 refine ⟨hv,?_⟩
 by_cases h0:n=0
 · exact .inl ⟨h0,.inr ⟨b,0,cap,by rw [h0]⟩⟩
 · exact .inr ⟨b,0,cap,rfl,by omega,c,cap*s,e,cl,false,hat,by rw [hv,Nat.zero_add];exact Nat.mul_le_mul_right _ hl,fun k hk=>by rw [Nat.zero_add];exact hg k (by rw [← hv];exact hk)⟩
theorem pN.form {h:Hp} {v:Value} {s cap n:Nat} {vs:List Value} (hc:pN h v s cap n vs):∃ b,v=cB b 0 n cap:=by
 obtain ⟨b,c,e,cl,rfl,_⟩:=hc
 exact ⟨b,rfl⟩
theorem pN.bT {h H:Hp} {v:Value} {s cap n:Nat} {vs:List Value} (hc:pN h v s cap n vs) (e:∀ c,gY v c→H.at c=h.at c):pN H v s cap n vs:=by
 obtain ⟨b,c,e',cl,rfl,hat,hl,hg⟩:=hc
 exact ⟨b,c,e',cl,rfl,by rw [e b ⟨_,_,_,rfl⟩];exact hat,hl,hg⟩
theorem pN.lt {h:Hp} {v:Value} {s cap n:Nat} {vs:List Value} (hc:pN h v s cap n vs) (hw:Wf h) {c:Nat} (hb:gY v c):c<h.next:=by
 obtain ⟨b,c',e',cl,rfl,hat,hl,hg⟩:=hc
 rw [fB hb]
 exact hw.lt hat
theorem yZ {e s:Nat} {h:Hp} {v y:Value} {cap n:Nat} {vs new:List Value} (hw:Wf h) (hc:pN h v s cap n vs) (hcap:cap<1000000) (hlt:n<cap) (hy:Sl s h y 1 new) (hone:bY new=true) (hb:∀ c,gY v c→h.base≤c) :
 ∃ v' H,mQ e s v y h=.val v' H∧pN H v' s cap (n+1) (vs++new)∧Wf H∧H.next=h.next∧Fr (gY v) h H∧∀ c,gY v' c→gY v c:=by
 obtain ⟨yb,yo,yc,rfl,hhas⟩:=hy.pos (by omega)
 have hnl:new.length=1*s:=hy.1
 obtain ⟨b,c,e',cl,rfl,hat,hl,hvl,hg⟩:=hc
 have hcs:=hhas.cells (n:=1*s) hnl.symm
 have ho:eU cap=false:=eN (by unfold eY;omega)
 have hs:sure cap=cap:=by unfold sure;rw [ho];rfl
 have hblt:=hw.lt hat
 have hbb:=hb b ⟨_,_,_,rfl⟩
 have hle:(n+1)*s≤cap*s:=Nat.mul_le_mul_right _ hlt
 rw [Nat.add_mul] at hle
 have e1:mQ e s (cB b 0 n cap) (cB yb yo 1 yc) h=.val (cB b 0 (n+1) cap) (h.put b (some (.row (aL new (n*s) c fun t=>t) (cap*s) e' cl false))):=by
  unfold mQ
  rw [Lf,show Nat.beq 1 0=false from rfl,cond_false,hcs,rH,yH]
  unfold oM
  rw [bD,show Nat.add n 1=n+1 from rfl,hs,cX (by omega),cond_true,show Nat.beq 1 0=false from rfl,cond_false,Dt,show Nat.add 0 (Nat.mul n s)=n*s by show 0+n*s=_;omega,hat,rH,Az,cond_false,hone,cond_true,hnl,cX (by omega),cond_true]
 refine ⟨_,_,e1,⟨b,_,e',cl,rfl,by rw [aJ,if_pos rfl],hlt,by rw [List.length_append,hvl,hnl,Nat.add_mul],fun k hk=>?_⟩,hw.put hblt _,rfl,(Fr.refl _ _).cJ _ (fun _=>⟨_,_,_,rfl⟩) hbb,fun c' hc'=>by rw [fB hc'];exact ⟨_,_,_,rfl⟩⟩
 rw [Nat.add_mul] at hk
 rw [bM,hnl]
 by_cases h1:k<n*s
 · rw [if_neg (by omega),List.getElem?_append_left (by rw [hvl];exact h1)]
   exact hg k h1
 · rw [if_pos ⟨by omega,by omega⟩,List.getElem?_append_right (by rw [hvl];omega),hvl]
theorem gD.gV {h H:Hp} {v:Value} {l:List eJ} {P Q:Nat→Prop} (hr:gD h v l P) (hw:Wf h) (e:Fr Q h H) (hQ:∀ k,Q k→h.next≤k):gD H v l P :=
 hr.eH hw ⟨e.base,e.log,e.next,fun b hb _=>e.at_ b hb fun hq=>by have:=hQ b hq;omega⟩
theorem Sl.gV {s:Nat} {h H:Hp} {v:Value} {n:Nat} {vs:List Value} {Q:Nat→Prop} (ho:Sl s h v n vs) (hw:Wf h) (e:Fr Q h H) (hQ:∀ k,Q k→h.next≤k):Sl s H v n vs :=
 ho.bT fun c h0 hc=>e.at_ c (ho.lt hw h0 hc) fun hq=>by have:=hQ c hq;have:=ho.lt hw h0 hc;omega
theorem eP {H:Hp} (hw:Wf H) (Z V:List Value) (n:Nat) (e:TypeId):∃ X,Hp.put (H.new (aT Z n e true)) H.next (some (.row (aL V 0 (aL Z 0 .nil fun t=>t) fun t=>t) n e true false))=X∧Wf X∧Fr (fun _=>False) H X∧X.at H.next=some (.row (aL V 0 (aL Z 0 .nil fun t=>t) fun t=>t) n e true false)∧X.next=H.next+1 :=
 ⟨_,rfl,aKq hw _ _,aD9 hw _ _,by rw [aJ,if_pos rfl],rfl⟩
def Ib (s:Nat) (vs:List Value) (n:Nat) (h:Hp) (r:Value) (H:Hp):Prop:=∃ v,r=.tuple ⟨[v,A0 0]⟩∧Sl s H v n vs∧(∃ b,v=cB b 0 n n)∧(∀ c,gY v c→h.next≤c∧c<H.next)∧Wf H∧Fr (fun _=>False) h H
theorem Mq (a b c x y z:Value):over [a,b,c] 0 [x,y,z]=[x,y,z]:=rfl
theorem aKs (e:TypeId) (a b c:Value) (y:OD) (x:OD) (lo:List Value) (tm:T Value) (h:Hp) (call:Call) (sz:Nat):At e [a,b,c] sz x y call lo tm h=lP (bW x lo tm) (fun n=>lP (bW y lo tm) (fun k=>bif Nat.ble n k then bif Nat.ble (sz*k) 16777216 then bif Nat.ble k 16777216 then .val (cB h.next 0 n k) (h.new (aT (dU k [a,b,c]) (dU k [a,b,c]).length e true)) else .none else .none else .none) .none) .none:=by
 unfold At
 simp only [eG,bD,eF]
 rfl
theorem zV (n:Nat) (z:List Value):(dU n z).length=n*z.length:=by
 induction n with
 | zero=>show 0=0*z.length;omega
 | succ n ih=>show (z++dU n z).length=_;rw [List.length_append,ih,Nat.add_mul];omega
theorem Mr {h:Hp} {l:List Value} {e:TypeId} {s cap:Nat} (hl:l.length=cap*s):pN (h.new (aT l l.length e true)) (cB h.next 0 0 cap) s cap 0 [] :=
 ⟨h.next,_,e,true,rfl,by rw [aM,if_pos rfl,← hl];rfl,Nat.zero_le _,by rw [Nat.zero_mul];rfl,fun k hk=>by omega⟩
structure Sy0 (bo cap:Nat) (l0:List SymM) (o:eJ) (tm0:T Value) (h1:Hp) (k:Nat) (tm:T Value) (df:Df) (H:Hp):Prop where
 df:df=[]
 t32:tm.get [false,true,true,true,true]=some (A0 o.len)
 t33:tm.get [true,false,true,true,true]=some (A0 k)
 t6:∃ ov,tm.get [false,false]=some ov∧pN H ov 3 cap (l0.length+k) (gH (l0++(oR o).take k))∧∀ c,gY ov c→c=bo
 pP:∀ p,p≠[false,false]→p≠[false,false,true]→p≠[true,false,true,true,true]→p≠[false,false,true,true,true]→tm.get p=tm0.get p
 wf:Wf H
 fr:Fr (fun k=>k=bo) h1 H
theorem aSI {call:Call} {bo cap n:Nat} {l0:List SymM} {o:eJ} {dv:Value} {tm0:T Value} {h1:Hp} (hsy:aSF call) (hw1:Wf h1) (hbo:h1.base≤bo) (hrt:eJ.Rt o n) (hn:n<1000) (hcap:cap<1000) (hle:l0.length+o.len≤cap) (h9:tm0.get [true,false,true]=some (.iface (opT o.kind) (.agg ⟨fW o.kind o.from_ o.len o.b dv⟩))) (hdv:∀ H,Wf H→Fr (fun k=>k=bo) h1 H→Sl 1 H dv o.data.length (dR o.data)) {tm:T Value} {df:Df} {H:Hp} (hst:Sy0 bo cap l0 o tm0 h1 0 tm df H) :
 bC (iP (.loop pA) call tm df H) (fun ex tm df H=>ex=.exit 2∧Sy0 bo cap l0 o tm0 h1 o.len tm df H):=by
 refine cT (n:=o.len) (by omega) (Sy0 bo cap l0 o tm0 h1) (fun k tm df H hk hI=>?_) (fun tm df H hI=>?_) hst
 · obtain ⟨rfl,t32,t33,⟨ov,t6,hcg,hbl⟩,pP,wf,fr⟩:=hI
   have t9:tm.get [true,false,true]=some (.iface (opT o.kind) (.agg ⟨fW o.kind o.from_ o.len o.b dv⟩)):=by rw [pP _ (by decide) (by decide) (by decide) (by decide)];exact h9
   have e0:=hsy H o n dv k wf hrt hn hk (by omega) (hdv H wf fr)
   unfold tbY at e0
   generalize hs:Mf o k=s at *
   have e1:Nat.blt k o.len=true:=bU hk
   have w1:aR .i64 (.ofNat (k+1))=.ofNat (k+1):=bF (by omega)
   have hbb:=wf.base
   have hcg':pN (H.new (aT (fF s) 3 143 true)) ov 3 cap (l0.length+k) (gH (l0++(oR o).take k)):=hcg.bT fun c hc=>by rw [aM,if_neg (by have:=hcg.lt wf hc;omega)]
   have hsl:Sl 3 (H.new (aT (fF s) 3 143 true)) (cB H.next 0 1 1) 1 (fF s):=⟨rfl,.inr ⟨_,_,_,rfl,by omega,fS (n:=3) (e:=143) (cl:=true) (by rw [aM,if_pos rfl]) (Nat.le_refl _)⟩⟩
   obtain ⟨v',H',ea,hc2,wf2,nx2,fr2,hb2⟩:=yZ (e:=143) (wf.new _) hcg' (by omega) (by omega) hsl rfl fun c hc=>by rw [hbl c hc,dX,fr.base];exact hbo
   unfold fF at e0 ea
   unfold pA
   simp only [↓aQ,A3,reduceCtorEq,yX,t6,t9,t32,t33,e1,w1,Ln,e0,Mq,gE,ea]
   refine .go ⟨rfl,by simp [t32],by simp,⟨v',by simp,?_,fun c hc=>hbl c (hb2 c hc)⟩,fun p h1 h2 h3 h4=>?_,wf2,(fr.dE _).trans fr2 fun c _ hc=>hbl c hc⟩
   · rw [qC (Mg hk),hs,← List.append_assoc,yU,Xw]
     exact hc2
   · rw [T.aB,if_neg (fun e=>h3 e.symm),T.aB,if_neg (fun e=>h1 e.symm),T.aB,if_neg (fun e=>h2 e.symm),T.aB,if_neg (fun e=>h4 e.symm)]
     exact pP p h1 h2 h3 h4
 · obtain ⟨rfl,t32,t33,⟨ov,t6,hcg,hbl⟩,pP,wf,fr⟩:=hI
   have e1:Nat.blt o.len o.len=false:=cI (Nat.le_refl _)
   unfold pA
   simp only [↓aQ,A3,reduceCtorEq,t32,t33,e1]
   refine .ex ⟨rfl,rfl,by simp [t32],by simp [t33],⟨ov,by simp [t6],hcg,hbl⟩,fun p h1 h2 h3 h4=>?_,wf,fr⟩
   rw [T.aB,if_neg (fun e=>h4 e.symm)]
   exact pP p h1 h2 h3 h4
structure Sy1 (bo cap:Nat) (ov:Value) (ops:List eJ) (h1:Hp) (i:Nat) (tm:T Value) (df:Df) (H:Hp):Prop where
 df:df=[]
 t23:tm.get [true,true,true,false]=some ov
 t24:tm.get [false,true,true,false]=some (A0 ops.length)
 t25:tm.get [true,false,true,false]=some (A0 i)
 t6:∃ v,tm.get [false,false]=some v∧pN H v 3 cap (iS (ops.take i)) (gH (eO (ops.take i)))∧∀ c,gY v c→c=bo
 wf:Wf H
 fr:Fr (fun k=>k=bo) h1 H
theorem Yc {call:Call} {cd:cE} {h:Hp} {n m:Nat} {ops:List eJ} {ov:Value} {P:Nat→Prop} {li:Bool} (hw:Wf h) (hch:aBQ call) (hof:OfC call) (hsy:aSF call) (hp:kF.Ok n m ops) (hn:n<1000) (ho:gD h ov ops P) :
 Yields (dD Bp call cd [.agg ⟨cQ li n m ov⟩] h) (Ib 3 (gH (eO ops)) m h):=by
 have hl:=ho.len
 have hnum:=hp.num
 have hm:=hp.m
 have hwb:=hw.base
 have hw1:Wf (h.new (aT (cQ li n m ov) 4 30 true)):=hw.new _
 have f1:Fr (fun _=>False) h (h.new (aT (cQ li n m ov) 4 30 true)):=Fr.new _
 have e0:=hch (h.new (aT (cQ li n m ov) 4 30 true)) n m ops ov P li hw1 hp (ho.eH hw f1)
 have x1:Nat.ble 0 m=true:=cX (Nat.zero_le _)
 have x2:Nat.ble (24*m) 16777216=true:=cX (by omega)
 have x3:Nat.ble m 16777216=true:=cX (by omega)
 unfold cQ at e0
 refine aP rfl ?_
 simp only [↓aQ,A3,reduceCtorEq,pQ,cQ,dQ,gM,e0,iX,nW,oD,aKs,x1,x2,x3,hl]
 have hrl:(dU m [Value.bool false,A0 0,A1 0]).length=m*3:=zV _ _
 have hcg0:=Mr (h:=h.new (aT [.bool li,A0 n,A0 m,ov] 4 30 true)) (e:=143) hrl
 have hw2:Wf ((h.new (aT [.bool li,A0 n,A0 m,ov] 4 30 true)).new (aT (dU m [Value.bool false,A0 0,A1 0]) (dU m [Value.bool false,A0 0,A1 0]).length 143 true)):=(hw.new _).new _
 have f2:Fr (fun _=>False) h ((h.new (aT [.bool li,A0 n,A0 m,ov] 4 30 true)).new (aT (dU m [Value.bool false,A0 0,A1 0]) (dU m [Value.bool false,A0 0,A1 0]).length 143 true)):=(Fr.new _).dE _
 have n2:((h.new (aT [.bool li,A0 n,A0 m,ov] 4 30 true)).new (aT (dU m [Value.bool false,A0 0,A1 0]) (dU m [Value.bool false,A0 0,A1 0]).length 143 true)).next=h.next+2:=rfl
 rw [show (h.new (aT [Value.bool li,A0 n,A0 m,ov] 4 30 true)).next=h.next+1 from rfl] at hcg0
 have ho2:=ho.eH hw f2
 generalize ((h.new (aT [Value.bool li,A0 n,A0 m,ov] 4 30 true)).new (aT (dU m [Value.bool false,A0 0,A1 0]) (dU m [Value.bool false,A0 0,A1 0]).length 143 true))=h2 at *
 refine bC.lp (id:=0) (P:=Sy1 (h.next+1) m ov ops h2 ops.length) ?_ ?_
 · refine cT (n:=ops.length) (by omega) (Sy1 (h.next+1) m ov ops h2) (fun i tm df H hi hI=>?_) (fun tm df H hI=>?_) ?_
   · obtain ⟨rfl,t23,t24,t25,⟨cv,t6,hcg,hbl⟩,wf,fr⟩:=hI
     obtain ⟨x,hx⟩:∃ x,ops[i]?=some x:=⟨ops[i],List.getElem?_eq_getElem hi⟩
     have hrt:=hp.rt x (List.mem_of_getElem? hx)
     have hQ:∀ k,k=h.next+1→h.next≤k:=fun k hk=>by omega
     have frh:Fr (fun k=>k=h.next+1) h H:=(f2.mono (Q:=fun k=>k=h.next+1) fun _ _ h=>h.elim).trans fr fun _ _ h=>h
     obtain ⟨b,o,c,cc,mm,e,cl,ro,dv,rfl,hat,hmm,hld,hdv⟩:=ho.at_ hx
     have hatH:H.at b=some (.row cc mm e cl ro):=by rw [frh.at_ b (hw.lt hat) (by have:=hw.lt hat;omega)];exact hat
     have e1:Nat.blt i ops.length=true:=bU hi
     have e2:Nat.ble (o+i*5+5) mm=true:=cX hmm
     have e3:=s6 (k:=x.kind) (f:=x.from_) (l:=x.len) (b:=x.b) hdv
     have hof':=fun H=>hof H x.kind x.from_ x.len x.b dv hrt.k
     have hle:=zT hx
     have hout:=hp.out
     have hbase:=wf.base
     have w1:aR .i64 (.ofNat (i+1))=.ofNat (i+1):=bF (by omega)
     have nx:=fr.next
     have hlt:∀ c,gY cv c→c<H.next:=fun c hc=>hcg.lt wf hc
     obtain ⟨X,hX,wX,fX,aX,nX⟩:=eP wf M3 (fW x.kind x.from_ x.len x.b dv) 5 68
     have bX:=fX.base
     have m3:(H.next+1=H.next)=False:=by simp
     unfold fW at hld e3 hof' hX aX
     unfold tS
     simp only [↓aQ,A3,reduceCtorEq,oS,t23,t24,t25,e1,e2,e3,hatH,hld,hX,aX,nX,m3,hof']
     have hwX:Wf (X.new (aT [A0 x.kind,A0 x.from_,A0 x.len,A1 x.b,dv] 5 68 true)):=wX.new _
     have hfX:Fr (fun k=>k=h.next+1) H (X.new (aT [A0 x.kind,A0 x.from_,A0 x.len,A1 x.b,dv] 5 68 true)):=(fX.dE _).mono fun _ _ h=>h.elim
     have hkX:∀ c,gY cv c→(X.new (aT [A0 x.kind,A0 x.from_,A0 x.len,A1 x.b,dv] 5 68 true)).at c=H.at c:=fun c hc=>(fX.dE _).at_ c (hlt c hc) fun h=>h
     generalize X.new (aT [A0 x.kind,A0 x.from_,A0 x.len,A1 x.b,dv] 5 68 true)=HX at *
     have hls:(eO (ops.take i)).length=iS (ops.take i):=rfl
     refine bC.mT (φ:=Nm fun tm' df' H'=>df'=[]∧tm'.get [true,true,true,false]=some (cB b o ops.length c)∧tm'.get [false,true,true,false]=some (A0 ops.length)∧tm'.get [true,false,true,false]=some (A0 i)∧Wf H'∧Fr (fun k=>k=h.next+1) h2 H'∧∃ v,tm'.get [false,false]=some v∧pN H' v 3 m (iS (ops.take (i+1))) (gH (eO (ops.take (i+1))))∧∀ c,gY v c→c=h.next+1) (bC.lp (aSI (bo:=h.next+1) (cap:=m) (l0:=eO (ops.take i)) (o:=x) (h1:=HX) hsy hwX (by rw [hfX.base,frh.base];omega) hrt hn (by omega) (by rw [hls];omega) (dv:=dv) ?_ ?_ ⟨rfl,?_,?_,⟨cv,?_,?_,hbl⟩,fun p _ _ _ _=>rfl,hwX,Fr.refl _ _⟩) ?_) ?_
     · simp [T.aB,fW]
     · intro H' hw' hf'
       exact hdv.gV hw ((frh.trans hfX fun _ _ h=>h).trans hf' fun _ _ h=>h) hQ
     · simp [T.aB]
     · simp [T.aB]
     · simp [T.aB,t6]
     · rw [hls,Nat.add_zero,List.take_zero,List.append_nil]
       exact hcg.bT hkX
     · rintro tm2 df2 H2 ⟨rfl,u32,u33,⟨v2,u6,hcg2,hbl2⟩,pP,wf2,fr2⟩
       refine ⟨rfl,rfl,?_,?_,?_,wf2,(fr.trans hfX fun _ _ h=>h).trans fr2 fun _ _ h=>h,v2,u6,?_,hbl2⟩
       · rw [pP _ (by decide) (by decide) (by decide) (by decide)];simp [T.aB,t23]
       · rw [pP _ (by decide) (by decide) (by decide) (by decide)];simp [T.aB,t24]
       · rw [pP _ (by decide) (by decide) (by decide) (by decide)];simp [T.aB,t25]
       · rw [qC hx,uP,Bo]
         have e5:(oR x).take x.len=oR x:=List.take_of_length_le (by rw [vU];exact Nat.le_refl _)
         rw [e5] at hcg2
         exact hcg2
     · rintro ex tm2 df2 H2 ⟨rfl,rfl,u23,u24,u25,wf2,fr2,v2,u6,hcg2,hbl2⟩
       simp only [↓aQ,A3,reduceCtorEq,u25,w1]
       exact .go ⟨rfl,by simp [u23],by simp [u24],by simp,⟨v2,by simp [u6],hcg2,hbl2⟩,wf2,fr2⟩
   · obtain ⟨rfl,t23,t24,t25,t6,wf,fr⟩:=hI
     obtain ⟨cv,t6,hcg,hbl⟩:=t6
     have e1:Nat.blt ops.length ops.length=false:=cI (Nat.le_refl _)
     unfold tS
     simp only [↓aQ,A3,reduceCtorEq,t24,t25,e1]
     exact .ex ⟨rfl,rfl,by simp [t23],by simp [t24],by simp [t25],⟨cv,by simp [t6],hcg,hbl⟩,wf,fr⟩
   · exact ⟨rfl,by simp,by simp,by simp,⟨_,by simp<;>rfl,hcg0,fun c hc=>fB hc⟩,hw2,Fr.refl _ _⟩
 rintro tm df H ⟨rfl,t23,t24,t25,⟨cv,t6,hcg,hbl⟩,wf,fr⟩
 rw [List.take_length,hp.out] at hcg
 simp only [↓aQ,A3,reduceCtorEq,t6]
 refine .ret ?_
 simp only [↓aQ,A3,reduceCtorEq,iO]
 have nx:=fr.next
 exact ⟨cv,rfl,hcg.sl,hcg.form,fun c hc=>by rw [hbl c hc];omega,wf,f2.trans fr fun k hk e=>by omega⟩
theorem Has.sym {h:Hp} {b o:Nat} {l:List SymM} (hh:Has h b o (gH l)) {i:Nat} {s:SymM} (hs:l[i]?=some s):∃ c m e cl ro,h.at b=some (.row c m e cl ro)∧o+i*3+3≤m∧cR c (o+i*3) 3 []=some (fF s):=by
 obtain ⟨c,m,e,cl,ro,hat,hm,hc⟩:=hh
 have hi:=(List.getElem?_eq_some_iff.1 hs).1
 rw [nI] at hm hc
 exact ⟨c,m,e,cl,ro,hat,by omega,dV (vs:=fF s) fun k hk=>by
  rw [Mh] at hk
  rw [Nat.add_assoc,hc _ (by omega),Mi hs hk]⟩
theorem aQY (v:Value) (t:T Value):(aL [v] (0+2) t fun t=>t).get (path (0+2))=some v:=by rw [bM,if_pos ⟨Nat.le_refl _,by simp⟩,Nat.sub_self];rfl
theorem aVC (v a b c:Value) (t:T Value):cR (aL [v] (0+2) (aL [a,b,c] 0 t fun t=>t) fun t=>t) 0 3 []=some [a,b,v]:=dV (o:=0) (vs:=[a,b,v]) fun k hk=>by
 rw [Nat.zero_add,bM]
 match k,hk with
 | 0,_=>exact aKm a b c t
 | 1,_=>exact aKn a b c t
 | 2,_=>rfl
structure RuS (bo:Nat) (dL lv:Value) (xs:List Nat) (l:List SymM) (h1:Hp) (i:Nat) (tm:T Value) (df:Df) (H:Hp):Prop where
 df:df=[]
 t0:tm.get []=some dL
 t12:tm.get [false,true,false]=some lv
 t13:tm.get [true,false,false]=some (A0 l.length)
 t14:tm.get [false,false,false]=some (A0 i)
 t6:∃ v,tm.get [false,false]=some v∧pN H v 1 l.length i (dR (nH xs (l.take i)))∧∀ c,gY v c→c=bo
 wf:Wf H
 fr:Fr (fun k=>k=bo) h1 H
theorem aOU {call:Call} {cd:cE} {h:Hp} {dL lv:Value} {xs:List Nat} {l:List SymM} (hw:Wf h) (ho:Sl 1 h dL xs.length (dR xs)) (hlv:Sl 3 h lv l.length (gH l)) (hok:∀ s∈l,s.Ok xs.length) (hb:∀ x∈xs,x<256) (hl:l.length≤100) (hxl:xs.length≤1000) :
 Yields (dD aBI call cd [dL,lv] h) (Ib 1 (dR (nH xs l)) l.length h):=by
 have ln:=hlv.len
 have lo:=ho.len
 have hwb:=hw.base
 have x1:Nat.ble 0 l.length=true:=cX (Nat.zero_le _)
 have x2:Nat.ble (1*l.length) 16777216=true:=cX (by omega)
 have x3:Nat.ble l.length 16777216=true:=cX (by omega)
 refine aP rfl ?_
 simp only [↓aQ,NV,reduceCtorEq,cN,cP,ln,aBC,x1,x2,x3]
 have hrl:(dU l.length [A1 0]).length=l.length*1:=zV _ _
 have hcg0:=Mr (h:=h) (e:=5) hrl
 have hw1:Wf (h.new (aT (dU l.length [A1 0]) (dU l.length [A1 0]).length 5 true)):=hw.new _
 have f1:Fr (fun _=>False) h (h.new (aT (dU l.length [A1 0]) (dU l.length [A1 0]).length 5 true)):=Fr.new _
 have n1:(h.new (aT (dU l.length [A1 0]) (dU l.length [A1 0]).length 5 true)).next=h.next+1:=rfl
 generalize (h.new (aT (dU l.length [A1 0]) (dU l.length [A1 0]).length 5 true))=h1 at *
 refine bC.lp (id:=0) (P:=RuS h.next dL lv xs l h1 l.length) ?_ ?_
 · refine cT (n:=l.length) (by omega) (RuS h.next dL lv xs l h1) (fun i tm df H hi hI=>?_) (fun tm df H hI=>?_) ?_
   · obtain ⟨rfl,t0,t12,t13,t14,⟨v,t6,hcg,hbl⟩,wf,fr⟩:=hI
     obtain ⟨s,hs⟩:∃ s,l[i]?=some s:=⟨l[i],List.getElem?_eq_getElem hi⟩
     have hsok:=hok s (List.mem_of_getElem? hs)
     have hQ:∀ k,k=h.next→h.next≤k:=fun k hk=>by omega
     have frh:Fr (fun k=>k=h.next) h H:=(f1.mono (Q:=fun k=>k=h.next) fun _ _ h=>h.elim).trans fr fun _ _ h=>h
     have hlvH:=hlv.gV hw frh hQ
     have hoH:=ho.gV hw frh hQ
     obtain ⟨b,o,c,rfl,hhas⟩:=hlvH.pos (by omega)
     obtain ⟨cc,mm,e,cl,ro,hat,hmm,hld⟩:=hhas.sym hs
     have hbH:=wf.lt hat
     have e1:Nat.blt i l.length=true:=bU hi
     have e2:Nat.ble (o+i*3+3) mm=true:=cX hmm
     have w1:aR .i64 (.ofNat (i+1))=.ofNat (i+1):=bF (by omega)
     have hbb:=wf.base
     have hlt:∀ c,gY v c→c<H.next:=fun c hc=>hcg.lt wf hc
     have nx:=fr.next
     obtain ⟨X,hX,wX,fX,aX,nX⟩:=eP wf R6 (fF s) 3 143
     have bX:=fX.base
     have lX:=fX.log
     have m1:(H.next+1=H.next)=False:=by simp
     have hcgX:pN X v 1 l.length i (dR (nH xs (l.take i))):=hcg.bT fun c hc=>fX.at_ c (hlt c hc) fun h=>h
     unfold fF at hld hX aX
     have fin:∀ (Y:Hp) (x:Nat) (v':Value) (H':Hp) (tm':T Value),x=jZ xs s→Fr (fun k=>k=h.next) H H'→Wf H'→pN H' v' 1 l.length (i+1) (dR (nH xs (l.take i))++dR [x])→(∀ c,gY v' c→gY v c)→tm'.get []=some dL→tm'.get [false,true,false]=some (cB b o l.length c)→tm'.get [true,false,false]=some (A0 l.length)→tm'.get [false,false,false]=some (A0 (i+1))→tm'.get [false,false]=some v'→RuS h.next dL (cB b o l.length c) xs l h1 (i+1) tm' [] H':=by
      intro Y x v' H' tm' hx hf hw' hc hb' a0 a1 a2 a3 a4
      refine ⟨rfl,a0,a1,a2,a3,⟨v',a4,?_,fun c hc=>hbl c (hb' c hc)⟩,hw',fr.trans hf fun _ _ h=>h⟩
      rw [qC hs,aFS,lO,← hx]
      exact hc
     cases hold:s.dL with
     | false =>
      rw [hold] at hld hX aX
      have hx:s.b=jZ xs s:=by unfold jZ;rw [hold];rfl
      have hsl:Sl 1 (X.new (aT [A1 s.b] 1 5 true)) (cB X.next 0 1 1) 1 (dR [s.b]):=⟨rfl,.inr ⟨_,_,_,rfl,by omega,fS (vs:=[A1 s.b]) (n:=1) (e:=5) (cl:=true) (by rw [aM,if_pos rfl]) (Nat.le_refl _)⟩⟩
      have hcgY:pN (X.new (aT [A1 s.b] 1 5 true)) v 1 l.length i (dR (nH xs (l.take i))):=hcgX.bT fun c hc=>by rw [aM,if_neg (by have:=hlt c hc;omega)]
      obtain ⟨v',H',ea,hc2,wf2,nx2,fr2,hb2⟩:=yZ (e:=5) (wX.new _) hcgY (by omega) hi hsl (jJ _) fun c hc=>by rw [hbl c hc,dX,bX,fr.base,f1.base];exact hwb
      rw [nX] at ea
      unfold zU
      simp only [↓aQ,NV,reduceCtorEq,yX,t0,t6,t12,t13,t14,e1,e2,hat,hld,hX,aX,nX,m1,w1,gE,ea]
      exact .go (fin X _ v' H' _ hx (((fX.mono (Q:=fun k=>k=h.next) fun _ _ h=>h.elim).dE _).trans fr2 fun c _ hc=>hbl c hc) wf2 hc2 hb2 (by simp [t0]) (by simp [t12]) (by simp [t13]) (by simp) (by simp))
     | true =>
      rw [hold] at hld hX aX
      have hat2:=hsok.at_ hold
      obtain ⟨y,hy⟩:∃ y,xs[s.at_]?=some y:=⟨xs[s.at_],List.getElem?_eq_getElem hat2⟩
      obtain ⟨bb,oo,cp,rfl,hh⟩:=hoH.pos (by omega)
      obtain ⟨c1,m1',e1',cl1,ro1,hat1,hm1,hc1⟩:=hh.get (iH hy)
      have hbb1:=wf.lt hat1
      have hx:(s.b+y) % 256=jZ xs s:=by
       unfold jZ
       rw [hold,if_pos rfl,List.getD_eq_getElem?_getD,hy];rfl
      have g1:Nat.blt s.at_ 0=false:=cI (Nat.zero_le _)
      have g2:Nat.blt s.at_ xs.length=true:=bU hat2
      have g3:Nat.blt (oo+s.at_*1) m1'=true:=bU (by omega)
      have g4:c1.get (path (oo+s.at_*1))=some (A1 y):=by rw [Nat.mul_one];exact hc1
      have hatX1:X.at bb=some (.row c1 m1' e1' cl1 ro1):=by rw [fX.at_ _ hbb1 fun h=>h];exact hat1
      have k1:Nat.beq bb H.next=false:=dO (by omega)
      have k2:Nat.beq H.next H.next=true:=Nat.beq_refl _
      have k3:jN (H.next+1) [] H.next=[H.next]:=kQ (by omega)
      have k4:∀ l,below H.base [H.next] l=l:=pY hbb
      have k5:comp Mk 1 9=true:=by decide
      have k6:comp Mk 4 9=true:=by decide
      obtain ⟨Y,hY⟩:∃ Y,Hp.put X H.next (some (.row (aL [A1 ((s.b+y) % 256)] (0+2) (aL [Value.bool true,A0 s.at_,A1 s.b] 0 (aL R6 0 .nil fun t=>t) fun t=>t) fun t=>t) 3 143 true false))=Y:=⟨_,rfl⟩
      have aY:Y.at H.next=some (.row (aL [A1 ((s.b+y) % 256)] (0+2) (aL [Value.bool true,A0 s.at_,A1 s.b] 0 (aL R6 0 .nil fun t=>t) fun t=>t) fun t=>t) 3 143 true false):=by rw [← hY,aJ,if_pos rfl]
      have wY:Wf Y:=by rw [← hY];exact wX.put (by omega) _
      have fY:Fr (fun _=>False) H Y:=by rw [← hY];exact fX.cJ _ (fun h=>absurd h (Nat.lt_irrefl _)) hbb
      have nY:Y.next=H.next+1:=by rw [← hY];exact nX
      have sY:aS Y H.base H.log=Y:=aBP fY
      have hsl:Sl 1 (Y.new (aT [A1 ((s.b+y) % 256)] 1 5 true)) (cB Y.next 0 1 1) 1 (dR [(s.b+y) % 256]):=⟨rfl,.inr ⟨_,_,_,rfl,by omega,fS (vs:=[A1 ((s.b+y) % 256)]) (n:=1) (e:=5) (cl:=true) (by rw [aM,if_pos rfl]) (Nat.le_refl _)⟩⟩
      have hcgY:pN (Y.new (aT [A1 ((s.b+y) % 256)] 1 5 true)) v 1 l.length i (dR (nH xs (l.take i))):=hcg.bT fun c hc=>by rw [aM,if_neg (by have:=hlt c hc;omega),fY.at_ c (hlt c hc) fun h=>h]
      obtain ⟨v',H',ea,hc2,wf2,nx2,fr2,hb2⟩:=yZ (e:=5) (wY.new _) hcgY (by omega) hi hsl (jJ _) fun c hc=>by rw [hbl c hc,dX,fY.base,fr.base,f1.base];exact hwb
      rw [nY] at ea
      unfold zU
      simp only [↓aQ,NV,reduceCtorEq,yX,t0,t6,t12,t13,t14,e1,e2,hat,hld,hX,aX,nX,bX,lX,m1,w1,lo,g1,g2,g3,g4,hatX1,nD,k1,k2,k3,k4,k5,k6,hY,aY,nY,sY,aQY,gE,ea]
      exact .go (fin X _ v' H' _ hx (((fY.mono (Q:=fun k=>k=h.next) fun _ _ h=>h.elim).dE _).trans fr2 fun c _ hc=>hbl c hc) wf2 hc2 hb2 (by simp [t0]) (by simp [t12]) (by simp [t13]) (by simp) (by simp))
   · obtain ⟨rfl,t0,t12,t13,t14,⟨v,t6,hcg,hbl⟩,wf,fr⟩:=hI
     have e1:Nat.blt l.length l.length=false:=cI (Nat.le_refl _)
     unfold zU
     simp only [↓aQ,NV,reduceCtorEq,t13,t14,e1]
     exact .ex ⟨rfl,rfl,by simp [t0],by simp [t12],by simp [t13],by simp [t14],⟨v,by simp [t6],hcg,hbl⟩,wf,fr⟩
   · exact ⟨rfl,by simp [cN],by simp,by simp,by simp,⟨_,by simp<;>rfl,hcg0,fun c hc=>fB hc⟩,hw1,Fr.refl _ _⟩
 rintro tm df H ⟨rfl,t0,t12,t13,t14,⟨v,t6,hcg,hbl⟩,wf,fr⟩
 rw [List.take_length] at hcg
 simp only [↓aQ,NV,reduceCtorEq,t6]
 refine .ret ?_
 simp only [↓aQ,NV,reduceCtorEq,iO]
 have nx:=fr.next
 exact ⟨v,rfl,hcg.sl,hcg.form,fun c hc=>by rw [hbl c hc];omega,wf,f1.trans fr fun k hk e=>by omega⟩
def aVD (call:Call):Prop:=∀ h dL lv xs l,Wf h→Sl 1 h dL xs.length (dR xs)→Sl 3 h lv l.length (gH l)→(∀ s∈l,s.Ok xs.length)→(∀ x∈xs,x<256)→l.length≤100→xs.length≤1000→Yields (call 34 [dL,lv] h) (Ib 1 (dR (nH xs l)) l.length h)
structure ThS (bo:Nat) (av bv:Value) (a b:List SymM) (h1:Hp) (i:Nat) (tm:T Value) (df:Df) (H:Hp):Prop where
 df:df=[]
 t0:tm.get []=some av
 t13:tm.get [true,false,false]=some bv
 t14:tm.get [false,false,false]=some (A0 b.length)
 t15:tm.get [true,true,true,true]=some (A0 i)
 t6:∃ v,tm.get [false,false]=some v∧pN H v 3 b.length i (gH (vV a (b.take i)))∧∀ c,gY v c→c=bo
 wf:Wf H
 fr:Fr (fun k=>k=bo) h1 H
theorem Yd {call:Call} {cd:cE} {h:Hp} {av bv:Value} {a b:List SymM} (hw:Wf h) (ha:Sl 3 h av a.length (gH a)) (hbv:Sl 3 h bv b.length (gH b)) (hok:∀ s∈b,s.Ok a.length) (hl:b.length≤100) (hal:a.length≤100) :
 Yields (dD Bv call cd [av,bv] h) (Ib 3 (gH (vV a b)) b.length h):=by
 have ln:=hbv.len
 have lo:=ha.len
 have hwb:=hw.base
 have x1:Nat.ble 0 b.length=true:=cX (Nat.zero_le _)
 have x2:Nat.ble (24*b.length) 16777216=true:=cX (by omega)
 have x3:Nat.ble b.length 16777216=true:=cX (by omega)
 refine aP rfl ?_
 simp only [↓aQ,NV,reduceCtorEq,cN,cP,ln,aKs,x1,x2,x3]
 have hrl:(dU b.length R6).length=b.length*3:=zV _ _
 have hcg0:=Mr (h:=h) (e:=143) hrl
 have hw1:Wf (h.new (aT (dU b.length R6) (dU b.length R6).length 143 true)):=hw.new _
 have f1:Fr (fun _=>False) h (h.new (aT (dU b.length R6) (dU b.length R6).length 143 true)):=Fr.new _
 have n1:(h.new (aT (dU b.length R6) (dU b.length R6).length 143 true)).next=h.next+1:=rfl
 generalize (h.new (aT (dU b.length R6) (dU b.length R6).length 143 true))=h1 at *
 refine bC.lp (id:=0) (P:=ThS h.next av bv a b h1 b.length) ?_ ?_
 · refine cT (n:=b.length) (by omega) (ThS h.next av bv a b h1) (fun i tm df H hi hI=>?_) (fun tm df H hI=>?_) ?_
   · obtain ⟨rfl,t0,t13,t14,t15,⟨v,t6,hcg,hbl⟩,wf,fr⟩:=hI
     obtain ⟨s,hs⟩:∃ s,b[i]?=some s:=⟨b[i],List.getElem?_eq_getElem hi⟩
     have hsok:=hok s (List.mem_of_getElem? hs)
     have hQ:∀ k,k=h.next→h.next≤k:=fun k hk=>by omega
     have frh:Fr (fun k=>k=h.next) h H:=(f1.mono (Q:=fun k=>k=h.next) fun _ _ h=>h.elim).trans fr fun _ _ h=>h
     have hbvH:=hbv.gV hw frh hQ
     have haH:=ha.gV hw frh hQ
     obtain ⟨bb,o,c,rfl,hhas⟩:=hbvH.pos (by omega)
     obtain ⟨cc,mm,e,cl,ro,hat,hmm,hld⟩:=hhas.sym hs
     have hbH:=wf.lt hat
     have e1:Nat.blt i b.length=true:=bU hi
     have e2:Nat.ble (o+i*3+3) mm=true:=cX hmm
     have w1:aR .i64 (.ofNat (i+1))=.ofNat (i+1):=bF (by omega)
     have hbb:=wf.base
     have hlt:∀ c,gY v c→c<H.next:=fun c hc=>hcg.lt wf hc
     have nx:=fr.next
     obtain ⟨X,hX,wX,fX,aX,nX⟩:=eP wf R6 (fF s) 3 143
     have bX:=fX.base
     have m1:(H.next+1=H.next)=False:=by simp
     have hcgX:pN X v 3 b.length i (gH (vV a (b.take i))):=hcg.bT fun c hc=>fX.at_ c (hlt c hc) fun h=>h
     unfold fF at hld hX aX
     have fin:∀ (x:SymM) (v':Value) (H':Hp) (tm':T Value),x=rO a s→Fr (fun k=>k=h.next) H H'→Wf H'→pN H' v' 3 b.length (i+1) (gH (vV a (b.take i))++fF x)→(∀ c,gY v' c→gY v c)→tm'.get []=some av→tm'.get [true,false,false]=some (cB bb o b.length c)→tm'.get [false,false,false]=some (A0 b.length)→tm'.get [true,true,true,true]=some (A0 (i+1))→tm'.get [false,false]=some v'→ThS h.next av (cB bb o b.length c) a b h1 (i+1) tm' [] H':=by
      intro x v' H' tm' hx hf hw' hc hb' a0 a1 a2 a3 a4
      refine ⟨rfl,a0,a1,a2,a3,⟨v',a4,?_,fun c hc=>hbl c (hb' c hc)⟩,hw',fr.trans hf fun _ _ h=>h⟩
      rw [qC hs,aFU,yU,Xw,← hx]
      exact hc
     cases hold:s.dL with
     | false =>
      rw [hold] at hld hX aX
      have hx:(⟨false,0,s.b⟩:SymM)=rO a s:=by unfold rO;rw [hold];rfl
      have hsl:Sl 3 (X.new (aT [.bool false,A0 0,A1 s.b] 3 143 true)) (cB X.next 0 1 1) 1 (fF ⟨false,0,s.b⟩):=⟨rfl,.inr ⟨_,_,_,rfl,by omega,fS (vs:=fF ⟨false,0,s.b⟩) (n:=3) (e:=143) (cl:=true) (by rw [aM,if_pos rfl];rfl) (Nat.le_refl _)⟩⟩
      have hcgY:pN (X.new (aT [.bool false,A0 0,A1 s.b] 3 143 true)) v 3 b.length i (gH (vV a (b.take i))):=hcgX.bT fun c hc=>by rw [aM,if_neg (by have:=hlt c hc;omega)]
      obtain ⟨v',H',ea,hc2,wf2,nx2,fr2,hb2⟩:=yZ (e:=143) (wX.new _) hcgY (by omega) hi hsl rfl fun c hc=>by rw [hbl c hc,dX,bX,fr.base,f1.base];exact hwb
      rw [nX] at ea
      unfold pB
      simp only [↓aQ,NV,reduceCtorEq,yX,t0,t6,t13,t14,t15,e1,e2,hat,hld,hX,aX,nX,m1,w1,Mq,gE,ea]
      exact .go (fin _ v' H' _ hx (((fX.mono (Q:=fun k=>k=h.next) fun _ _ h=>h.elim).dE _).trans fr2 fun c _ hc=>hbl c hc) wf2 hc2 hb2 (by simp [t0]) (by simp [t13]) (by simp [t14]) (by simp) (by simp))
     | true =>
      rw [hold] at hld hX aX
      have hat2:=hsok.at_ hold
      obtain ⟨y,hy⟩:∃ y,a[s.at_]?=some y:=⟨a[s.at_],List.getElem?_eq_getElem hat2⟩
      obtain ⟨ba,oo,cp,rfl,hh⟩:=haH.pos (by omega)
      obtain ⟨c1,m1',e1',cl1,ro1,hat1,hm1,hld1⟩:=hh.sym hy
      have hbb1:=wf.lt hat1
      have hx:(⟨y.dL,y.at_,(y.b+s.b) % 256⟩:SymM)=rO a s:=(Gm hold hy).symm
      have g1:Nat.blt s.at_ 0=false:=cI (Nat.zero_le _)
      have g2:Nat.blt s.at_ a.length=true:=bU hat2
      have g3:Nat.ble (oo+s.at_*3+3) m1'=true:=cX hm1
      have hatX1:X.at ba=some (.row c1 m1' e1' cl1 ro1):=by rw [fX.at_ _ hbb1 fun h=>h];exact hat1
      obtain ⟨Z,hZ,wZ,fZ,aZ,nZ⟩:=eP wX R6 (fF y) 3 143
      unfold fF at hld1 hZ aZ
      rw [nX] at hZ aZ nZ
      have m2:(H.next+1+1=H.next)=False:=by simp;omega
      have m2':(H.next+1=H.next+1+1)=False:=by simp
      have aZ2:Z.at H.next=X.at H.next:=fZ.at_ _ (by omega) fun h=>h
      rw [aX] at aZ2
      obtain ⟨Y,hY⟩:∃ Y,Hp.put Z (H.next+1) (some (.row (aL [A1 ((y.b+s.b) % 256)] (0+2) (aL [Value.bool y.dL,A0 y.at_,A1 y.b] 0 (aL R6 0 .nil fun t=>t) fun t=>t) fun t=>t) 3 143 true false))=Y:=⟨_,rfl⟩
      have aY:Y.at (H.next+1)=some (.row (aL [A1 ((y.b+s.b) % 256)] (0+2) (aL [Value.bool y.dL,A0 y.at_,A1 y.b] 0 (aL R6 0 .nil fun t=>t) fun t=>t) fun t=>t) 3 143 true false):=by rw [← hY,aJ,if_pos rfl]
      have wY:Wf Y:=by rw [← hY];exact wZ.put (by omega) _
      have fHZ:Fr (fun _=>False) H Z:=fX.trans fZ fun _ _ h=>h
      have fY:Fr (fun _=>False) H Y:=by rw [← hY];exact fHZ.cJ _ (fun h=>by omega) (by omega)
      have nY:Y.next=H.next+1+1:=by rw [← hY];exact nZ
      have hsl:Sl 3 (Y.new (aT [.bool y.dL,A0 y.at_,A1 ((y.b+s.b) % 256)] 3 143 true)) (cB Y.next 0 1 1) 1 (fF ⟨y.dL,y.at_,(y.b+s.b) % 256⟩):=⟨rfl,.inr ⟨_,_,_,rfl,by omega,fS (vs:=fF ⟨y.dL,y.at_,(y.b+s.b) % 256⟩) (n:=3) (e:=143) (cl:=true) (by rw [aM,if_pos rfl];rfl) (Nat.le_refl _)⟩⟩
      have hcgY:pN (Y.new (aT [.bool y.dL,A0 y.at_,A1 ((y.b+s.b) % 256)] 3 143 true)) v 3 b.length i (gH (vV a (b.take i))):=hcg.bT fun c hc=>by rw [aM,if_neg (by have:=hlt c hc;omega),fY.at_ c (hlt c hc) fun h=>h]
      obtain ⟨v',H',ea,hc2,wf2,nx2,fr2,hb2⟩:=yZ (e:=143) (wY.new _) hcgY (by omega) hi hsl rfl fun c hc=>by rw [hbl c hc,dX,fY.base,fr.base,f1.base];exact hwb
      rw [nY] at ea
      unfold pB
      simp only [↓aQ,NV,reduceCtorEq,yX,t0,t6,t13,t14,t15,e1,e2,hat,hld,hX,aX,nX,m1,w1,lo,g1,g2,g3,hatX1,hld1,hZ,aZ,nZ,aZ2,m2,m2',nD,hY,aY,nY,aQY,aVC,Mq,gE,ea]
      exact .go (fin _ v' H' _ hx (((fY.mono (Q:=fun k=>k=h.next) fun _ _ h=>h.elim).dE _).trans fr2 fun c _ hc=>hbl c hc) wf2 hc2 hb2 (by simp [t0]) (by simp [t13]) (by simp [t14]) (by simp) (by simp))
   · obtain ⟨rfl,t0,t13,t14,t15,⟨v,t6,hcg,hbl⟩,wf,fr⟩:=hI
     have e1:Nat.blt b.length b.length=false:=cI (Nat.le_refl _)
     unfold pB
     simp only [↓aQ,NV,reduceCtorEq,t14,t15,e1]
     exact .ex ⟨rfl,rfl,by simp [t0],by simp [t13],by simp [t14],by simp [t15],⟨v,by simp [t6],hcg,hbl⟩,wf,fr⟩
   · exact ⟨rfl,by simp [cN],by simp,by simp,by simp,⟨_,by simp<;>rfl,hcg0,fun c hc=>fB hc⟩,hw1,Fr.refl _ _⟩
 rintro tm df H ⟨rfl,t0,t13,t14,t15,⟨v,t6,hcg,hbl⟩,wf,fr⟩
 rw [List.take_length] at hcg
 simp only [↓aQ,NV,reduceCtorEq,t6]
 refine .ret ?_
 simp only [↓aQ,NV,reduceCtorEq,iO]
 have nx:=fr.next
 exact ⟨v,rfl,hcg.sl,hcg.form,fun c hc=>by rw [hbl c hc];omega,wf,f1.trans fr fun k hk e=>by omega⟩
def Ye (call:Call):Prop:=∀ h av bv a b,Wf h→Sl 3 h av a.length (gH a)→Sl 3 h bv b.length (gH b)→(∀ s∈b,s.Ok a.length)→b.length≤100→a.length≤100→Yields (call 254 [av,bv] h) (Ib 3 (gH (vV a b)) b.length h)
def Mv (call:Call):Prop:=∀ h n m ops ov P li,Wf h→kF.Ok n m ops→n<1000→gD h ov ops P→Yields (call 31 [.agg ⟨cQ li n m ov⟩] h) (Ib 3 (gH (eO ops)) m h)
theorem aF4 {call:Call} {cd:cE} {h:Hp} {dL ov:Value} {xs:List Nat} {n m:Nat} {ops:List eJ} {P:Nat→Prop} (hw:Wf h) (hS:Mv call) (hR:aVD call) (ho:Sl 1 h dL xs.length (dR xs)) (hp:kF.Ok n m ops) (hxn:xs.length=n) (hn:n<1000) (hov:gD h ov ops P) (hb:∀ x∈xs,x<256) :
 Yields (dD Ml call cd [dL,.agg ⟨cQ false n m ov⟩] h) (Ib 1 (dR (nH xs (eO ops))) m h):=by
 have lo:=ho.len
 have hm:=hp.m
 have hlm:(eO ops).length=m:=hp.out
 have f0:Fr (fun _=>False) h (h.new (aT (cQ false n m ov) 4 30 true)):=Fr.new _
 obtain ⟨r,H1,e1,sv,rfl,s1,_,s2,w1,f1⟩:=(hS (h.new (aT (cQ false n m ov) 4 30 true)) n m ops ov P false (hw.new _) hp hn (hov.eH hw f0)).get
 have f01:=f0.trans (P:=fun _=>False) f1 fun _ _ h=>h
 have ho1:=ho.gV hw f01 fun _ h=>h.elim
 rw [← hlm] at s1
 obtain ⟨r,H2,e2,rv,rfl,r1,r3,r2,w2,f2⟩:=(hR H1 dL sv xs (eO ops) w1 ho1 s1 (by rw [hxn];exact rM hp.rt) hb (by omega) (by omega)).get
 have a1:H1.at h.next=some (aT (cQ false n m ov) 4 30 true):=by rw [f1.at_ _ (by rw [aF];omega) fun h=>h,aM,if_pos rfl]
 have a2:H2.at h.next=some (aT (cQ false n m ov) 4 30 true):=by rw [f2.at_ _ (by have:=f1.next;rw [aF] at this;omega) fun h=>h];exact a1
 have q1:Nat.beq xs.length n=true:=by rw [hxn];exact Nat.beq_refl _
 unfold cQ at e1 a1 a2
 refine aP rfl ?_
 simp only [↓aQ,NV,reduceCtorEq,pQ,cQ,cN,cP,gM,e1,iX,nW,oD,a1,lo,q1,e2,a2]
 refine .ret ?_
 simp only [↓aQ,NV,reduceCtorEq,iO]
 rw [hlm] at r1 r3
 have nx:=f01.next
 have nx2:=f2.next
 exact ⟨rv,rfl,r1,r3,fun c hc=>by have:=r2 c hc;omega,w2,f01.trans f2 fun _ _ h=>h⟩
def aKw (call:Call):Prop:=∀ h dL ov xs n m ops P,Wf h→Sl 1 h dL xs.length (dR xs)→kF.Ok n m ops→xs.length=n→n<1000→gD h ov ops P→(∀ x∈xs,x<256)→Yields (call 13 [dL,.agg ⟨cQ false n m ov⟩] h) (Ib 1 (dR (nH xs (eO ops))) m h)
end cG
end Go
