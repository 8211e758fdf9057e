/-
Devices: the answers of image.Changed and of slices.Collect at what the fixed examples ask of them.
Conditions: none.
-/
import Derived.RangeFuncNested
import Derived.RangeFuncBound
import Derived.RangeFuncCalls
import Derived.RangeFuncLeaves
import Derived.RangeFuncBox
import Derived.Shelf.Abstract
import Derived.Shelf.RegionOpen
import Derived.WalkKit
import Derived.OwnWalkIn
import Derived.TacticsInMore
import Derived.LoopNIn
import Derived.LoopIn
import Derived.Maps.AppendAt
import Derived.BigQuiet
import Derived.Sort.QuietIn
import Derived.Test.YtekknahndoonjaaGreatDoorProg
import Derived.KernelRfl
import Derived.Test.YtekknahndoonjaaGreatDoorRun05
import Derived.Test.YtekknahndoonjaaGreatDoorRun02
set_option linter.all false
set_option maxRecDepth 100000
set_option maxHeartbeats 4000000
noncomputable section
namespace Go.Proofs
open Go.RowKit Go.Shelf
attribute [local go_sem] Oper.semAt_some
def ET (d:Nat→Bool) (n i:Nat):Nat:=if h:i<n then (if d i then ET d n (i+1) else i) else i
termination_by n - i
theorem A4t (d:Nat→Bool) (n i:Nat):i≤ET d n i:=by
 unfold ET
 split
 · split
   · have:=A4t d n (i+1);omega
   · exact Nat.le_refl _
 · exact Nat.le_refl _
termination_by n - i
theorem A9m {d:Nat→Bool} {n i:Nat} (h:i<n) (hd:d i=true):ET d n i=ET d n (i+1):=by
 conv=>lhs;unfold ET
 rw [dif_pos h,if_pos hd]
theorem Zo {d:Nat→Bool} {n i:Nat} (h:¬ (i<n∧d i=true)):ET d n i=i:=by
 unfold ET
 split
 · rename_i h1
   rw [if_neg (fun hd=>h ⟨h1,hd⟩)]
 · rfl
def JF (d:Nat→Bool) (n i:Nat):List (Nat×Nat):=if h:i<n then (if i<ET d n i then [(i,ET d n i)] else [])++JF d n (ET d n i+1) else []
termination_by n - i
decreasing_by have:=A4t d n i;omega
theorem Ug {d:Nat→Bool} {n i:Nat} (h:i<n):JF d n i=(if i<ET d n i then [(i,ET d n i)] else [])++JF d n (ET d n i+1):=by
 conv=>lhs;unfold JF
 rw [dif_pos h]
theorem A0m {d:Nat→Bool} {n i:Nat} (h:n≤i):JF d n i=[]:=by
 unfold JF
 rw [dif_neg (by omega)]
def As (S:Nat→Prop) (A B:World):Prop:=∀ k,S k→B.heap[k]?=A.heap[k]?
theorem As.cell {S:Nat→Prop} {A B:World} (h:As S A B) {p:Addr} (hp:S p.block):B.cell? p=A.cell? p:=World.cell?_of_block (h _ hp)
theorem As.trans {S:Nat→Prop} {A B C:World} (h:As S A B) (k:As S B C):As S A C:=fun i hi=>(k i hi).trans (h i hi)
theorem As.refl (S:Nat→Prop) (A:World):As S A A:=fun _ _=>rfl
abbrev AQ0 (x:Nat×Nat):Array Value:=#[.agg #[.int .i64 (x.1:Int),.int .i64 (x.2:Int)]]
set_option maxRecDepth 100000 in
theorem A63 (n:Nat) (hn:1≤n) (l Ba Bb:Nat) (S:Nat→Prop) (a ao ac b bo bc len:Nat) (xs ys:Nat→Int) (hreach:len≤100000) (ha:S a) (hb:S b) (J Jx:List (Nat×Nat)→World→Prop)
 (hY:∀ pre x W,J pre W→pre.length<len→YieldAt Fence.wide (n - 1) Tryz.prog l (AQ0 x) W fun e W' =>
   (e=.returned (.bool true)∧J (pre++[x]) W'∧As S W W')∨(e=.returned (.bool false)∧Jx (pre++[x]) W'))
 (W:World) (hBa:W.cell? ⟨Ba,0,none⟩=some (.slice (some ⟨a,ao,none⟩) len ac)) (hBb:W.cell? ⟨Bb,0,none⟩=some (.slice (some ⟨b,bo,none⟩) len bc)) (hBa0:S Ba) (hBb0:S Bb)
 (hca:∀ j,j<len→W.cell? ⟨a,ao+j,none⟩=some (.int .u8 (xs j))) (hcb:∀ j,j<len→W.cell? ⟨b,bo+j,none⟩=some (.int .u8 (ys j))) (hJ:AbidesFrom W.heap.size J) (h0:J [] W) :
 CallsIn Fence.wide n Tryz.prog 308 #[.func (.yield l) #[] #[],.pointer (some ⟨Ba,0,none⟩),.pointer (some ⟨Bb,0,none⟩)] W fun e W'=>(∃ v,e=.returned v) ∧
  ((∃ ps,ps=JF (fun j=>decide (xs j≠ys j)) len 0∧J ps W')∨(∃ pre,True∧Jx pre W')):=by
 refine callsIn_of_wp Tryz.func308 rfl trivial ?_ rfl
 simp only [Tryz.ntmps308,List.size_toArray,List.length_cons,List.length_nil,Nat.reduceAdd,Nat.reduceSub,Array.replicate_succ,Array.replicate_zero,List.push_toArray,List.append_toArray,List.nil_append,List.cons_append]
 gi_wp2
 gi_loopw [4] (fun i wr=>∃ (k:Nat) (pre:List (Nat×Nat)),i=.int .i64 k∧k≤len+1∧pre.length≤k∧pre++JF (fun j=>decide (xs j≠ys j)) len k=JF (fun j=>decide (xs j≠ys j)) len 0∧J pre wr∧As S W wr)
  (fun i _=>len+1 - (intOf i).toNat)
 case atStart=>exact ⟨0,[],rfl,by omega,by simp,by simp,h0,As.refl _ _⟩
 case round =>
  obtain ⟨k,pre,rfl,hk,hpl,hpe,hJs,hnx⟩:=hrel
  have ca:=(hnx.cell (p:=⟨Ba,0,none⟩) hBa0).trans hBa
  have cb:=(hnx.cell (p:=⟨Bb,0,none⟩) hBb0).trans hBb
  by_cases hlt:k<len
  · gi_wp2
    gi_loopw [4] (fun i wr'=>∃ m:Nat,i=.int .i64 m∧k≤m∧m≤len∧ET (fun j=>decide (xs j≠ys j)) len m=ET (fun j=>decide (xs j≠ys j)) len k∧J pre wr'∧As S W wr')
     (fun i _=>len - (intOf i).toNat)
    case atStart=>exact ⟨k,rfl,Nat.le_refl _,by omega,rfl,hJs,hnx⟩
    case round =>
     obtain ⟨m,rfl,hm1,hm2,hm3,hJ2,hn2⟩:=hrel
     have ca2:=(hn2.cell (p:=⟨Ba,0,none⟩) hBa0).trans hBa
     have cb2:=(hn2.cell (p:=⟨Bb,0,none⟩) hBb0).trans hBb
     by_cases hml:m<len
     · have cxm:=(hn2.cell (p:=⟨a,ao+m,none⟩) ha).trans (hca m hml)
       have cym:=(hn2.cell (p:=⟨b,bo+m,none⟩) hb).trans (hcb m hml)
       have hmi:(m:Int)<(len:Int):=by omega
       gi_wp2
       gi_quiet (fail)
       have hJ3:J pre (wr.drewN nq):=hJ _ _ _ none hJ2 ⟨rfl,rfl,rfl,Nat.le_refl _,fun _ _ _=>rfl⟩ (fun r e=>by cases e)
       have hn3:As S W (wr.drewN nq):=fun k hk=>hn2 k hk
       cases hd:(xs m != ys m)
       · have hend:ET (fun j=>decide (xs j≠ys j)) len m=m:=Zo (fun h=>by
          have h1:xs m=ys m:=by simpa using hd
          simp [h1] at h)
         have hke:=hm3.symm.trans hend
         by_cases hkm:k<m
         · obtain ⟨fn,tmps,assign,body,hy,hR⟩:=hY pre (k,m) _ hJ3 (by omega)
           dsimp only [AQ0] at hy
           gi_wp2
           refine hR.mono ?_
           rintro e W3 (⟨rfl,hJ4,hk4⟩|⟨rfl,hJx4⟩)
           · gi_wp2
             go_roundw
             case rel =>
              refine ⟨m+1,pre++[(k,m)],by simp,by omega,by rw [List.length_append];simp;omega,?_,hJ4,hn3.trans hk4⟩
              rw [Ug hlt,hke,if_pos hkm] at hpe
              rw [List.append_assoc];exact hpe
             case measure=>simp [intOf];omega
           · gi_wp2
             refine bodyPost_ret (results_none rfl _ _ _) rfl ?_
             exact ⟨⟨_,rfl⟩,.inr ⟨_,trivial,hJx4⟩⟩
         · gi_wp2
           refine ⟨fun _ h=>(by cases h),?_⟩
           gi_wp2
           go_roundw
           case rel =>
            refine ⟨m+1,pre,by simp,by omega,by omega,?_,hJ3,hn3⟩
            rw [Ug hlt,hke,if_neg hkm,List.nil_append] at hpe
            exact hpe
           case measure=>simp [intOf];omega
       · gi_wp2
         go_roundw
         case rel=>exact ⟨m+1,by simp,by omega,by omega,(A9m hml (by simpa using hd)).symm.trans hm3,hJ3,hn3⟩
         case measure=>simp [intOf];omega
     · have hmi:decide ((m:Int)<(len:Int))=false:=by simp;omega
       gi_wp2
       gi_quiet (fail)
       have hJ3:J pre (wr.drewN nq):=hJ _ _ _ none hJ2 ⟨rfl,rfl,rfl,Nat.le_refl _,fun _ _ _=>rfl⟩ (fun r e=>by cases e)
       have hn3:As S W (wr.drewN nq):=fun k hk=>hn2 k hk
       have hend:ET (fun j=>decide (xs j≠ys j)) len m=m:=Zo (fun h=>hml h.1)
       have hke:=hm3.symm.trans hend
       by_cases hkm:k<m
       · obtain ⟨fn,tmps,assign,body,hy,hR⟩:=hY pre (k,m) _ hJ3 (by omega)
         dsimp only [AQ0] at hy
         gi_wp2
         refine hR.mono ?_
         rintro e W3 (⟨rfl,hJ4,hk4⟩|⟨rfl,hJx4⟩)
         · gi_wp2
           go_roundw
           case rel =>
            refine ⟨m+1,pre++[(k,m)],by simp,by omega,by rw [List.length_append];simp;omega,?_,hJ4,hn3.trans hk4⟩
            rw [Ug hlt,hke,if_pos hkm] at hpe
            rw [List.append_assoc];exact hpe
           case measure=>simp [intOf];omega
         · gi_wp2
           refine bodyPost_ret (results_none rfl _ _ _) rfl ?_
           exact ⟨⟨_,rfl⟩,.inr ⟨_,trivial,hJx4⟩⟩
       · exfalso;omega
  · gi_wp2
    go_end0
    refine ⟨⟨_,rfl⟩,.inl ⟨pre,?_,hJs⟩⟩
    rw [A0m (by omega),List.append_nil] at hpe
    exact hpe
end Go.Proofs
namespace Go.Proofs
open Go.RowKit Go.Shelf
attribute [local go_sem] Oper.semAt_some
theorem AAW (n:Nat) (a b:Option Addr) (la ca lb cb:Nat) (w:World) :
 CallsIn Fence.wide n Tryz.prog 239 #[.slice a la ca,.slice b lb cb] w fun e w'=>e=.returned (.func (.func 308) #[] #[.pointer (some ⟨w.heap.size,0,none⟩),.pointer (some ⟨w.heap.size+1,0,none⟩)])∧w'=(w.alloc (.cells #[.slice a la ca] 24)).alloc (.cells #[.slice b lb cb] 24):=by
 refine callsIn_of_wp Tryz.func239 rfl trivial ?_ rfl
 simp only [Tryz.ntmps239,List.size_toArray,List.length_cons,List.length_nil,Nat.reduceAdd,Nat.reduceSub,Array.replicate_succ,Array.replicate_zero,List.push_toArray,List.append_toArray,List.nil_append,List.cons_append]
 gi_wp2
 go_ret
 exact ⟨rfl,rfl⟩
theorem vL (n:Nat) (hn:1≤n) (Ba Bb:Nat) (S:Nat→Prop) (a ao ac b bo bc len:Nat) (xs ys:Nat→Int) (hreach:len≤100000) (ha:S a) (hb:S b) (w:World) (hS:∀ k,S k→k<w.heap.size)
 (hBa:w.cell? ⟨Ba,0,none⟩=some (.slice (some ⟨a,ao,none⟩) len ac)) (hBb:w.cell? ⟨Bb,0,none⟩=some (.slice (some ⟨b,bo,none⟩) len bc)) (hBa0:S Ba) (hBb0:S Bb)
 (hca:∀ j,j<len→w.cell? ⟨a,ao+j,none⟩=some (.int .u8 (xs j))) (hcb:∀ j,j<len→w.cell? ⟨b,bo+j,none⟩=some (.int .u8 (ys j))) :
 SeqStopsK Fence.wide n Tryz.prog 308 #[.pointer (some ⟨Ba,0,none⟩),.pointer (some ⟨Bb,0,none⟩)] AQ0 (As S) (fun ps=>ps=JF (fun j=>decide (xs j≠ys j)) len 0) (fun _=>True) len w:=fun l J Jx W hW hJ _ hY h0=>by
 have hm:As S w W:=fun k hk=>hW.block k (hS k hk)
 exact A63 n hn l Ba Bb S a ao ac b bo bc len xs ys hreach ha hb J Jx hY W ((hm.cell (p:=⟨Ba,0,none⟩) hBa0).trans hBa) ((hm.cell (p:=⟨Bb,0,none⟩) hBb0).trans hBb) hBa0 hBb0 (fun j hj=>(hm.cell (p:=⟨a,ao+j,none⟩) ha).trans (hca j hj)) (fun j hj=>(hm.cell (p:=⟨b,bo+j,none⟩) hb).trans (hcb j hj)) hJ h0
def AQl:(Tryz.prog.info? 229).map (fun i=>(i.zero,i.size,i.bytes))=some (some (.agg #[.int .i64 0,.int .i64 0]),2,16):=by kernel_rfl
def A54 (W:World) (B:Nat) (x:Nat×Nat):Prop:=W.heap[B]?=some (.cells #[.int .i64 (x.1:Int),.int .i64 (x.2:Int)] 229 (0,0))
theorem A54.own (B:Nat) (x:Nat×Nat):Own (fun (_:Unit) W=>A54 W B x):=fun s X Y row h hg hrow=>by
 refine (hg.block B (Array.getElem?_eq_some_iff.1 h).1 (fun e=>?_)).trans h
 obtain ⟨o,ho,hc⟩:=hrow B e.symm
 rw [show X.heap[B]?=_ from h] at ho;cases ho;cases hc
theorem A54.c0 {W:World} {B:Nat} {x:Nat×Nat} (h:A54 W B x):W.cell? ⟨B,0,none⟩=some (.int .i64 (x.1:Int)):=by simp [World.cell?,show W.heap[B]?=_ from h]
theorem A54.c1 {W:World} {B:Nat} {x:Nat×Nat} (h:A54 W B x):W.cell? ⟨B,1,none⟩=some (.int .i64 (x.2:Int)):=by simp [World.cell?,show W.heap[B]?=_ from h]
theorem A0U (w:World) (x y:Value) (t:TypeId):∀ j u,[x,y][j]?=some u→(w.alloc (.cells #[x,y] t)).cell? ((⟨w.heap.size,0,none⟩:Addr).add j)=some u:=by
 intro j u hj
 match j,hj with
 | 0,hj =>
  simp at hj
  subst hj
  simp [Addr.add]
 | 1,hj =>
  simp at hj
  subst hj
  simp [Addr.add]
 | j+2,hj=>simp at hj
def Hd (ps:List (Nat×Nat)):List Value:=ps.flatMap fun p=>[.int .i64 (p.1:Int),.int .i64 (p.2:Int)]
theorem A3G (ps:List (Nat×Nat)) (x:Nat×Nat):Hd (ps++[x])=Hd ps++[.int .i64 (x.1:Int),.int .i64 (x.2:Int)]:=by simp [Hd]
theorem AAz (n:Nat) (hn:4≤n) (a ao ac b bo bc len:Nat) (xs ys:Nat→Int) (hreach:len≤100000) (w:World) (ha:a<w.heap.size) (hb:b<w.heap.size)
 (hca:∀ j,j<len→w.cell? ⟨a,ao+j,none⟩=some (.int .u8 (xs j))) (hcb:∀ j,j<len→w.cell? ⟨b,bo+j,none⟩=some (.int .u8 (ys j))) :
 CallsIn Fence.wide n Tryz.prog 136 #[.slice (some ⟨a,ao,none⟩) len ac,.slice (some ⟨b,bo,none⟩) len bc] w fun e W'=>∃ v,e=.returned v∧W'.ownsRow w.heap.size 229 2 v (JF (fun j=>decide (xs j≠ys j)) len 0).length (Hd (JF (fun j=>decide (xs j≠ys j)) len 0))∧Below w.heap.size w W':=by
 have h1:1≤n:=by omega
 obtain ⟨i0,hi,hz0,hz1,hz2⟩:=info_parts AQl
 refine callsIn_of_wp_marks Tryz.func136 rfl trivial ?_ rfl
 simp only [Tryz.ntmps136,List.size_toArray,List.length_cons,List.length_nil,Nat.reduceAdd,Nat.reduceSub,Array.replicate_succ,Array.replicate_zero,List.push_toArray,List.append_toArray,List.nil_append,List.cons_append]
 gi_wp2_with (refine ⟨trivial,?_⟩;gi_at_call 239;refine (AAW (n - 1) _ _ _ _ _ _ _).mono ?_;rintro e w' ⟨rfl,rfl⟩)
 have bO:=((Boxed.new w 226 (.slice none 0 0)).alloc (.cells #[.slice (some ⟨a,ao,none⟩) len ac] 24)).alloc (.cells #[.slice (some ⟨b,bo,none⟩) len bc] 24)
 have bA:=(Boxed.new (w.alloc (.cells #[.slice none 0 0] 226)) 24 (.slice (some ⟨a,ao,none⟩) len ac)).alloc (.cells #[.slice (some ⟨b,bo,none⟩) len bc] 24)
 have bB:=Boxed.new ((w.alloc (.cells #[.slice none 0 0] 226)).alloc (.cells #[.slice (some ⟨a,ao,none⟩) len ac] 24)) 24 (.slice (some ⟨b,bo,none⟩) len bc)
 simp only [World.size_alloc] at bA bB
 have hB0:Below w.heap.size w (((w.alloc (.cells #[.slice none 0 0] 226)).alloc (.cells #[.slice (some ⟨a,ao,none⟩) len ac] 24)).alloc (.cells #[.slice (some ⟨b,bo,none⟩) len bc] 24)):=(((Below.refl _ w).alloc (Nat.le_refl _) _).alloc (by simp) _).alloc (by simp;omega) _
 have hsz:(((w.alloc (.cells #[.slice none 0 0] 226)).alloc (.cells #[.slice (some ⟨a,ao,none⟩) len ac] 24)).alloc (.cells #[.slice (some ⟨b,bo,none⟩) len bc] 24)).heap.size=w.heap.size+3:=by simp
 obtain ⟨W0,hW0⟩:∃ W0,((w.alloc (.cells #[.slice none 0 0] 226)).alloc (.cells #[.slice (some ⟨a,ao,none⟩) len ac] 24)).alloc (.cells #[.slice (some ⟨b,bo,none⟩) len bc] 24)=W0:=⟨_,rfl⟩
 rw [hW0] at bO bA bB hB0 hsz ⊢
 clear hW0
 obtain ⟨S,hS⟩:∃ S:Nat→Prop,S=fun k=>k<w.heap.size∨k=w.heap.size+1∨k=w.heap.size+1+1:=⟨_,rfl⟩
 have hSlt:∀ k,S k→k<W0.heap.size:=fun k hk=>by rw [hS] at hk;omega
 refine wpIn_rangeFunc_ownH rfl h1 (gf:=308) (lb:=#[.pointer (some ⟨w.heap.size+1,0,none⟩),.pointer (some ⟨w.heap.size+1+1,0,none⟩)]) rfl trivial (enters_of Tryz.func308 (by kernel_rfl) rfl)
  (vL (n - 1) (by omega) (w.heap.size+1) (w.heap.size+1+1) S a ao ac b bo bc len xs ys hreach (by rw [hS];exact .inl ha) (by rw [hS];exact .inl hb) W0 hSlt bA.cell bB.cell (by rw [hS];exact .inr (.inl rfl)) (by rw [hS];exact .inr (.inr rfl)) (fun j hj=>(hB0.cell (p:=⟨a,ao+j,none⟩) ha).trans (hca j hj)) (fun j hj=>(hB0.cell (p:=⟨b,bo+j,none⟩) hb).trans (hcb j hj)))
  (fun {A B C} h k=>h.trans k) (fun W l o o' hl _ _ _ k hk=>by have:=hSlt k hk;exact World.putObj_heap_other (by omega)) (Below.refl _ _) (fun _=>rfl)
  (fun pre W=>(((∃ v,Boxed W w.heap.size 226 v∧W.ownsRow w.heap.size 229 2 v pre.length (Hd pre)∧True)∧Boxed W (w.heap.size+1) 24 (.slice (some ⟨a,ao,none⟩) len ac))∧Boxed W (w.heap.size+1+1) 24 (.slice (some ⟨b,bo,none⟩) len bc))∧Below w.heap.size w W)
  (fun _ _ _=>False)
  (OwnFrom.and (OwnFrom.and (OwnFrom.and (Own.from (holdsRow_own w.heap.size w.heap.size 226 229 2 (fun pre=>pre.length) Hd (fun _ _=>True)) _) (Own.from (boxed_own _ _ _) _)) (Own.from (boxed_own _ _ _) _)) (ownFrom_below (Nat.le_refl _) (by omega)))
  (fun _ _ _ _ _ hs _ _=>hs)
  ⟨⟨⟨⟨_,bO,World.ownsRow_nil _ _ _ _,trivial⟩,bA⟩,bB⟩,hB0⟩
  (fun x a' W=>∃ Bx,w.heap.size+1+1<Bx∧A54 W Bx x∧a'={ tmps:=#[.slice (some ⟨a,ao,none⟩) len ac,.slice (some ⟨b,bo,none⟩) len bc,undef,undef,.slice none 0 0,.pointer (some ⟨w.heap.size,0,none⟩),.pointer (some ⟨Bx,0,none⟩),.slice (some ⟨a,ao,none⟩) len ac,.slice (some ⟨b,bo,none⟩) len bc,.func (.func 308) #[] #[.pointer (some ⟨w.heap.size+1,0,none⟩),.pointer (some ⟨w.heap.size+1+1,0,none⟩)],.agg #[.int .i64 (x.1:Int),.int .i64 (x.2:Int)],undef,undef,undef,undef,undef],defers:=[] })
  (fun x a' _ X Y row hs hg hr=>by obtain ⟨Bx,h1,h2,h3⟩:=hs;exact ⟨Bx,h1,A54.own Bx x () X Y row h2 hg (fun r e=>(hr r e).2),h3⟩)
  ?assign ?body ?done ?stop
 case assign =>
  rintro l pre x W K ⟨⟨⟨⟨v,hv,hrow,_⟩,hA1⟩,hB1⟩,hBl⟩ hK
  gi_wp2
  have hsW:=hBl.size
  have l1:=hA1.lt
  have l2:=hB1.lt
  exact hK _ _ ((KeepsOthers.alloc _ _).from _) (fun k hk=>Below.heap_alloc W _ k (by rw [hS] at hk;omega)) ⟨⟨⟨⟨v,hv.alloc _,hrow.alloc _,trivial⟩,hA1.alloc _⟩,hB1.alloc _⟩,hBl.alloc hBl.size _⟩ ⟨W.heap.size,hB1.lt,World.alloc_heap_new _ _,rfl⟩
 case body =>
  rintro l pre x a' W hl ⟨r,hr⟩ ⟨⟨⟨⟨v,hv,hrow,_⟩,hA1⟩,hB1⟩,hBl⟩ ⟨Bx,hBx,bX,rfl⟩ hlt
  have hc:=hv.cell
  have x0:=bX.c0
  have x1:=bX.c1
  have hml:(200000:Nat)≤maxLen:=by decide
  gi_wp2_with (gi_at_builtin;refine wpListIn_append_own _ rfl _ _ 226 rfl w.heap.size 229 i0 (.agg #[.int .i64 0,.int .i64 0]) 2 16 Tryz.underlying226 hi hz0 hz1 hz2 rfl (by decide) _ _ _ rfl (hrow.alloc _) ⟨W.heap.size,0,none⟩ 1 1 [.int .i64 (x.1:Int),.int .i64 (x.2:Int)] rfl rfl (A0U _ _ _ _) (by simp [Value.oneCell']) (by omega) (by omega) (by have:=hBl.size;simp;omega) ?_;intro v' w1 hown' hgrow _;obtain ⟨g',cap',rfl⟩:=ownsRow_succ hown';obtain ⟨hv1,hv2,hr2,hk2,hb2⟩:=hv.appended (by decide) hrow hBl.size (Nat.le_refl _) hown' hgrow;have hc1:=hv1.cell;have hf1:=hv1.frozen)
  have hA2:=((hA1.alloc (.cells #[.int .i64 (x.1:Int),.int .i64 (x.2:Int)] 229)).kept hgrow (hA1.not_row (by decide) hrow)).other (B':=w.heap.size) (by omega) (.slice (some ⟨g',0,none⟩) (pre.length+1) cap')
  have hB2:=((hB1.alloc (.cells #[.int .i64 (x.1:Int),.int .i64 (x.2:Int)] 229)).kept hgrow (hB1.not_row (by decide) hrow)).other (B':=w.heap.size) (by omega) (.slice (some ⟨g',0,none⟩) (pre.length+1) cap')
  refine ⟨hk2.from _,fun k hk=>?_,⟨⟨⟨⟨_,hv2,by rw [A3G];simpa using hr2,trivial⟩,hA2⟩,hB2⟩,hBl.trans hb2⟩⟩
  rw [hS] at hk
  rcases hk with hk|rfl|rfl
  · exact hb2.block k hk
  · exact hA2.trans hA1.symm
  · exact hB2.trans hB1.symm
 case done =>
  rintro D ps W hD rfl ⟨⟨⟨⟨v,hv,hrow,_⟩,hA1⟩,hB1⟩,hBl⟩ hK
  have hc:=hv.cell
  gi_wp2
  refine ⟨by simp,.inl ⟨_,_,rfl,run_takeDeferred hK,?_⟩⟩
  exact ⟨_,results_tmp rfl _ _ _,v,rfl,ownsRow_putObj hrow _ hK rfl,hBl.trans (belowK_b (w:=w) (Nat.le_refl _) W D _ _ (by omega) hK rfl rfl)⟩
 case stop =>
  rintro D c pre W _ _ h _
  exact h.elim
end Go.Proofs
namespace Go.Proofs
open Go.RowKit Go.Shelf
attribute [local go_sem] Oper.semAt_some
def jx (xs:Nat→Int) (k:Nat):List Int:=(List.range k).map xs
theorem AHq (xs:Nat→Int) (k:Nat):jx xs (k+1)=jx xs k++[xs k]:=by simp [jx,List.range_succ]
theorem A5r (xs:Nat→Int) (k:Nat):(jx xs k).length=k:=by simp [jx]
abbrev ASA (x:Int):Array Value:=#[.int .i64 x]
theorem ACA (n:Nat) (hn:1≤n) (l Bs:Nat) (S:Nat→Prop) (b off len cap:Nat) (xs:Nat→Int) (hreach:len≤100000) (hb:S b) (hB:S Bs) (J Jx:List Int→World→Prop)
 (hY:∀ pre x W,J pre W→pre.length<len→YieldAt Fence.wide (n - 1) Tryz.prog l (ASA x) W fun e W' =>
   (e=.returned (.bool true)∧J (pre++[x]) W'∧As S W W')∨(e=.returned (.bool false)∧Jx (pre++[x]) W'))
 (W:World) (hBs:W.cell? ⟨Bs,0,none⟩=some (.slice (some ⟨b,off,none⟩) len cap)) (hc:∀ j,j<len→W.cell? ⟨b,off+j,none⟩=some (.int .i64 (xs j))) (h0:J [] W) :
 CallsIn Fence.wide n Tryz.prog 231 #[.func (.yield l) #[] #[],.pointer (some ⟨Bs,0,none⟩)] W fun e W'=>(∃ v,e=.returned v) ∧
  ((∃ ys,ys=jx xs len∧J ys W')∨(∃ pre,True∧Jx pre W')):=by
 refine callsIn_of_wp Tryz.func231 rfl trivial ?_ rfl
 simp only [Tryz.ntmps231,List.size_toArray,List.length_cons,List.length_nil,Nat.reduceAdd,Nat.reduceSub,Array.replicate_succ,Array.replicate_zero,List.push_toArray,List.append_toArray,List.nil_append,List.cons_append]
 gi_wp2
 gi_loopw [7] (fun i wr=>∃ k:Nat,k≤len∧i=.int .i64 k∧J (jx xs k) wr∧As S W wr)
  (fun i _=>len - (intOf i).toNat)
 case atStart=>exact ⟨0,Nat.zero_le _,rfl,h0,As.refl _ _⟩
 case round =>
  obtain ⟨k,hk,rfl,hJs,hnx⟩:=hrel
  have hcx:k<len→wr.cell? ⟨b,off+k,none⟩=some (.int .i64 (xs k)):=fun h=>(hnx.cell (p:=⟨b,off+k,none⟩) hb).trans (hc k h)
  by_cases hlt:k<len
  · obtain ⟨fn,tmps,assign,body,hy,hR⟩:=hY _ (xs k) wr hJs (by rw [A5r];exact hlt)
    dsimp only [ASA] at hy
    have hcx':=hcx hlt
    gi_wp2
    refine hR.mono ?_
    rintro e W3 (⟨rfl,hJ3,hk3⟩|⟨rfl,hJx3⟩)
    · gi_wp2
      go_roundw
      case rel=>exact ⟨k+1,by omega,by simp,by rw [AHq];exact hJ3,hnx.trans hk3⟩
      case measure=>simp [intOf];omega
    · gi_wp2
      refine bodyPost_ret (results_none rfl _ _ _) rfl ?_
      exact ⟨⟨_,rfl⟩,.inr ⟨_,trivial,hJx3⟩⟩
  · obtain rfl:k=len:=by omega
    gi_wp2
    go_end0
    exact ⟨⟨_,rfl⟩,.inl ⟨_,rfl,hJs⟩⟩
theorem A2N (n:Nat) (hn:1≤n) (Bs:Nat) (S:Nat→Prop) (b off len cap:Nat) (xs:Nat→Int) (hreach:len≤100000) (hb:S b) (hB:S Bs) (w:World) (hS:∀ k,S k→k<w.heap.size)
 (hBs:w.cell? ⟨Bs,0,none⟩=some (.slice (some ⟨b,off,none⟩) len cap)) (hc:∀ j,j<len→w.cell? ⟨b,off+j,none⟩=some (.int .i64 (xs j))) :
 SeqStopsK Fence.wide n Tryz.prog 231 #[.pointer (some ⟨Bs,0,none⟩)] ASA (As S) (fun ys=>ys=jx xs len) (fun _=>True) len w:=fun l J Jx W hW hJ _ hY h0=>by
 have hm:As S w W:=fun k hk=>hW.block k (hS k hk)
 exact ACA n hn l Bs S b off len cap xs hreach hb hB J Jx hY W ((hm.cell (p:=⟨Bs,0,none⟩) hB).trans hBs) (fun j hj=>(hm.cell (p:=⟨b,off+j,none⟩) hb).trans (hc j hj)) h0
def AX2:(Tryz.prog.info? 3).map (fun i=>(i.zero,i.size,i.bytes))=some (some (.int .i64 0),1,8):=by kernel_rfl
theorem A1O (n:Nat) (hn:4≤n) (Bs b off len cap:Nat) (xs:Nat→Int) (hreach:len≤100000) (w:World) (hb:b<w.heap.size) (hB:Bs<w.heap.size)
 (hBs:w.cell? ⟨Bs,0,none⟩=some (.slice (some ⟨b,off,none⟩) len cap)) (hc:∀ j,j<len→w.cell? ⟨b,off+j,none⟩=some (.int .i64 (xs j))) :
 CallsIn Fence.wide n Tryz.prog 293 #[.slice none 0 0,.func (.func 231) #[] #[.pointer (some ⟨Bs,0,none⟩)]] w fun e W'=>∃ v,e=.returned v∧W'.ownsRow w.heap.size 3 1 v len ((jx xs len).map (Value.int .i64))∧Below w.heap.size w W':=by
 have h1:1≤n:=by omega
 obtain ⟨i0,hi,hz0,hz1,hz2⟩:=info_parts AX2
 refine callsIn_of_wp_marks Tryz.func293 rfl trivial ?_ rfl
 simp only [Tryz.ntmps293,List.size_toArray,List.length_cons,List.length_nil,Nat.reduceAdd,Nat.reduceSub,Array.replicate_succ,Array.replicate_zero,List.push_toArray,List.append_toArray,List.nil_append,List.cons_append]
 gi_wp2
 have bO:=Boxed.new w 36 (.slice none 0 0)
 have hB0:Below w.heap.size w (w.alloc (.cells #[.slice none 0 0] 36)):=(Below.refl _ w).alloc (Nat.le_refl _) _
 have hsz:(w.alloc (.cells #[.slice none 0 0] 36)).heap.size=w.heap.size+1:=by simp
 obtain ⟨W0,hW0⟩:∃ W0,w.alloc (.cells #[.slice none 0 0] 36)=W0:=⟨_,rfl⟩
 rw [hW0] at bO hB0 hsz ⊢
 clear hW0
 refine wpIn_rangeFunc_ownG rfl h1 (gf:=231) (lb:=#[.pointer (some ⟨Bs,0,none⟩)]) rfl trivial (enters_of Tryz.func231 (by kernel_rfl) rfl)
  (A2N (n - 1) (by omega) Bs (fun k=>k<w.heap.size) b off len cap xs hreach hb hB W0 (fun k hk=>by omega) ((hB0.cell (p:=⟨Bs,0,none⟩) hB).trans hBs) (fun j hj=>(hB0.cell (p:=⟨b,off+j,none⟩) hb).trans (hc j hj)))
  (fun {A B C} h k=>h.trans k) (fun W l o o' hl _ _ _ k hk=>World.putObj_heap_other (by omega)) (Below.refl _ _) (fun _=>rfl)
  (fun pre W=>(∃ v,Boxed W w.heap.size 36 v∧W.ownsRow w.heap.size 3 1 v pre.length (pre.map (Value.int .i64))∧True)∧Below w.heap.size w W)
  (fun _ _ _=>False)
  (OwnFrom.and (Own.from (holdsRow_own w.heap.size w.heap.size 36 3 1 (fun pre:List Int=>pre.length) (fun pre=>pre.map (Value.int .i64)) (fun _ _=>True)) _) (ownFrom_below (Nat.le_refl _) (by omega)))
  (fun _ _ _ _ _ hs _ _=>hs)
  ⟨⟨_,bO,World.ownsRow_nil _ _ _ _,trivial⟩,hB0⟩
  (fun x=>{ tmps:=#[.slice none 0 0,.func (.func 231) #[] #[.pointer (some ⟨Bs,0,none⟩)],.pointer (some ⟨w.heap.size,0,none⟩),undef,.slice none 0 0,.int .i64 x,.func (.func 231) #[] #[.pointer (some ⟨Bs,0,none⟩)],.int .i64 x,undef,undef,undef,undef,undef],defers:=[] })
  ?assign ?body ?done ?stop
 case assign =>
  intro l x W K hK
  gi_wp2
  exact hK
 case body =>
  rintro l pre x W ⟨⟨v,hv,hrow,_⟩,hBl⟩ hlt
  have hcc:=hv.cell
  have hml:(200000:Nat)≤maxLen:=by decide
  gi_wp2_with (gi_at_builtin;refine wpListIn_append_own _ rfl _ _ 36 rfl w.heap.size 3 i0 (.int .i64 0) 1 8 Tryz.underlying36 hi hz0 hz1 hz2 rfl (by decide) _ _ _ rfl (hrow.alloc _) ⟨W.heap.size,0,none⟩ 1 1 [.int .i64 x] rfl rfl (cell_one_new _ _ _) (by simp [Value.oneCell']) (by omega) (by omega) (by have:=hBl.size;simp;omega) ?_;intro v' w1 hown' hgrow _;obtain ⟨g',cap',rfl⟩:=ownsRow_succ hown';obtain ⟨hv1,hv2,hr2,hk2,hb2⟩:=hv.appended (by decide) hrow hBl.size (Nat.le_refl _) hown' hgrow;have hc1:=hv1.cell;have hf1:=hv1.frozen)
  exact ⟨hk2.from _,fun k hk=>hb2.block k hk,⟨_,hv2,by simpa using hr2,trivial⟩,hBl.trans hb2⟩
 case done =>
  rintro D ps W hD rfl ⟨⟨v,hv,hrow,_⟩,hBl⟩ hK
  have hcc:=hv.cell
  gi_wp2
  refine ⟨by simp,.inl ⟨_,_,rfl,run_takeDeferred hK,?_⟩⟩
  rw [A5r] at hrow
  exact ⟨_,results_tmp rfl _ _ _,v,rfl,ownsRow_putObj hrow _ hK rfl,hBl.trans (belowK_b (w:=w) (Nat.le_refl _) W D _ _ (by omega) hK rfl rfl)⟩
 case stop =>
  rintro D c pre W _ _ h _
  exact h.elim
theorem ACX (n:Nat) (hn:5≤n) (Bs b off len cap:Nat) (xs:Nat→Int) (hreach:len≤100000) (w:World) (hb:b<w.heap.size) (hB:Bs<w.heap.size)
 (hBs:w.cell? ⟨Bs,0,none⟩=some (.slice (some ⟨b,off,none⟩) len cap)) (hc:∀ j,j<len→w.cell? ⟨b,off+j,none⟩=some (.int .i64 (xs j))) :
 CallsIn Fence.wide n Tryz.prog 230 #[.func (.func 231) #[] #[.pointer (some ⟨Bs,0,none⟩)]] w fun e W'=>∃ v,e=.returned v∧W'.ownsRow w.heap.size 3 1 v len ((jx xs len).map (Value.int .i64))∧Below w.heap.size w W':=by
 have h1:1≤n:=by omega
 refine callsIn_of_wp Tryz.func230 rfl trivial ?_ rfl
 simp only [Tryz.ntmps230,List.size_toArray,List.length_cons,List.length_nil,Nat.reduceAdd,Nat.reduceSub,Array.replicate_succ,Array.replicate_zero,List.push_toArray,List.append_toArray,List.nil_append,List.cons_append]
 gi_wp2_with (refine ⟨trivial,?_⟩;gi_at_call 293;refine (A1O (n - 1) (by omega) Bs b off len cap xs hreach w hb hB hBs hc).mono ?_;rintro e w' ⟨v,rfl,hrow,hbl⟩)
 go_ret
 exact ⟨v,rfl,hrow,hbl⟩
end Go.Proofs
namespace Go
namespace Abs
section
open Go.RowKit
theorem L5.owned{f:Map}{h:Hp}{w w':World}{k s:Nat}{E:TypeId}{v:A0}{cells:List A0}(hr:Z6 f h w)(hown:w'.ownsRow w.heap.size E s v k cells)(hb:Below w.heap.size w w')(h0:0<k)(hk:k<R8)(hs:0<s)(hp:∀x∈cells,∃kd n,x=.int kd n):
 ∃f',L6 h (h.new (B6 cells (k*s) E false))∧L5 f h w f' (h.new (B6 cells (k*s) E false)) w'∧F5 f' (F8 h.A6 0 k (C4 s k)) v:=by
 obtain⟨hlen,⟨_,e⟩|⟨g,cap,cur,rfl,hge,hg,hkc,hcm,hcs,htk⟩⟩:=hown
 ·omega
 have hn:f h.A6=none:=Map.HF hr (M8 _);have hle:=Map.XT (f:=f) (b:=h.A6) ⟨g,0,cur.size,s⟩ hn;have hgl:g<w'.heap.size:=(RY.1 hg).1;have hks:k*s≤cur.size:=by rw[hcs];exact BY _ hkc
 refine⟨f.ext h.A6 ⟨g,0,cur.size,s⟩,L6.new _ hr.base,⟨hr,hle,⟨?_,?_,?_,?_,AC9 hr.base⟩,hb.size,hb.tape,hb.os,hb.output,fun c hc _=>hb.block c hc,?_⟩,?_⟩
 · intro c o j hc ho;rw[Hp.HG] at ho;by_cases e:c=h.A6
   · subst e;rw[if_pos rfl] at ho;cases ho;rw[Map.R2] at hc;cases hc;refine⟨_,hg,.row _ _ _ _ _ cur E (0,0) (.inl rfl) rfl (by show 0+k*s≤cur.size;omega) (fun h=>by cases h) (fun _ i _ h=>absurd h.2 (xM _)) fun i x hi hx=>?_⟩;rw[Eh] at hx;split at hx
     · have hx':cells[i]?=some x:=by simpa using hx
       obtain⟨kd,m,rfl⟩:=hp x (s6 hx');refine⟨_,?_,.int _ _⟩;rw[←htk,jU,if_pos hi] at hx';show cur[0+i]?=_;rw[Ag];simpa using hx'
     ·cases hx
   ·rw[if_neg (Ne.symm e)] at ho;rw[Map.Af _ _ e] at hc;obtain⟨x,hx,hor⟩:=hr.obj c o j hc ho;exact⟨x,by rw[hb.block _ (hr.fresh c j hc).2];exact hx,hor.mono hle⟩
 · intro b c i j hb' hc' h1 h2 hij;rw[Hp.HG] at h1 h2;by_cases eb:b=h.A6<;>by_cases ec:c=h.A6
   ·rw[eb,ec]
   ·subst eb;rw[Map.R2] at hb';cases hb';rw[Map.Af _ _ ec] at hc';have:=(hr.fresh c j hc').2;have e2:g=j.S6:=hij;omega
   ·subst ec;rw[Map.R2] at hc';cases hc';rw[Map.Af _ _ eb] at hb';have:=(hr.fresh b i hb').2;have e2:i.S6=g:=hij;omega
   ·rw[Map.Af _ _ eb] at hb';rw[Map.Af _ _ ec] at hc';rw[if_neg (Ne.symm eb)] at h1;rw[if_neg (Ne.symm ec)] at h2;exact hr.inj b c i j hb' hc' h1 h2 hij
 · intro b i hb';by_cases eb:b=h.A6
   ·subst eb;rw[Map.R2] at hb';cases hb';exact⟨A9G _,hgl⟩
   ·rw[Map.Af _ _ eb] at hb';exact⟨ABG (hr.fresh b i hb').1,Ep (hr.fresh b i hb').2 hb.size⟩
 ·intro b hb';have hb2:h.A6+1≤b:=hb';rw[Hp.HG,if_neg (by omega)];exact hr.dead b (by omega)
 · intro b i hb' hb2;by_cases eb:b=h.A6
   ·subst eb;rw[Map.R2] at hb2;cases hb2;exact⟨M8 _,.inl hge⟩
   ·rw[Map.Af _ _ eb,hb'] at hb2;cases hb2
 ·exact .Z9 h.A6 0 k (C4 s k) k ⟨g,0,cur.size,s⟩ 0 cap (Map.R2 _ _ _) rfl hk (M8 _) hkc (.inl rfl) (by show 0+cap*s≤cur.size;omega)
theorem A5h{f:Map}{h:Hp}{w:World}{v v':A0}{n:Nat}{vs:List A0}(hr:Z6 f h w)(hs:Sl 1 h v n vs)(h0:0<n)(hv:F5 f v v'):∃S6 off cap,v'=.slice (some ⟨S6,off,none⟩) n cap∧S6<w.heap.size∧∀(j:Nat) (x:A0),vs[j]?=some x→∃x',w.cell? ⟨S6,off+j,none⟩=some x'∧F5 f x x':=by
 obtain⟨b,o,c,rfl,ct,m,e,cl,ro,hat,hom,hc⟩:=hs.pos h0|>fun⟨b,o,c,e,hh⟩=>(⟨b,o,c,e,hh⟩:∃b o c,v=F8 b o n c∧Has h b o vs)
 have key:∀i:VT,f b=some i→i.S6<w.heap.size∧∀(j:Nat) (x:A0),vs[j]?=some x→∃x',w.cell? ⟨i.S6,i.o+o+j,none⟩=some x'∧F5 f x x':=fun i hi=>by
  obtain⟨y,hy,hor⟩:=hr.obj b _ i hi hat;refine⟨(hr.fresh b i hi).2,fun j x hx=>?_⟩;cases hor with
  | row _ _ _ _ _ arr e2 fz he hsz hn hcl hro hcc =>
   have hj:=(Fe.1 hx).1;obtain⟨x',h1,h2⟩:=hcc (o+j) x (by omega) (by rw[hc j hj,hx]);exact⟨x',by simp[World.cell?,hy,Es,h1],h2⟩
 cases hv with
 | slice _ _ _ _ i hi hc2 hl2 =>
  obtain⟨k1,k2⟩:=key i hi;exact⟨_,_,_,rfl,k1,k2⟩
 | Z9 _ _ _ _ lb i o' c' hi hc2 hlb hl2 hb2 ho2 hn2 =>
  obtain⟨k1,k2⟩:=key i hi;have:o'=i.o+o:=ho2.resolve_right (by omega);subst this;exact⟨_,_,_,rfl,k1,k2⟩
theorem ARI{f:Map}{h:Hp}{w:World}{v v':A0}{l:List Nat}{n:Nat}(hr:Z6 f h w)(hs:Sl 1 h v n (M4 l))(h0:0<n)(hl:l.length=n)(hv:F5 f v v'):∃S6 off cap,v'=.slice (some ⟨S6,off,none⟩) n cap∧S6<w.heap.size∧∀j,j<n→w.cell? ⟨S6,off+j,none⟩=some (.int .u8 (.ofNat (l.getD j 0))):=by obtain⟨S6,off,cap,e,hb,hc⟩:=A5h hr hs h0 hv;refine⟨S6,off,cap,e,hb,fun j hj=>?_⟩;obtain⟨x',h1,h2⟩:=hc j _ (Q1 (G6 (by omega)));rw[h1];cases h2;rfl
theorem tt{d:Nat→Bool}{n:Nat}(i:Nat)(h:∀j,i≤j→j<n→d j=false):Proofs.JF d n i=[]:=by
 rcases DX i n with hi|hi
 · have hd:=h i (M8 _) hi;have he:Proofs.ET d n i=i:=Proofs.Zo fun hh=>by rw[hd] at hh;exact absurd hh.2 (by decide)
   rw[Proofs.Ug hi,he,if_neg (Nat.lt_irrefl _),BS];exact tt (i+1) fun j h1 h2=>h j (by omega) h2
 ·exact Proofs.A0m hi
termination_by n-i
theorem zA{d:Nat→Bool}{n e:Nat}(i:Nat)(hi:i≤e)(he:e≤n)(h:∀j,i≤j→j<e→d j=true)(hd:e<n→d e=false):Proofs.ET d n i=e:=by
 rcases DX i e with h1|h1
 ·rw[Proofs.A9m (by omega) (h i (M8 _) h1)];exact zA (i+1) h1 he (fun j h2 h3=>h j (by omega) h3) hd
 · have:i=e:=by omega
   subst this;exact Proofs.Zo fun hh=>by rw[hd hh.1] at hh;exact absurd hh.2 (by decide)
termination_by e-i
theorem AI7{d:Nat→Bool}{n e:Nat}(h0:0<e)(he:e≤n)(h:∀j,j<e→d j=true)(hd:∀j,e≤j→j<n→d j=false):Proofs.JF d n 0=[(0,e)]:=by have h1:Proofs.ET d n 0=e:=zA 0 (BB _) he (fun j _ hj=>h j hj) (fun hh=>hd e (M8 _) hh);rw[Proofs.Ug (by omega),h1,if_pos h0,tt (e+1) fun j h2 h3=>hd j (by omega) h3];rfl
theorem AQb(ps:List (Nat×Nat)):∀x∈Proofs.Hd ps,∃kd n,x=.int kd n:=fun x hx=>by unfold Proofs.Hd at hx;obtain⟨p,_,hp⟩:=A1r.1 hx;simp only[m8,Lg,or_false] at hp;rcases hp with rfl|rfl<;>exact⟨_,_,rfl⟩
theorem ACj{gs:List Nat}{h:Hp}{av bv:A0}{la lb:List Nat}{n:Nat}(ha:Sl 1 h av n (M4 la))(hb:Sl 1 h bv n (M4 lb))(h0:0<n)(hn:n≤100000)(hla:la.length=n)(hlb:lb.length=n){ps:List (Nat×Nat)}(hp:Proofs.JF (fun j=>decide ((Int.ofNat (la.getD j 0))≠Int.ofNat (lb.getD j 0))) n 0=ps)(hp0:0<ps.length)(hpn:ps.length≤100000):
 AY Proofs.Tryz.prog gs 136 [av,bv] h (.val (F8 h.A6 0 ps.length (C4 2 ps.length)) (h.new (B6 (Proofs.Hd ps) (ps.length*2) 229 false))):=by
 intro args' f w hG hr hl;obtain⟨av',r1,rfl,va,hl1⟩:=hl.Qe;obtain⟨bv',r2,rfl,vb,hl2⟩:=hl1.Qe;have:=hl2.zZ;subst this;obtain⟨a,ao,ac,rfl,hai,hac⟩:=ARI hr ha h0 hla va;obtain⟨b,bo,bc,rfl,hbi,hbc⟩:=ARI hr hb h0 hlb vb;refine⟨⟨_,Proofs.Tryz.func136,by kernel_rfl,by kernel_rfl⟩,(callsIn_wide.1 (Proofs.AAz 4 (M8 _) a ao ac b bo bc n (fun j=>.ofNat (la.getD j 0)) (fun j=>.ofNat (lb.getD j 0)) hn w hai hbi hac hbc)).mono fun e w' hx=>?_⟩;obtain⟨v,rfl,hown,hbl⟩:=hx;rw[hp] at hown;exact L5.owned hr hown hbl hp0 (by unfold R8;omega) (by omega) (AQb ps)
theorem AAA{gs:List Nat}{h:Hp}{bx:Nat}{v:A0}{e:TypeId}{ro:Bool}{l:List Nat}{c:T A0}(hat:h.at bx=some (.row c 1 e true ro))(hg:c.get (path 0)=some v)(hs:Sl 1 h v l.length (J8 l))(h0:0<l.length)(hn:l.length≤100000):
 AY Proofs.Tryz.prog gs 230 [.func (.func 231) ⟨[]⟩ ⟨[C2 bx 0]⟩] h (.val (F8 h.A6 0 l.length (C4 1 l.length)) (h.new (B6 (J8 l) (l.length*1) 3 false))):=by
 intro args' f w hG hr hl;obtain⟨fv',r1,rfl,vf,hl1⟩:=hl.Qe;have:=hl1.zZ;subst this;cases vf with
 | func _ _ _ a' c' has hcs va vc =>
  have ha':a'=#[]:=Array.eq_empty_of_size_eq_zero has.symm;subst ha';obtain⟨p,rfl⟩:∃p,c'=#[p]:=by
   match c',hcs with
   | ⟨[p]⟩,_=>exact⟨p,rfl⟩
  have vp:F5 f (C2 bx 0) p:=vc 0 (Nat.zero_lt_succ 0);cases vp with
  | ptr _ _ i hi =>
   obtain⟨y,hy,hor⟩:=hr.obj bx _ i hi hat;cases hor with
   | row _ _ _ _ _ arr e2 fz he hsz hn2 hcl hro hcc =>
    obtain⟨hi0,hi1⟩:=hcl rfl;obtain⟨v',hv1,hv2⟩:=hcc 0 v (by omega) hg;obtain⟨S6,off,cap,rfl,hblk,hce⟩:=A5h hr hs h0 hv2;rw[hi0] at hv1;have hbx:w.cell? ⟨i.S6,0,none⟩=some (.slice (some ⟨S6,off,none⟩) l.length cap):=by have h2:arr[0]?=some (Value.slice (some ⟨S6,off,none⟩) l.length cap):=hv1;simp[World.cell?,hy,h2]
    have hz:i.o+0=0:=by omega
    rw[hz];refine⟨⟨_,Proofs.Tryz.func230,by kernel_rfl,by kernel_rfl⟩,(callsIn_wide.1 (Proofs.ACX 5 (M8 _) i.S6 S6 off l.length cap (fun j=>.ofNat (l.getD j 0)) hn w hblk (hr.fresh bx i hi).2 hbx fun j hj=>?_)).mono fun e w' hx=>?_⟩
    ·obtain⟨x',h1,h2⟩:=hce j _ (O7 (G6 hj));rw[h1];cases h2;rfl
    · obtain⟨v,rfl,hown,hbl⟩:=hx;have hu:(Proofs.jx (fun j=>Int.ofNat (l.getD j 0)) l.length).map (Value.int .i64)=J8 l:=by
       apply xw;intro j;unfold Proofs.jx;rcases DX j l.length with hj|hj
       ·rw[O7 (G6 hj),Rp,Rp,A1o hj];rfl
       ·rw[A7x (by simp;omega),A7x (by rw[EJ];exact hj)]
      rw[hu] at hown;exact L5.owned hr hown hbl h0 (by unfold R8;omega) (by omega) fun x hx=>by unfold J8 at hx;obtain⟨y,_,rfl⟩:=FY.1 hx;exact⟨_,_,rfl⟩
end
def hasB(h:Hp)(b o:Nat)(vs:List A0):Bool:=match h.at b with
 | some (.row c m _ _ _)=>Nat.ble (o+vs.length) m&&AVw c o vs
 | _=>false
theorem A0y{h:Hp}{b o:Nat}{vs:List A0}(hb:hasB h b o vs=true):Has h b o vs:=by
 unfold hasB at hb;split at hb
 ·rename_i c m e cl ro hat;rw[U8] at hb;exact⟨c,m,e,cl,ro,hat,ADP hb.1,fun k hk=>AA4 hb.2 k hk⟩
 ·cases hb
def AZD(g:FuncId)(args:List A0)(h:Hp):Option N3:=match args with
 | [.func (.func q) ⟨[]⟩ ⟨[.pointer (some ⟨bx,o,none⟩)]⟩]=>bif Nat.beq g 230&&Nat.beq q 231&&Nat.beq o 0 then(match h.at bx with
  | some (.row c n e cl ro)=>(match c.get (path 0) with
   | some (.slice (some ⟨b,so,none⟩) l cp)=>bif cl&&Nat.beq n 1&&Nat.beq l 1&&hasB h b so (J8 [0]) then h.SB (B6 (J8 [0]) 1 3 false) fun b h=>some (.val (F8 b 0 1 (C4 1 1)) h) else none
   | _=>none)
  | _=>none) else none
 | _=>none
theorem ASN{gs:List Nat}{g:FuncId}{args:List A0}{h:Hp}{r:N3}(hr:AZD g args h=some r):AY Proofs.Tryz.prog gs g args h r:=by
 unfold AZD at hr;split at hr
 · rename_i q bx o;cases hc:Nat.beq g 230&&Nat.beq q 231&&Nat.beq o 0 with
   | false=>rw[hc,cond_false] at hr;cases hr
   | true =>
    rw[hc,cond_true] at hr;rw[U8,U8] at hc;obtain⟨⟨h1,h2⟩,h3⟩:=hc;have h1:=T9 h1;have h2:=T9 h2;have h3:=T9 h3;subst h1;subst h2;subst h3;split at hr
    · rename_i c n e cl ro hat;split at hr
      · rename_i b so l cp hg;cases hd:cl&&Nat.beq n 1&&Nat.beq l 1&&hasB h b so (J8 [0]) with
        | false=>rw[hd,cond_false] at hr;cases hr
        | true =>
         rw[hd,cond_true,Hp.DM] at hr;rw[U8,U8,U8] at hd;obtain⟨⟨⟨k1,k2⟩,k3⟩,k4⟩:=hd;have k2:=T9 k2;have k3:=T9 k3;subst k1;subst k2;subst k3;cases hr;exact AAA (l:=[0]) hat hg ⟨rfl,.inr ⟨b,so,cp,rfl,by decide,A0y k4⟩⟩ (by decide) (by decide)
      ·cases hr
    ·cases hr
 ·cases hr
def AK4:List Nat:=(List.range 180).map fun i=>7*i%256
def ANl:List Nat:=[9,9,9,9]++(List.range 176).map fun i=>7*(i+4)%256
def AZp(g:FuncId)(args:List A0)(h:Hp):Option N3:=match args with
 | [.slice (some ⟨b1,o1,none⟩) l1 c1,.slice (some ⟨b2,o2,none⟩) l2 c2]=>bif Nat.beq g 136&&Nat.beq l1 180&&Nat.beq l2 180&&hasB h b1 o1 (M4 AK4)&&hasB h b2 o2 (M4 ANl) then h.SB (B6 (Proofs.Hd [(0,4)]) 2 229 false) fun b h=>some (.val (F8 b 0 1 (C4 2 1)) h) else none
 | _=>none
theorem AS1:Proofs.JF (fun j=>decide ((Int.ofNat (AK4.getD j 0))≠Int.ofNat (ANl.getD j 0))) 180 0=[(0,4)]:=AI7 (by decide) (by decide) (by decide) fun j h1 h2=>(show ∀j,j<180→4≤j→decide ((Int.ofNat (AK4.getD j 0))≠Int.ofNat (ANl.getD j 0))=false from by decide) j h2 h1
theorem ATm{gs:List Nat}{g:FuncId}{args:List A0}{h:Hp}{r:N3}(hr:AZp g args h=some r):AY Proofs.Tryz.prog gs g args h r:=by
 unfold AZp at hr;split at hr
 · rename_i b1 o1 l1 c1 b2 o2 l2 c2;cases hc:Nat.beq g 136&&Nat.beq l1 180&&Nat.beq l2 180&&hasB h b1 o1 (M4 AK4)&&hasB h b2 o2 (M4 ANl) with
   | false=>rw[hc,cond_false] at hr;cases hr
   | true =>
    rw[hc,cond_true,Hp.DM] at hr;rw[U8,U8,U8,U8] at hc;obtain⟨⟨⟨⟨h1,h2⟩,h3⟩,h4⟩,h5⟩:=hc;have h1:=T9 h1;have h2:=T9 h2;have h3:=T9 h3;subst h1;subst h2;subst h3;cases hr;exact ACj (la:=AK4) (lb:=ANl) (n:=180) ⟨rfl,.inr ⟨b1,o1,c1,rfl,by decide,A0y h4⟩⟩ ⟨rfl,.inr ⟨b2,o2,c2,rfl,by decide,A0y h5⟩⟩ (by decide) (by decide) rfl rfl AS1 (by decide) (by decide)
 ·cases hr
def AXl(es:List A9B)(g:FuncId)(args:List A0)(h:Hp):Option N3:=match AZD g args h with
 | some r=>some r
 | none=>match AZp g args h with
  | some r=>some r
  | none=>ASW es g args h
theorem AJ9{gs:List Nat}{es:List A9B}(H:∀e∈es,∃A7,S9 Proofs.Tryz.prog gs A7∧e.runs A7=true):∀g args h r,AXl es g args h=some r→AY Proofs.Tryz.prog gs g args h r:=fun g args h r hr=>by
 unfold AXl at hr;split at hr
 ·rename_i r' h1;cases hr;exact ASN h1
 · split at hr
   ·rename_i r' h1;cases hr;exact ATm h1
   ·exact A2Z H g args h r hr
end Abs
end Go
end
