/- Part of the proof that the laws answer true for every input. -/
import Derived.Test.YtjpakklplhabdaaGreatPGaA14
import Derived.RangeFuncNested
import Derived.RangeFuncBound
import Derived.RangeFuncCalls
import Derived.RangeFuncLeaves
import Derived.RangeFuncFrom
import Derived.Shelf.Abstract
import Derived.Shelf.RegionOpen
import Derived.OwnWalkIn
import Derived.TacticsInMore
import Derived.LoopNIn
import Derived.LoopIn
set_option linter.unusedSimpArgs false
set_option linter.unnecessarySimpa false
set_option linter.unusedVariables false
set_option maxRecDepth 100000
set_option maxHeartbeats 40000000
namespace Go.Proofs.YtjpakklplhabdaaGreat
open Go.RowKit Go.Shelf
attribute [local go_sem ↓] Go.wp_at_zero Go.wp_at_succ
attribute [local go_sem] Oper.semAt_some
theorem xt {T:Nat→Prop} {A B C:World} (h:Agree T A B) (k:Agree T B C):Agree T A C:=h.trans k
theorem xr {T:Nat→Prop} {w:World} (hT:∀b,T b→b<w.heap.size) (W:World) (l:Nat) (o o':Obj) (hl:w.heap.size≤l) (h:W.heap[l]? =some o) (_:o.isCells=false) (_:o.isWalk=false):Agree T W (W.putObj l o'):=
 .of_grown (grownBy_putObj' W l o') fun b hb e=>by
  have:=hT b hb
  cases e
  omega
theorem yU {w w':World} (h:Below w.heap.size w w'):KeepsOthers w w':=
 ⟨h.size,fun k o hk _=>(h.block k (Array.getElem?_eq_some_iff.1 hk).1).trans hk⟩
def pairsM (st:Moves):List (Nat×List Int):=(List.range st.length).flatMap fun s=>(nthM st s).map fun m=>(s,m)
def pairsTo (st:Moves) (k:Nat):List (Nat×List Int):=(List.range k).flatMap fun s=>(nthM st s).map fun m=>(s,m)
theorem yJ (st:Moves) (k:Nat):pairsTo st (k+1)=pairsTo st k++(nthM st k).map fun m=>(k,m):=by
 unfold pairsTo;rw[List.range_succ,List.flatMap_append,List.flatMap_singleton]
theorem yY (st:Moves):pairsTo st st.length=pairsM st:=rfl
theorem qN {st:Moves} {k j:Nat} (h:k<st.length):pairsTo st k++((nthM st k).take j).map (fun m=>(k,m))<+:pairsM st:=by
 have h1:pairsTo st (k+1)<+:pairsM st:=by
  rw[←yY]
  unfold pairsTo
  obtain ⟨d,hd⟩:∃d,st.length=(k+1)+d:=⟨st.length - (k+1),by omega⟩
  rw[hd,show List.range (k+1+d)=List.range (k+1)++(List.range d).map (k+1+·) from List.range_add ..,List.flatMap_append]
  exact List.prefix_append _ _
 refine List.IsPrefix.trans ?_ h1
 rw[yJ]
 refine (List.prefix_append_right_inj _).2 ?_
 rw[List.map_take]
 exact List.take_prefix _ _
theorem Yw {l:List (List Int)} {j k:Nat} (h:j<l.length):(l.take (j+1)).map (fun m=>(k,m))=(l.take j).map (fun m=>(k,m))++[(k,nthL l j)]:=by
 rw[yP h];simp
theorem yZ (st:Moves):(pairsM st).length=movesN st:=by
 have:∀k,k≤st.length→(pairsTo st k).length=movesN (st.take k):=by
  intro k
  induction k with
  | zero=>intro _;simp[pairsTo,movesN]
  | succ k ih=>
   intro hk
   rw[yJ,List.length_append,List.length_map,ih (by omega),qY (by omega)]
 rw[←yY,this _ (Nat.le_refl _),List.take_length]
theorem qU {Px:Nat×List Int→Prop} {S T:Nat→Prop} {w:World} {n B:Nat} (hn:1≤n) {N:Int} {sa:Option Addr} {sc:Nat} {st:Moves} (R1:Row w B 27 [.int .i64 N,.slice sa st.length sc]) (hs:Sl (kSl (kFlat 8)) S w (.slice sa st.length sc) st) (hT1:T B) (hTS:∀b,S b→T b) (hTw:∀b,T b→b<w.heap.size) (hPx:∀k,k<st.length→∀j,j<(nthM st k).length→Px (k,nthL (nthM st k) j)):
  SeqStopsK Fence.wide n Tryz.prog 140 #[.pointer (some ⟨B,0,none⟩)] (fun x:{x:Nat×List Int // Px x}=>#[.int .i64 x.1.1,mL x.1.2]) (Agree T) (fun xs=>xs.map (·.1)=pairsM st) (fun pre=>pre.map (·.1)<+:pairsM st) (pairsM st).length w:=by
 intro l J Jx W hW hJ hJx hY h0
 have Q:=hs.idxS
 have HS:=zhd hs
 have hst:=hs.addr
 obtain ⟨_,_,_,hm⟩:=hst
 have HY:=zhd hY
 have H0:=zhd h0
 have HJ:=zhd hJ
 have R1:=R1.ext hW
 have HTS:=zhd hTS
 have HTw:=zhd hTw
 have HPX0:=zhd hPx
 have p1:=R1.zc 1 rfl
 have hag:Agree T W W:=.refl _ _
 have hWs:=hW.size
 have AG:Hid (∀W',Agree T W W'→Sl (kSl (kFlat 8)) S W' (.slice sa st.length sc) st):=zhd fun W' h=>(hs.ext hW).agree (h.mono hTS)
 clear hs hJ hJx hY h0 hTS hTw hPx
 refine callsIn_of_wp Tryz.func140 rfl trivial ?_ rfl
 simp only[Tryz.ntmps140,List.size_toArray,List.length_cons,List.length_nil,Nat.reduceAdd,Nat.reduceSub,Array.replicate_succ,Array.replicate_zero,List.push_toArray,List.append_toArray,List.nil_append,List.cons_append]
 gi_wp2
 gi_loopw [3,4,10] (fun _ _ i wr=>∃(k:Nat) (pre:List {x:Nat×List Int // Px x}),k≤st.length∧i=.int .i64 k∧Hid (J pre wr)∧Hid (pre.map (·.1)=pairsTo st k)∧Agree T W wr) (fun _ _ i _=>st.length - (intOf i).toNat)
 case atStart=>exact ⟨0,[],Nat.zero_le _,rfl,H0,zhd rfl,hag⟩
 case round=>
  obtain ⟨k,pre,hk,rfl,HJs,HP,hA⟩:=hrel
  obtain ⟨wo,hwo⟩:∃wo:World,wo=wr:=⟨_,rfl⟩
  rw[←hwo]at HJs hA ⊢
  clear hwo
  by_cases hlt:k<st.length
  ·have q:=Q.out k hlt
   obtain ⟨b,c,cu,hrow⟩:=(AG.out wo hA).mrow (.refl _ _) hlt
   have HFT:=zhd (yJ st k)
   have HFP:=zhd (fun j=>qN (st:=st) (k:=k) (j:=j) hlt)
   have HMT:=zhd fun j (h:j<(nthM st k).length)=>Yw (k:=k) h
   have hrl:(nthM st k).length≤140737488355328:=hrow.few
   have HTL:Hid ((nthM st k).take (nthM st k).length=nthM st k):=zhd (List.take_length ..)
   have HPI:Hid (pre.map (·.1)=pairsTo st k++((nthM st k).take 0).map (fun m=>(k,m))):=zhd (by simpa using HP.out)
   have HRW:Hid (∀W',Agree T W W'→Sl (kFlat 8) S W' (.slice b (nthM st k).length c) (nthM st k)):=zhd fun W' h=>by
    obtain ⟨b',c',cu',hrow'⟩:=(AG.out W' h).mrow (.refl _ _) hlt
    have e1:W'.cell? (adr sa k)=wo.cell? (adr sa k):=by
     have had:=HS.out.ad.1
     rw[had.cell ((Agree.of_ext hW).trans (h.mono HTS.out)) hlt,had.cell ((Agree.of_ext hW).trans (hA.mono HTS.out)) hlt]
    rw[cu',cu]at e1
    injection e1 with e1
    rw[e1]at hrow'
    exact hrow'
   have QM:=hrow.idxM
   have HPJ:=zhd (HPX0.out k hlt)
   obtain ⟨r,hr⟩:∃r,r=nthM st k:=⟨_,rfl⟩
   rw[←hr]at cu HFT HFP HMT hrl HTL HPI HRW QM HPJ
   clear hrow hr
   gi_wp2
   gi_loopw [17] (fun i wi=>∃(j:Nat) (pre:List {x:Nat×List Int // Px x}),j≤r.length∧i=.int .i64 j∧Hid (J pre wi)∧Hid (pre.map (·.1)=pairsTo st k++(r.take j).map (fun m=>(k,m)))∧Agree T W wi) (fun i _=>r.length - (intOf i).toNat)
   case atStart=>exact ⟨0,pre,Nat.zero_le _,rfl,HJs,HPI,hA⟩
   case round=>
    clear HJs HP hA HPI cu
    obtain ⟨j,pre,hj,rfl,HJs,HP,hA⟩:=hrel
    by_cases hjl:j<r.length
    ·have qr:=QM.out j hjl
     have hz:=(HRW.out wr hA).nums hjl (by decide)
     have z0:=hz.1
     have z1:=hz.2 1 (by decide)
     have z2:=hz.2 2 (by decide)
     have z3:=hz.2 3 (by decide)
     have z4:=hz.2 4 (by decide)
     have z5:=hz.2 5 (by decide)
     have z6:=hz.2 6 (by decide)
     have z7:=hz.2 7 (by decide)
     have hbk:=zI (HRW.out wr hA).ad.1 (show 0<r.length by omega) (j * 8)
     have hpl:pre.length<(pairsM st).length:=by
      have h2:=(HFP.out (j+1)).length_le
      rw[HMT.out j hjl,←List.append_assoc,←HP.out,List.length_append,List.length_map]at h2
      simp at h2
      omega
     have hpx:Px (k,nthL r j):=HPJ.out j hjl
     obtain ⟨m,hm'⟩:∃m,m=nthL r j:=⟨_,rfl⟩
     rw[←hm']at hpx
     have HPN:Hid ((pre++[(⟨(k,m),hpx⟩:{x:Nat×List Int // Px x})]).map (·.1)=pairsTo st k++(r.take (j+1)).map (fun m=>(k,m))):=zhd (by rw[HMT.out j hjl,List.map_append,HP.out,List.append_assoc];simp only[List.map_cons,List.map_nil,hm'])
     have HPX:Hid ((pre++[(⟨(k,m),hpx⟩:{x:Nat×List Int // Px x})]).map (·.1)<+:pairsM st):=zhd (by rw[HPN.out];exact HFP.out (j+1))
     rw[←hm']at z0 z1 z2 z3 z4 z5 z6 z7
     have hA2:Agree T W (wr.alloc (.cells #[.int .i64 (nth m 0),.int .i64 (nth m 1),.int .i64 (nth m 2),.int .i64 (nth m 3),.int .i64 (nth m 4),.int .i64 (nth m 5),.int .i64 (nth m 6),.int .i64 (nth m 7)] 69)):=hA.alloc _
     have HJ2:J pre (wr.alloc (.cells #[.int .i64 (nth m 0),.int .i64 (nth m 1),.int .i64 (nth m 2),.int .i64 (nth m 3),.int .i64 (nth m 4),.int .i64 (nth m 5),.int .i64 (nth m 6),.int .i64 (nth m 7)] 69)):=HJ.out pre wr _ none HJs.out (World.grownBy_alloc _ _ _) (fun r e=>by cases e)
     obtain ⟨fn,tmps,assign,body,hyy,hRnd⟩:=HY.out pre ⟨(k,m),hpx⟩ _ HJ2 hpl
     unfold mL at hyy
     dsimp only at hyy
     clear hpl hm' hz HJ2
     gi_wp2
     refine hRnd.mono ?_
     rintro e W3 (⟨rfl,hJ3,hk3⟩ | ⟨rfl,hJx3⟩)
     ·have HJ3:=zhd hJ3
      have hA3:=hA2.trans hk3
      clear hJ3 hyy hRnd z0 z1 z2 z3 z4 z5 z6 z7
      gi_wp2
      go_roundw
      case rel=>exact ⟨j+1,_,by omega,by go_num,HJ3,HPN,hA3⟩
      case measure=>simp[intOf];omega
     ·have HJ3:=zhd hJx3
      clear hJx3 hyy hRnd z0 z1 z2 z3 z4 z5 z6 z7
      gi_wp2
      refine bodyPost_ret (results_none rfl _ _ _) rfl ?_
      exact ⟨⟨_,rfl⟩,.inr ⟨_,HPX.out,HJ3.out⟩⟩
    ·obtain rfl:j=r.length:=by omega
     have HPN:Hid (pre.map (·.1)=pairsTo st (k+1)):=zhd (by rw[HFT.out,HP.out,HTL.out])
     clear HP
     gi_wp2
     go_roundw
     case rel=>exact ⟨k+1,pre,by omega,by go_num,HJs,HPN,hA⟩
     case measure=>simp[intOf];omega
  ·obtain rfl:k=st.length:=by omega
   have HPE:Hid (pre.map (·.1)=pairsM st):=zhd HP.out
   gi_wp2
   go_end0
   exact ⟨⟨_,rfl⟩,.inl ⟨pre,HPE.out,HJs.out⟩⟩
theorem qV (w:World) (n:Int) (v:Value) (hv:v.cells.size=1) {a:Option Addr} {k c:Nat} (e:v=.slice a k c):Calls Tryz.prog 123 #[.agg #[.int .i64 n,v]] w fun e w'=>e=.returned (.func (.func 140) #[] #[.pointer (some ⟨w.heap.size,0,none⟩)])∧w'=w.alloc (.cells #[.int .i64 n,v] 27):=by
 subst e
 go_enter Tryz.func123,Tryz.ntmps123
 go_wp2
 go_ret
 exact ⟨rfl,rfl⟩
theorem qj {β:Type} {B g:Nat} {e:TypeId} {xs:β→List Value} (hg:g<B):OwnFrom B (fun (s:β) W=>Row W g e (xs s)):=
 fun s A C row hs hg' hr=>hs.grown hg' (fun e=>by have:=(hr _ e).1;omega)
theorem Qb {β:Type} {B:Nat} {T:Nat→Prop} {w0:World} (hT:∀b,T b→b<B):OwnFrom B (fun (_:β) W=>Agree T w0 W):=
 fun s A C row hs hg' hr=>hs.trans (.of_grown hg' fun b hb e=>by have:=hT b hb;have:=(hr _ e).1;omega)
theorem yt {β:Type} (B:Nat):OwnFrom B (fun (_:β) (_:World)=>False):=fun _ _ _ _ h _ _=>h
theorem Zt {S:Nat→Prop} {w:World} {vs:Value} {st:Moves} (n:Int) (hs:Sl (kSl (kFlat 8)) S w vs st) (hl:st.length≤1000):
  Calls Tryz.prog 121 #[.agg #[.int .i64 n,vs]] w (Post w fun _ r=>r=.int .i64 (if st.length<1∨256<st.length∨4096<movesN st then 5 else 0)):=by
 have hsum:movesN st≤140737488355328000:=by
  have:=xP hs.rows_few st.length (Nat.le_refl _)
  rw[List.take_length]at this
  have h2:st.length * 140737488355328≤1000 * 140737488355328:=Nat.mul_le_mul_right _ hl
  omega
 obtain ⟨sa,sc,rfl,hm⟩:=hs.addr
 have HS:=zhd hs.block
 have HLEN:=zhd (yZ st)
 obtain ⟨r,hr⟩:∃r:Int,r=if st.length<1∨256<st.length∨4096<movesN st then 5 else 0:=⟨_,rfl⟩
 rw[←hr]
 have HR:=zhd hr
 clear hs hr
 have ex:=zg (zb w (.cells #[.int .i64 n,.slice sa st.length sc] 27)) (.cells #[.int .i64 0] 3)
 have R0:Row ((w.alloc (.cells #[.int .i64 n,.slice sa st.length sc] 27)).alloc (.cells #[.int .i64 0] 3)) w.heap.size 27 [.int .i64 n,.slice sa st.length sc]:=(ze w [_,_] _).alloc _
 have RN:Row ((w.alloc (.cells #[.int .i64 n,.slice sa st.length sc] 27)).alloc (.cells #[.int .i64 0] 3)) (w.heap.size+1) 3 [.int .i64 0]:=by
  have:=ze (w.alloc (.cells #[.int .i64 n,.slice sa st.length sc] 27)) [.int .i64 0] 3
  rwa [World.size_alloc]at this
 refine (callsIn_wide (n:=6)).1 ?_
 refine callsIn_of_wp_marks Tryz.func121 rfl trivial ?_ rfl
 simp only[Tryz.ntmps121,List.size_toArray,List.length_cons,List.length_nil,Nat.reduceAdd,Nat.reduceSub,Array.replicate_succ,Array.replicate_zero,List.push_toArray,List.append_toArray,List.nil_append,List.cons_append]
 obtain ⟨w2,hw2⟩:∃w2,w2=(w.alloc (.cells #[.int .i64 n,.slice sa st.length sc] 27)).alloc (.cells #[.int .i64 0] 3):=⟨_,rfl⟩
 have c0:=R0.zc 0 rfl
 have c1:=R0.zc 1 rfl
 rw[←hw2]at ex R0 RN
 have KM:=zhd (qV w2 n (.slice sa st.length sc) rfl rfl)
 gi_wp2_with fail
 rw[←hw2]
 clear hw2 c0 c1
 refine ⟨trivial,(callsIn_wide.2 KM.out).mono ?_⟩
 rintro _ _ ⟨rfl,rfl⟩
 have RB:=ze w2 [.int .i64 n,.slice sa st.length sc] 27
 have hx3:=zg ex (.cells #[.int .i64 n,.slice sa st.length sc] 27)
 have R0:=R0.alloc (.cells #[.int .i64 n,.slice sa st.length sc] 27)
 have RN:=RN.alloc (.cells #[.int .i64 n,.slice sa st.length sc] 27)
 obtain ⟨B1,hB1⟩:∃B1,B1=w2.heap.size:=⟨_,rfl⟩
 obtain ⟨w3,hw3⟩:∃w3,w3=w2.alloc (.cells #[.int .i64 n,.slice sa st.length sc] 27):=⟨_,rfl⟩
 rw[←hB1]at RB ⊢
 rw[←hw3]at RB hx3 R0 RN ⊢
 have zB:=RB.lt
 have zN:=RN.lt
 have hB2:w.heap.size+1<B1:=by
  have:=ex.size
  have e2:=hB1
  have:=RN
  rw[hB1]
  have h9:w.heap.size+1<w2.heap.size:=by
   have hz:=(show w3.heap.size=w2.heap.size+1 by rw[hw3];simp)
   rcases Nat.lt_or_ge (w.heap.size+1) w2.heap.size with h | h
   ·exact h
   ·have:w.heap.size+1=w2.heap.size:=by omega
    rw[this,hw3]at RN
    have hx:=World.alloc_heap_new w2 (.cells #[.int .i64 n,.slice sa st.length sc] 27)
    unfold Row at RN
    rw[hx]at RN
    simp at RN
  exact h9
 clear hw3 hB1 KM ex
 gi_wp2_with fail
 have HST:=qU (Px:=fun _=>True) (T:=fun b=>b<w.heap.size∨b=B1) (n:=5) (by decide) RB (HS.out.ext hx3) (.inr rfl) (fun b hb=>.inl hb.2) (fun b hb=>by have:=hx3.size;rcases hb with h | h<;>omega) (fun _ _ _ _=>trivial)
 have zw:=hx3.size
 apply wpIn_rangeFunc_ownF (n:=6) rfl (by decide) (gf:=140) (lb:=#[.pointer (some ⟨B1,0,none⟩)]) rfl trivial (enters_of Tryz.func140 (by kernel_rfl) rfl)
  HST xt (xr (fun b hb=>by rcases hb with h | h<;>omega)) (Below.refl _ _) (fun _=>rfl)
  (fun (pre:List {x:Nat×List Int // True}) W=>Row W (w.heap.size+1) 3 [.int .i64 (pre.length:Nat)]∧(Row W w.heap.size 27 [.int .i64 n,.slice sa st.length sc]∧Below w.heap.size w W))
  (fun c (pre:List {x:Nat×List Int // True}) W=>False)
  (OwnFrom.and (qj (xs:=fun pre:List {x:Nat×List Int // True}=>[.int .i64 (pre.length:Nat)]) zN) (OwnFrom.and (qj (xs:=fun _=>[.int .i64 n,.slice sa st.length sc]) (by omega)) (ownFrom_below (Nat.le_refl _) zw)))
  (fun c=>yt _) ⟨RN,R0,hx3⟩
 case hassign=>
  intro l x W K hK
  gi_wp2
  exact hK
 case hbody=>
  rintro l pre ⟨⟨s,m⟩,_⟩ W ⟨P1,P0,hB⟩ hlen
  rw[HLEN.out]at hlen
  have q1:=P1.zc 0 rfl
  have f1:=P1.free 0
  have z1:=P1.lt
  have HW:Hid (∀u,u=(pre.length:Int)+1→KeepsOthers W (W.setCell ⟨w.heap.size+1,0,none⟩ (.int .i64 u))∧Agree (fun b=>b<w.heap.size∨b=B1) W (W.setCell ⟨w.heap.size+1,0,none⟩ (.int .i64 u))∧(Row (W.setCell ⟨w.heap.size+1,0,none⟩ (.int .i64 u)) (w.heap.size+1) 3 [.int .i64 ((pre++[(⟨(s,m),trivial⟩:{x:Nat×List Int // True})]).length:Nat)]∧(Row (W.setCell ⟨w.heap.size+1,0,none⟩ (.int .i64 u)) w.heap.size 27 [.int .i64 n,.slice sa st.length sc]∧Below w.heap.size w (W.setCell ⟨w.heap.size+1,0,none⟩ (.int .i64 u))))):=zhd fun u hu=>by
   subst hu
   refine ⟨.setCell _ _ _,.of_grown (zj _ _ _ _) fun b hb e=>?_,by simpa using P1.set 0 (.int .i64 ((pre.length:Int)+1)),P0.grown (zj _ _ _ _) (by simp),hB.setCell (by simp) _⟩
   have:=Option.some.inj e
   rcases hb with h | h<;>omega
  obtain ⟨k,hk⟩:∃k,k=pre.length:=⟨_,rfl⟩
  rw[←hk]at HW q1 hlen
  clear P1 P0 hB hk
  gi_wp2
  exact HW.out _ rfl
 case hstop=>
  rintro D c pre W hD hSp h hK
  exact h.elim
 case hdone=>
  rintro D xs W hD hS ⟨P1,P0,hB⟩ hK
  rw[show xs.length=movesN st by rw[←HLEN.out,←hS,List.length_map]]at P1
  have q1:=P1.zc 0 rfl
  have c1:=P0.zc 1 rfl
  have hB9:=hB.grown (grownBy_putObj' W D (.deferred none)) hB.size (fun k hk=>by cases hk;omega)
  obtain ⟨mn,hmn⟩:∃x,x=movesN st:=⟨_,rfl⟩
  rw[←hmn]at HR q1 hsum
  clear P1 P0 hS hmn
  have fin:∀x:Int,r=x→Post w (fun _ q=>q=.int .i64 r) (.returned (.int .i64 x)) (W.putObj D (.deferred none)):=fun x hx=>.mk hB9 (by rw[hx])
  have FIN:=zhd fin
  clear fin hB9
  by_cases g1:st.length<1
  ·have RR:Hid (r=5):=zhd (by rw[HR.out,if_pos (.inl g1)])
   gi_wp2
   refine ⟨by simp,.inl ⟨_,_,rfl,run_takeDeferred hK,?_⟩⟩
   exact ⟨.int .i64 5,by simp[results,Tryz.results121,go_sem],FIN.out _ RR.out⟩
  by_cases g2:256<st.length
  ·have RR:Hid (r=5):=zhd (by rw[HR.out,if_pos (.inr (.inl g2))])
   gi_wp2
   refine ⟨by simp,.inl ⟨_,_,rfl,run_takeDeferred hK,?_⟩⟩
   exact ⟨.int .i64 5,by simp[results,Tryz.results121,go_sem],FIN.out _ RR.out⟩
  by_cases g3:4096<mn
  ·have RR:Hid (r=5):=zhd (by rw[HR.out,if_pos (.inr (.inr g3))])
   gi_wp2
   refine ⟨by simp,.inl ⟨_,_,rfl,run_takeDeferred hK,?_⟩⟩
   exact ⟨.int .i64 5,by simp[results,Tryz.results121,go_sem],FIN.out _ RR.out⟩
  ·have RR:Hid (r=0):=zhd (by rw[HR.out,if_neg (by omega)])
   gi_wp2
   refine ⟨by simp,.inl ⟨_,_,rfl,run_takeDeferred hK,?_⟩⟩
   exact ⟨.int .i64 0,by simp[results,Tryz.results121,go_sem],FIN.out _ RR.out⟩
def rowE (n:Int) (ns:Nat) (l:List (List Int)):Int:=if l.length=0 then 19 else firstE (moveE n ns l) l.length
theorem Yl (n:Int) (st:Moves) (s:Nat):stateE n st s=rowE n st.length (nthM st s):=rfl
theorem ZJ {S S':Nat→Prop} {w:World} {vs vl:Value} {st:Moves} {l:List (List Int)} (n:Int) (hs:Sl (kSl (kFlat 8)) S' w vs st) (hv:Sl (kFlat 8) S w vl l):
  Calls Tryz.prog 122 #[.agg #[.int .i64 n,vs],vl] w (Post w fun _ r=>r=.int .i64 (rowE n st.length l)):=by
 have HMR:=zhd fun i=>moveR n st.length l i
 have HRE:Hid (l.length=0→rowE n st.length l=19):=zhd fun h=>by unfold rowE;rw[if_pos h]
 have HRS:Hid (l.length≠0→∀i x,Zeros (moveE n st.length l) i→moveE n st.length l i=x→x≠0→i<l.length→rowE n st.length l=x):=zhd fun h i x hz hx h0 hi=>by unfold rowE;rw[if_neg h];exact hz.stop hx h0 hi
 have HRF:Hid (l.length≠0→Zeros (moveE n st.length l) l.length→rowE n st.length l=0):=zhd fun h hz=>by unfold rowE;rw[if_neg h];exact hz.done (Nat.le_refl _)
 obtain ⟨r,hr⟩:∃r,r=rowE n st.length l:=⟨_,rfl⟩
 rw[←hr]at HRE HRS HRF ⊢
 obtain ⟨sa,sc,rfl,_⟩:=hs.form
 obtain ⟨a,cap,rfl,ad,lo,lm⟩:=hv.form
 unfold maxLen at lm
 have HV:=zhd hv
 have HAD:=zhd ad
 have Q:=hv.idxM
 have ex:=zb w (.cells #[.int .i64 n,.slice sa st.length sc] 27)
 have RA:Row (w.alloc (.cells #[.int .i64 n,.slice sa st.length sc] 27)) w.heap.size 27 [.int .i64 n,.slice sa st.length sc]:=ze w [_,_] _
 clear hr hs hv ad
 by_cases h0:l.length=0
 ·have RR:=zhd (HRE.out h0)
  have d0:((l.length:Int)==0)=true:=by simp[h0]
  clear h0
  go_enter Tryz.func122,Tryz.ntmps122
  go_wp2
  go_ret
  exact .mk ex (zi RR.out.symm)
 have d0:((l.length:Int)==0)=false:=by rw[beq_eq_false_iff_ne];omega
 have HL:=zhd h0
 clear h0
 go_enter Tryz.func122,Tryz.ntmps122
 go_wp2
 clear d0
 go_loopw [5,13] (fun _ i wr=>∃k:Nat,k≤l.length∧i=.int .i64 k∧Below w.heap.size w wr∧Row wr w.heap.size 27 [.int .i64 n,.slice sa st.length sc]∧Hid (Zeros (moveE n st.length l) k)) (fun _ i _=>l.length - (intOf i).toNat)
 case atStart=>exact ⟨0,Nat.zero_le _,rfl,ex,RA,zhd (.zero _)⟩
 case round=>
  clear ex RA
  obtain ⟨i,hik,rfl,hb,RA,HZ⟩:=hrel
  by_cases hi:i<l.length
  case neg=>
   obtain rfl:i=l.length:=by omega
   have RR:=zhd (HRF.out HL.out HZ.out)
   go_wp2
   go_ret
   exact .mk hb (zi RR.out.symm)
  have q:=Q.out i hi
  have hz:=(HV.out.ext hb).nums hi (by decide)
  have z0:=hz.1
  have z1:=hz.2 1 (by decide)
  have z2:=hz.2 2 (by decide)
  have z3:=hz.2 3 (by decide)
  have z4:=hz.2 4 (by decide)
  have z5:=hz.2 5 (by decide)
  have z6:=hz.2 6 (by decide)
  have z7:=hz.2 7 (by decide)
  have hbk:=Nat.lt_of_lt_of_le (zI HAD.out (by omega) (i * 8)) hb.size
  have tl:=RA.lt
  have HM:=zhd (HMR.out i)
  have HST:Hid (∀x,moveE n st.length l i=x→x≠0→r=x):=zhd fun x hx h0=>HRS.out HL.out i x HZ.out hx h0 hi
  obtain ⟨m,hm⟩:∃m,m=nthL l i:=⟨_,rfl⟩
  have HMM:=zhd hm
  rw[←hm]at z0 z1 z2 z3 z4 z5 z6 z7
  have KR:Hid (∀W,Calls Tryz.prog 138 #[.agg #[.int .i64 (nth m 0),.int .i64 (nth m 1),.int .i64 (nth m 2),.int .i64 (nth m 3),.int .i64 (nth m 4),.int .i64 (nth m 5),.int .i64 (nth m 6)]] W (Post W fun _ r=>r=.int .i64 (checkR m))):=zhd fun W=>YL W m
  obtain ⟨e,he⟩:∃e,e=checkR m:=⟨_,rfl⟩
  rw[←he]at KR
  have HE:Hid (checkR (nthL l i)=e):=zhd (by rw[he,hm])
  have exb:=zb wr (.cells #[.int .i64 (nth m 0),.int .i64 (nth m 1),.int .i64 (nth m 2),.int .i64 (nth m 3),.int .i64 (nth m 4),.int .i64 (nth m 5),.int .i64 (nth m 6),.int .i64 (nth m 7)] 69)
  have RM:Row (wr.alloc (.cells #[.int .i64 (nth m 0),.int .i64 (nth m 1),.int .i64 (nth m 2),.int .i64 (nth m 3),.int .i64 (nth m 4),.int .i64 (nth m 5),.int .i64 (nth m 6),.int .i64 (nth m 7)] 69)) wr.heap.size 69 [.int .i64 (nth m 0),.int .i64 (nth m 1),.int .i64 (nth m 2),.int .i64 (nth m 3),.int .i64 (nth m 4),.int .i64 (nth m 5),.int .i64 (nth m 6),.int .i64 (nth m 7)]:=ze wr [.int .i64 (nth m 0),.int .i64 (nth m 1),.int .i64 (nth m 2),.int .i64 (nth m 3),.int .i64 (nth m 4),.int .i64 (nth m 5),.int .i64 (nth m 6),.int .i64 (nth m 7)] _
  have RA1:=RA.ext exb
  have hb1:=za hb exb
  obtain ⟨g,hg⟩:∃g,g=wr.heap.size:=⟨_,rfl⟩
  rw[←hg]at RM
  clear hm he hz
  go_wp2_with fail
  refine (KR.out _).mono ?_
  rintro _ w1 ⟨_,rfl,hbb,rfl⟩
  rw[←hg]
  have RA2:=RA1.ext hbb
  have RM2:=RM.ext hbb
  have hx1:=za hb1 hbb
  clear z0 z1 z2 z3 z4 z5 z6 z7 q hbk tl KR RA RA1 RM exb hb1 hbb hg hb
  by_cases h0:e=0
  case neg=>
   have RR:=zhd (HST.out e (HM.out.bad e HE.out h0) h0)
   have d0:(e !=0)=true:=by simp[h0]
   clear h0
   go_wp2
   go_ret
   exact .mk hx1 (zi RR.out.symm)
  subst h0
  have t0:=RA2.zc 0 rfl
  have m0:=RM2.zc 0 rfl
  obtain ⟨mn,hmn⟩:∃x,x=nth m 0:=⟨_,rfl⟩
  rw[←hmn]at m0
  have HMN:Hid (nth (nthL l i) 0=mn):=zhd (by rw[hmn,HMM.out])
  clear hmn
  by_cases hn:mn=n
  case neg=>
   have RR:=zhd (HST.out 22 (HM.out.mis HE.out (by rw[HMN.out];exact hn)) (by decide))
   have d0:(mn !=n)=true:=by simp[hn]
   clear hn
   go_wp2
   go_ret
   exact .mk hx1 (zi RR.out.symm)
  have d0:(mn !=n)=false:=by simp[hn]
  have HN:Hid (nth (nthL l i) 0=n):=zhd (by rw[HMN.out,hn])
  clear hn
  by_cases hi0:0<i
  case pos=>
   obtain ⟨j,hj⟩:∃j,j=i - 1:=⟨_,rfl⟩
   have hjl:j<l.length:=by omega
   have q1:=Q.out j hjl
   have hz:=(HV.out.ext hx1).nums hjl (by decide)
   have z0:=hz.1
   have z1:=hz.2 1 (by decide)
   have z2:=hz.2 2 (by decide)
   have z3:=hz.2 3 (by decide)
   have z4:=hz.2 4 (by decide)
   have z5:=hz.2 5 (by decide)
   have z6:=hz.2 6 (by decide)
   obtain ⟨m',hm'⟩:∃m,m=nthL l j:=⟨_,rfl⟩
   rw[←hm']at z0 z1 z2 z3 z4 z5 z6
   have KO:Hid (∀W,Calls Tryz.prog 139 #[.agg #[.int .i64 (nth m' 0),.int .i64 (nth m' 1),.int .i64 (nth m' 2),.int .i64 (nth m' 3),.int .i64 (nth m' 4),.int .i64 (nth m' 5),.int .i64 (nth m' 6)],.agg #[.int .i64 (nth m 0),.int .i64 (nth m 1),.int .i64 (nth m 2),.int .i64 (nth m 3),.int .i64 (nth m 4),.int .i64 (nth m 5),.int .i64 (nth m 6)]] W (Post W fun _ r=>r=.int .i64 (lexN m' m 7))):=zhd fun W=>zaF W m' m
   obtain ⟨c,hc⟩:∃c,c=lexN m' m 7:=⟨_,rfl⟩
   rw[←hc]at KO
   have w1':IntKind.i64.wrap ((i:Int) - 1)=j:=by rw[IntKind.wrap_i64];omega
   have w2':decide ((0:Int)<(i:Int))=true:=decide_eq_true (by omega)
   have w3':decide (0<i)=true:=decide_eq_true hi0
   have w4':(0:Int)≤(j:Int):=by omega
   have w5':(j:Int)<(l.length:Int):=by omega
   have HUN:Hid (0≤c→r=14):=zhd fun h=>HST.out 14 (HM.out.un HE.out HN.out hi0 j hj (by rw[←hm',←HMM.out,←hc];exact h)) (by decide)
   have HFI:Hid (c<0→(0<i→∀j,j=i - 1→lexN (nthL l j) (nthL l i) 7<0)):=zhd fun h _ j2 hj2=>by
    subst hj2;rw[←hj,←hm',←HMM.out,←hc];exact h
   clear hc hj hz hm'
   go_wp2
   clear m0
   have m0:=RM2.zc 0 rfl
   have m1:=RM2.zc 1 rfl
   have m2:=RM2.zc 2 rfl
   have m3:=RM2.zc 3 rfl
   have m4:=RM2.zc 4 rfl
   have m5:=RM2.zc 5 rfl
   have m6:=RM2.zc 6 rfl
   go_still_tail 11,(by kernel_rfl)
   refine ZK fun w2 hq2=>?_
   clear q1 z0 z1 z2 z3 z4 z5 z6 m0 m1 m2 m3 m4 m5 m6 t0 w1' w4' w5'
   go_wp2_with fail
   refine (KO.out _).mono ?_
   rintro _ w3 ⟨_,rfl,hb3,rfl⟩
   have hq3:=za hq2.ext hb3
   have hx3:=za hx1 hq3
   have RA3:=RA2.ext hq3
   have RM3:=RM2.ext hq3
   clear KO hb3
   by_cases hc0:0≤c
   ·have RR:=zhd (HUN.out hc0)
    go_wp2
    go_ret
    exact .mk hx3 (zi RR.out.symm)
   have HF:=zhd (HFI.out (by omega))
   have t1:=RA3.zc 1 rfl
   have m7:=RM3.zc 7 rfl
   obtain ⟨to,hto⟩:∃x,x=nth m 7:=⟨_,rfl⟩
   rw[←hto]at m7
   have HTO:Hid (nth (nthL l i) 7=to):=zhd (by rw[hto,HMM.out])
   clear hto
   by_cases ht1:to<0
   ·have RR:=zhd (HST.out 2 (HM.out.to HE.out HN.out HF.out (.inl (by rw[HTO.out];exact ht1))) (by decide))
    go_wp2
    go_ret
    exact .mk hx3 (zi RR.out.symm)
   by_cases ht2:(st.length:Int)≤to
   ·have RR:=zhd (HST.out 2 (HM.out.to HE.out HN.out HF.out (.inr (by rw[HTO.out];exact ht2))) (by decide))
    go_wp2
    go_ret
    exact .mk hx3 (zi RR.out.symm)
   ·have HZ2:=zhd (HZ.out.next (HM.out.fine HE.out HN.out HF.out (by rw[HTO.out];omega)))
    go_wp2
    go_roundw
    case rel=>exact ⟨i+1,by omega,by go_num,hx3,RA3,HZ2⟩
    case measure=>simp[intOf];omega
  case neg=>
   have HF:Hid (0<i→∀j,j=i - 1→lexN (nthL l j) (nthL l i) 7<0):=zhd fun h=>by omega
   have w2':decide ((0:Int)<(i:Int))=false:=decide_eq_false (by omega)
   have w3':decide (0<i)=false:=decide_eq_false hi0
   go_wp2
   go_quiet (fail)
   refine zK fun w3 hq3'=>?_
   have hq3:=hq3'.ext
   have hx3:=za hx1 hq3
   have RA3:=RA2.ext hq3
   have RM3:=RM2.ext hq3
   clear t0 m0
   have t1:=RA3.zc 1 rfl
   have m7:=RM3.zc 7 rfl
   obtain ⟨to,hto⟩:∃x,x=nth m 7:=⟨_,rfl⟩
   rw[←hto]at m7
   have HTO:Hid (nth (nthL l i) 7=to):=zhd (by rw[hto,HMM.out])
   clear hto
   by_cases ht1:to<0
   ·have RR:=zhd (HST.out 2 (HM.out.to HE.out HN.out HF.out (.inl (by rw[HTO.out];exact ht1))) (by decide))
    go_wp2
    go_ret
    exact .mk hx3 (zi RR.out.symm)
   by_cases ht2:(st.length:Int)≤to
   ·have RR:=zhd (HST.out 2 (HM.out.to HE.out HN.out HF.out (.inr (by rw[HTO.out];exact ht2))) (by decide))
    go_wp2
    go_ret
    exact .mk hx3 (zi RR.out.symm)
   ·have HZ2:=zhd (HZ.out.next (HM.out.fine HE.out HN.out HF.out (by rw[HTO.out];omega)))
    go_wp2
    go_roundw
    case rel=>exact ⟨i+1,by omega,by go_num,hx3,RA3,HZ2⟩
    case measure=>simp[intOf];omega
end Go.Proofs.YtjpakklplhabdaaGreat
