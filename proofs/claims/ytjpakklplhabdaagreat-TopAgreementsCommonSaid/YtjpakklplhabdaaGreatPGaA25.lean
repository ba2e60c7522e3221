/- Part of the proof that the laws answer true for every input. -/
import Derived.Test.YtjpakklplhabdaaGreatPGaA24
import Derived.RangeFuncWrites
set_option linter.unusedSimpArgs false
set_option linter.unnecessarySimpa false
set_option linter.unusedVariables false
set_option maxRecDepth 100000
set_option maxHeartbeats 40000000
namespace Go.Proofs.YtjpakklplhabdaaGreat
open Go.RowKit
attribute [local go_sem ↓] Go.wp_at_zero Go.wp_at_succ
def pairsI (c l:Nat):List (Nat×Nat):=(List.range c).flatMap fun i=>(List.range l).map fun j=>(i,j)
def pairsIT (l k:Nat):List (Nat×Nat):=(List.range k).flatMap fun i=>(List.range l).map fun j=>(i,j)
theorem yn (l k:Nat):pairsIT l (k+1)=pairsIT l k++(List.range l).map fun j=>(k,j):=by
 unfold pairsIT;rw[List.range_succ,List.flatMap_append,List.flatMap_singleton]
theorem yK {c l k j:Nat} (h:k<c) (hj:j≤l):pairsIT l k++(List.range j).map (fun j=>(k,j))<+:pairsI c l:=by
 have h1:pairsIT l (k+1)<+:pairsI c l:=by
  unfold pairsIT pairsI
  obtain ⟨d,hd⟩:∃d,c=(k+1)+d:=⟨c - (k+1),by omega⟩
  rw[hd,show List.range (k+1+d)=List.range (k+1)++(List.range d).map (k+1+·) from List.range_add ..,List.flatMap_append]
  exact List.prefix_append _ _
 refine List.IsPrefix.trans ?_ h1
 rw[yn]
 refine (List.prefix_append_right_inj _).2 ?_
 obtain ⟨d,hd⟩:∃d,l=j+d:=⟨l - j,by omega⟩
 rw[hd,List.range_add,List.map_append]
 exact List.prefix_append _ _
theorem yL (k j:Nat):(List.range (j+1)).map (fun j=>(k,j))=(List.range j).map (fun j=>(k,j))++[(k,j)]:=by rw[List.range_succ];simp
theorem zbg (ws:List (List (List Int))):(List.range ws.length).map (fun j=>nthW ws j)=ws:=by
 apply List.ext_getElem
 ·simp
 ·intro i h1 h2
  simp only[List.getElem_map,List.getElem_range]
  exact qt h2
theorem yI (c:Nat) (ws:List (List (List Int))):(pairsI c ws.length).map (fun x=>(x.1,nthW ws x.2))=pairsW c ws:=by
 unfold pairsI pairsW
 rw[List.map_flatMap]
 congr 1
 funext i
 rw[List.map_map]
 show (List.range ws.length).map ((fun w=>(i,w))∘fun j=>nthW ws j)=_
 rw[←List.map_map,zbg]
theorem Yi {S:Nat→Prop} {w:World} {a:Option Addr} {m cap:Nat} {ws:List (List (List Int))} (h:Sl kWord S w (.slice a m cap) ws):
  ∃(wb:Nat→Option Addr) (wk:Nat→Nat),∀j,j<ws.length→∀W,Agree S w W→W.cell? (adr a j)=some (.slice (wb j) (nthW ws j).length (wk j))∧Sl (kFlat 7) S W (.slice (wb j) (nthW ws j).length (wk j)) (nthW ws j):=by
 have hx:∀j:Nat,∃p:Option Addr×Nat,j<ws.length→w.cell? (adr a j)=some (.slice p.1 (nthW ws j).length p.2)∧Sl (kFlat 7) S w (.slice p.1 (nthW ws j).length p.2) (nthW ws j):=fun j=>by
  by_cases hj:j<ws.length
  ·obtain ⟨b,c,h1,h2⟩:=h.word (.refl _ _) hj
   exact ⟨(b,c),fun _=>⟨h1,h2⟩⟩
  ·exact ⟨(none,0),fun h=>absurd h hj⟩
 refine ⟨fun j=>(Classical.choose (hx j)).1,fun j=>(Classical.choose (hx j)).2,fun j hj W hW=>?_⟩
 obtain ⟨h1,h2⟩:=Classical.choose_spec (hx j) hj
 refine ⟨?_,h2.agree hW⟩
 rw[←h1]
 exact h.ad.1.cell hW hj
theorem zau {S T:Nat→Prop} {w:World} {n B1 B2 C:Nat} (hn:1≤n) (hC:C≤140737488355328) {p0 p1 p2 p4 p5 p6:Value} {ca:Option Addr} {cc:Nat} {wa:Option Addr} {wc:Nat} {ws:List (List (List Int))} {wb:Nat→Option Addr} {wk:Nat→Nat}
  (R1:Row w B1 29 [p0,p1,p2,.slice ca C cc,p4,p5,p6]) (R2:Row w B2 90 [.slice wa ws.length wc]) (hs:Sl kWord S w (.slice wa ws.length wc) ws)
  (hv:∀j,j<ws.length→∀W,Agree S w W→W.cell? (adr wa j)=some (.slice (wb j) (nthW ws j).length (wk j))) (hT1:T B1) (hT2:T B2) (hTS:∀b,S b→T b) (hTw:∀b,T b→b<w.heap.size):
  SeqStopsK Fence.wide n Tryz.prog 63 #[.pointer (some ⟨B1,0,none⟩),.pointer (some ⟨B2,0,none⟩)] (fun x:{x:Nat×Nat // x.1<C∧x.2<ws.length}=>#[.int .i64 x.1.1,.slice (wb x.1.2) (nthW ws x.1.2).length (wk x.1.2)]) (Agree T) (fun xs=>xs.map (·.1)=pairsI C ws.length) (fun pre=>pre.map (·.1)<+:pairsI C ws.length) (pairsI C ws.length).length w:=by
 intro l J Jx W hW hJ hJx hY h0
 have Q:=hs.idxW
 have HV:Hid (∀W',Agree T W W'→∀j,j<ws.length→W'.cell? (adr wa j)=some (.slice (wb j) (nthW ws j).length (wk j))):=zhd fun W' h j hj=>hv j hj W' ((Agree.of_ext hW).trans (h.mono hTS))
 have HAD:Hid (∀W',Agree T W W'→Ad S W' wa ws.length wc):=zhd fun W' h=>hs.ad.1.agree ((Agree.of_ext hW).trans (h.mono hTS))
 have HY:=zhd hY
 have H0:=zhd h0
 have HJ:=zhd hJ
 have R1:=R1.ext hW
 have R2:=R2.ext hW
 have RR1:Hid (∀W',Agree T W W'→Row W' B1 29 [p0,p1,p2,.slice ca C cc,p4,p5,p6]):=zhd fun W' h=>R1.agree h hT1
 have RR2:Hid (∀W',Agree T W W'→Row W' B2 90 [.slice wa ws.length wc]):=zhd fun W' h=>R2.agree h hT2
 have p1:=R1.zc 3 rfl
 have hag:Agree T W W:=.refl _ _
 have hWs:=hW.size
 have hLm:ws.length≤maxLen:=hs.len
 unfold maxLen at hLm
 clear hs hJ hJx hY h0 hTS hTw hv R1 R2
 refine callsIn_of_wp Tryz.func63 rfl trivial ?_ rfl
 simp only[Tryz.ntmps63,List.size_toArray,List.length_cons,List.length_nil,Nat.reduceAdd,Nat.reduceSub,Array.replicate_succ,Array.replicate_zero,List.push_toArray,List.append_toArray,List.nil_append,List.cons_append]
 gi_wp2
 gi_loopw [4,6,11,16] (fun _ _ i _ wr=>∃(k:Nat) (pre:List {x:Nat×Nat // x.1<C∧x.2<ws.length}),k≤C∧i=.int .i64 k∧Hid (J pre wr)∧Hid (pre.map (·.1)=pairsIT ws.length k)∧Agree T W wr) (fun _ _ i _ _=>C - (intOf i).toNat)
 case atStart=>exact ⟨0,[],Nat.zero_le _,rfl,H0,zhd rfl,hag⟩
 case round=>
  obtain ⟨k,pre,hk,rfl,HJs,HP,hA⟩:=hrel
  obtain ⟨wo,hwo⟩:∃wo:World,wo=wr:=⟨_,rfl⟩
  rw[←hwo]at HJs hA ⊢
  clear hwo
  by_cases hlt:k<C
  ·have c2:=(RR2.out wo hA).zc 0 rfl
   gi_wp2
   gi_loopw [6,16] (fun _ i wi=>∃(j:Nat) (pre:List {x:Nat×Nat // x.1<C∧x.2<ws.length}),j≤ws.length∧i=.int .i64 j∧Hid (J pre wi)∧Hid (pre.map (·.1)=pairsIT ws.length k++(List.range j).map (fun j=>(k,j)))∧Agree T W wi) (fun _ i _=>ws.length - (intOf i).toNat)
   case atStart=>exact ⟨0,pre,Nat.zero_le _,rfl,HJs,zhd (by simpa using HP.out),hA⟩
   case round=>
    clear HJs HP hA c2
    obtain ⟨j,pre,hj,rfl,HJs,HP,hA⟩:=hrel
    by_cases hjl:j<ws.length
    ·have hjw:j<ws.length:=hjl
     have qr:=Q.out j hjw
     have z0:=HV.out wr hA j hjw
     have hbk:=zI (HAD.out wr hA) (show 0<ws.length by omega) j
     have HPN:Hid ((pre++[(⟨(k,j),hlt,hjw⟩:{x:Nat×Nat // x.1<C∧x.2<ws.length})]).map (·.1)=pairsIT ws.length k++(List.range (j+1)).map (fun j=>(k,j))):=zhd (by rw[yL,List.map_append,HP.out,List.append_assoc];simp)
     have HPX:Hid ((pre++[(⟨(k,j),hlt,hjw⟩:{x:Nat×Nat // x.1<C∧x.2<ws.length})]).map (·.1)<+:pairsI C ws.length):=zhd (by rw[HPN.out];exact yK hlt hjw)
     have hpl:pre.length<(pairsI C ws.length).length:=by
      have h2:=HPX.out.length_le
      rw[List.length_map,List.length_append]at h2
      simp at h2
      omega
     obtain ⟨fn,tmps,assign,body,hyy,hRnd⟩:=HY.out pre ⟨(k,j),hlt,hjw⟩ _ HJs.out hpl
     dsimp only at hyy
     clear hpl
     gi_wp2
     refine hRnd.mono ?_
     rintro e W3 (⟨rfl,hJ3,hk3⟩ | ⟨rfl,hJx3⟩)
     ·have HJ3:=zhd hJ3
      have hA3:=hA.trans hk3
      clear hJ3 hyy hRnd z0
      gi_wp2
      go_roundw
      case rel=>exact ⟨j+1,_,by omega,by go_num,HJ3,HPN,hA3⟩
      case measure=>simp[intOf];omega
     ·have HJ3:=zhd hJx3
      clear hJx3 hyy hRnd z0
      gi_wp2
      refine bodyPost_ret (results_none rfl _ _ _) rfl ?_
      exact ⟨⟨_,rfl⟩,.inr ⟨_,HPX.out,HJ3.out⟩⟩
    ·obtain rfl:j=ws.length:=by omega
     have HPN:Hid (pre.map (·.1)=pairsIT ws.length (k+1)):=zhd (by rw[yn,HP.out])
     clear HP
     gi_wp2
     go_roundw
     case rel=>exact ⟨k+1,pre,by omega,by go_num,HJs,HPN,hA⟩
     case measure=>simp[intOf];omega
  ·obtain rfl:k=C:=by omega
   have HPE:Hid (pre.map (·.1)=pairsI k ws.length):=zhd HP.out
   gi_wp2
   go_end0
   exact ⟨⟨_,rfl⟩,.inl ⟨pre,HPE.out,HJs.out⟩⟩
theorem XQ (w:World) (p0 p1 p2 p4 p6:Int) (ca:Option Addr) (c cc:Nat) (sa:Option Addr) (s sc:Nat) (wa:Option Addr) (n wc:Nat):Calls Tryz.prog 31 #[.agg #[.int .i64 p0,.int .i64 p1,.int .i64 p2,.slice ca c cc,.int .i64 p4,.slice sa s sc,.int .i64 p6],.slice wa n wc] w fun e w'=>e=.returned (.func (.func 63) #[] #[.pointer (some ⟨w.heap.size,0,none⟩),.pointer (some ⟨w.heap.size+1,0,none⟩)])∧w'=(w.alloc (.cells #[.int .i64 p0,.int .i64 p1,.int .i64 p2,.slice ca c cc,.int .i64 p4,.slice sa s sc,.int .i64 p6] 29)).alloc (.cells #[.slice wa n wc] 90):=by
 go_enter Tryz.func31,Tryz.ntmps31
 go_wp2
 go_ret
 exact ⟨rfl,rfl⟩
end Go.Proofs.YtjpakklplhabdaaGreat
namespace Go.Proofs.YtjpakklplhabdaaGreat
open Go.RowKit Go.Maps
attribute [local go_sem ↓] Go.wp_at_zero Go.wp_at_succ
def kExec:Kd ExecD where
 size:=3
 rd S w cs x:=∃v1 v2,cs=[.int .i64 x.case,v1,v2]∧Sl (kFlat 7) S w v1 x.word∧Lists S w v2 x.vs
 agree h hw:=by obtain ⟨v1,v2,e,h1,h2⟩:=h;exact ⟨v1,v2,e,h1.agree hw,h2.agree hw⟩
 mono h hS:=by obtain ⟨v1,v2,e,h1,h2⟩:=h;exact ⟨v1,v2,e,h1.mono hS,h2.mono hS⟩
 block h:=by obtain ⟨v1,v2,e,h1,h2⟩:=h;exact ⟨v1,v2,e,h1.block,h2.block⟩
 len h:=by obtain ⟨v1,v2,rfl,_⟩:=h;rfl
 one h u hu:=by
  obtain ⟨v1,v2,rfl,h1,h2⟩:=h
  obtain ⟨a1,c1,rfl,_⟩:=h1.form
  obtain ⟨a2,c2,rfl,_⟩:=h2.form
  simp at hu
  rcases hu with rfl | rfl | rfl<;>rfl
def isC (W:World) (b:Nat):Prop:=∃o:Obj,W.heap[b]? =some o∧o.isCells=true
theorem OwnK.isC {α:Type} {K:Kd α} {e:TypeId} {base:Nat} {S:Nat→Prop} {w:World} {v:Value} {l:List α} (h:OwnK K e base S w v l):∀g,v.ownBlock=some g→Go.Proofs.YtjpakklplhabdaaGreat.isC w g:=fun g hg=>by
 obtain ⟨xs,ho,_⟩:=h
 rcases ho.2 with ⟨rfl,_⟩ | ⟨g',cap,cur,rfl,_,hgl,_⟩
 ·cases hg
 ·have:g'=g:=by simpa[Value.ownBlock] using hg
  subst this
  exact ⟨_,hgl,rfl⟩
theorem zaU {w:World} {p:Addr} {u:Value} (h:w.cell? p=some u):isC w p.block:=by
 unfold World.cell? at h
 split at h
 ·rename_i e;exact ⟨_,e,rfl⟩
 ·cases h
theorem isC.agree {T:Nat→Prop} {W W':World} {b:Nat} (h:isC W b) (hA:Agree T W W') (hT:T b):isC W' b:=by
 obtain ⟨o,h1,h2⟩:=h
 exact ⟨o,(hA.block b hT (Array.getElem?_eq_some_iff.1 h1).1).trans h1,h2⟩
theorem Ints.isC {S:Nat→Prop} {w:World} {v:Value} {l:List Int} (h:Ints S w v l) (hl:1≤l.length):Ints (fun b=>S b∧isC w b) w v l:=by
 obtain ⟨a,cap,rfl,had,h1,h2,hc⟩:=h
 refine ⟨a,cap,rfl,?_,h1,h2,hc⟩
 rcases had with ⟨h0,_⟩ | ⟨b,off,rfl,hb,hs⟩
 ·omega
 ·exact .inr ⟨b,off,rfl,hb,hs,zaU (hc.1 0 (by omega))⟩
theorem Lists.isC {S:Nat→Prop} {w:World} {v:Value} {ll:List (List Int)} (h:Lists S w v ll) (hl:1≤ll.length) (hr:∀l∈ll,1≤l.length):Lists (fun b=>S b∧isC w b) w v ll:=by
 obtain ⟨a,cap,rfl,had,h1,h2,hc⟩:=h
 refine ⟨a,cap,rfl,?_,h1,h2,fun k hk=>?_⟩
 ·rcases had with ⟨h0,_⟩ | ⟨b,off,rfl,hb,hs⟩
  ·omega
  ·obtain ⟨u,hu,_⟩:=hc 0 (by omega)
   exact .inr ⟨b,off,rfl,hb,hs,zaU hu⟩
 ·obtain ⟨u,hu,hi⟩:=hc k hk
  exact ⟨u,hu,hi.isC (hr _ (yl hk))⟩
theorem OwnK.self {α:Type} {K:Kd α} {e:TypeId} {base:Nat} {S:Nat→Prop} {w:World} {v:Value} {l:List α} (h:OwnK K e base S w v l):OwnK K e base (fun b=>S b∧v.ownBlock≠some b) w v l:=by
 obtain ⟨xs,ho,hr⟩:=h
 exact ⟨xs,ho,fun j hj=>K.mono (hr j hj) fun b hb=>⟨hb,hb.2⟩⟩
def zzPC (N0 BB MB:Nat) (W:World) (vv:Value) (b:Nat):Prop:=PR N0 BB MB W vv b∧isC W b
theorem zzPC.next {N0 BB MB b:Nat} {W W':World} {vv vv':Value} {T:Nat→Prop} (h:zzPC N0 BB MB W vv b) (hA:Agree T W W') (hT:T b) (hg:∀g,vv'.ownBlock=some g→vv.ownBlock=some g∨W.heap.size≤g):zzPC N0 BB MB W' vv' b:=
 ⟨h.1.next hA.size hg,h.2.agree hA hT⟩
theorem zzPC.same {N0 BB MB b:Nat} {W W':World} {vv:Value} {T:Nat→Prop} (h:zzPC N0 BB MB W vv b) (hA:Agree T W W') (hT:T b):zzPC N0 BB MB W' vv b:=h.next hA hT fun g hg=>.inl hg
structure BF (B BB MB S7:Nat) (w0:World) (hd:List Value):Prop where
 s1:B≤S7
 s2:S7<w0.heap.size
 b2:BB<w0.heap.size
 m2:MB<w0.heap.size
 sb:S7≠BB
 sm:S7≠MB
 hd:hd.length=9
def BT (BB MB S7:Nat) (w0:World) (b:Nat):Prop:=b<w0.heap.size∧b≠BB∧b≠MB∧b≠S7
structure zzBI (B BB MB S7 N:Nat) (w0:World) (hd:List Value) (W:World) (vv xv:Value) (tab:List (List Int)) (ex:List ExecD):Prop where
 ag:Agree (BT BB MB S7 w0) w0 W
 be:Below B w0 W
 st:BSt B BB MB (N:Int) W vv tab
 row:Row W S7 39 (hd++[xv])
 own:OwnK kExec 49 w0.heap.size (zzPC w0.heap.size BB MB W vv) W xv ex
 xo:∀q,xv.ownBlock=some q→PR w0.heap.size BB MB W vv q
 vo:∀q,vv.ownBlock=some q→w0.heap.size≤q
theorem zzBI.own_from {β:Type} {B BB MB S7 N:Nat} {w0:World} {hd:List Value} (F:BF B BB MB S7 w0 hd) (f:β→List (List Int)) (g:β→List ExecD):OwnFrom w0.heap.size (fun (s:β) W=>∃vv xv,zzBI B BB MB S7 N w0 hd W vv xv (f s) (g s)):=by
 rintro s W W' row ⟨vv,xv,h⟩ hg hr
 have hA:Agree (fun b=>row≠some b) W W':=.of_grown hg fun b hb=>hb
 have lowr:∀b,b<w0.heap.size→row≠some b:=fun b hb e=>by have:=(hr b e).1;omega
 have cellr:∀b,Go.Proofs.YtjpakklplhabdaaGreat.isC W b→row≠some b:=fun b hb e=>by
  obtain ⟨_,o,h1,h2⟩:=hr b e
  obtain ⟨o',h3,h4⟩:=hb
  rw[h1]at h3
  cases h3
  rw[h2]at h4;cases h4
 refine ⟨vv,xv,h.ag.trans (hA.mono fun b hb=>lowr b hb.1),h.be.grown hg ?_ fun k hk=>?_,h.st.agree hA (lowr _ F.b2) (lowr _ F.m2) fun q hq=>cellr q (h.st.own.isC q hq),h.row.agree hA (lowr _ F.s2),?_,fun q hq=>(h.xo q hq).same hA.size,h.vo⟩
 ·have h1:=h.be.size;have h2:=F.s1;have h3:=F.s2;omega
 ·have h1:=(hr k hk).1;have h2:=F.s1;have h3:=F.s2;omega
 ·exact h.own.slot hA (fun q hq=>cellr q (h.own.isC q hq)) (fun b hb=>cellr b hb.2) fun b hb=>hb.same hA (cellr b hb.2)
theorem zR {B:Nat} {T:Nat→Prop} {W W':World} (hA:Agree T W W') (hT:∀k o,B≤k→W.heap[k]? =some o→o.isCells=false→T k):KeepsFrom B W W':=
 ⟨hA.size,fun k o hk h0 ho=>(hA.block k (hT k o hk h0 ho) (Array.getElem?_eq_some_iff.1 h0).1).trans h0⟩
theorem zaa {W:World} {k:Nat} {o:Obj} (h0:W.heap[k]? =some o) (ho:o.isCells=false):¬isC W k:=fun ⟨o',h1,h2⟩=>by
 rw[h0]at h1;cases h1;rw[ho]at h2;cases h2
theorem zbw {B BB MB S7 N:Nat} {w0 W W2 W3:World} {hd:List Value} {vv xv cv rv vv3:Value} {tab tab3:List (List Int)} {ex:List ExecD} {i:Int} {word vs:List (List Int)} {S:Nat→Prop} (F:BF B BB MB S7 w0 hd) (h:zzBI B BB MB S7 N w0 hd W vv xv tab ex)
  (hw2:Below W.heap.size W W2) (hcv:OwnK (kFlat 7) 67 W.heap.size S W2 cv word) (hcn:word.length≤100) (P:PE B BB MB (N:Int) W2.heap.size W2 vv W3 vv3 tab3) (hrv:Lists (PR W2.heap.size BB MB W3 vv3) W3 rv vs) (hv1:1≤vs.length) (hv2:∀l∈vs,1≤l.length):
  OwnK kExec 49 w0.heap.size (fun b=>zzPC w0.heap.size BB MB W3 vv3 b∧xv.ownBlock≠some b) W3 xv ex∧kExec.rd (fun b=>(zzPC w0.heap.size BB MB W3 vv3 b∧xv.ownBlock≠some b)∧xv.ownBlock≠some b) W3 [.int .i64 i,cv,rv] (i,word,vs)∧w0.heap.size≤W3.heap.size∧Agree (BT BB MB S7 w0) W W3∧
  (Row W3 S7 39 (hd++[xv]))∧
  ∀g c W4,OwnK kExec 49 w0.heap.size (fun b=>zzPC w0.heap.size BB MB W3 vv3 b∧xv.ownBlock≠some b) W4 (.slice (some ⟨g,0,none⟩) (ex.length+1) c) (ex++[(i,word,vs)])→Below w0.heap.size W3 W4→(∀S:Nat→Prop,(∀k,xv.ownBlock=some k→¬S k)→Agree S W3 W4)→(xv.ownBlock=some g∨W3.heap.size≤g)→
   Row W4 S7 39 (hd++[xv])∧Agree (BT BB MB S7 w0) W W4∧zzBI B BB MB S7 N w0 hd (W4.setCell ⟨S7,9,none⟩ (.slice (some ⟨g,0,none⟩) (ex.length+1) c)) vv3 (.slice (some ⟨g,0,none⟩) (ex.length+1) c) tab3 (ex++[(i,word,vs)])∧
   KeepsFrom w0.heap.size W (W4.setCell ⟨S7,9,none⟩ (.slice (some ⟨g,0,none⟩) (ex.length+1) c))∧Agree (BT BB MB S7 w0) W (W4.setCell ⟨S7,9,none⟩ (.slice (some ⟨g,0,none⟩) (ex.length+1) c)):=by
 have hB0:B≤w0.heap.size:=by have:=F.s1;have:=F.s2;omega
 have hsz:w0.heap.size≤W.heap.size:=h.ag.size
 have hs2:=hw2.size
 have hs3:=P.size
 have A2:Agree (fun _=>True) W W2:=.of_ext hw2
 have A3:Agree (fun b=>keepsB BB MB vv b∧b≠W2.heap.size) W2 W3:=P.ag
 have A13:Agree (fun b=>keepsB BB MB vv b∧b≠W2.heap.size) W W3:=(A2.mono fun _ _=>trivial).trans A3
 have lowK:∀b,b<w0.heap.size→b≠BB→b≠MB→keepsB BB MB vv b∧b≠W2.heap.size:=fun b hb h1 h2=>⟨⟨h1,h2,fun e=>by have:=h.vo b e;omega⟩,by omega⟩
 have prK:∀b,PR w0.heap.size BB MB W vv b→keepsB BB MB vv b∧b≠W2.heap.size:=fun b hb=>⟨hb.2.2,by have:=hb.2.1;omega⟩
 have hog:∀g,vv3.ownBlock=some g→vv.ownBlock=some g∨W.heap.size≤g:=fun g hg=>by
  rcases P.og g hg with e | e
  ·exact .inl e
  ·exact .inr (by omega)
 have R3:Row W3 S7 39 (hd++[xv]):=h.row.agree A13 (lowK _ F.s2 F.sb F.sm)
 have O3:OwnK kExec 49 w0.heap.size (zzPC w0.heap.size BB MB W3 vv3) W3 xv ex:=h.own.slot A13 (fun q hq=>prK q (h.xo q hq)) (fun b hb=>prK b hb.1) fun b hb=>hb.next A13 (prK b hb.1) hog
 have AT:Agree (BT BB MB S7 w0) W W3:=A13.mono fun b hb=>lowK b hb.1 hb.2.1 hb.2.2.1
 have X3:∀q,xv.ownBlock=some q→PR w0.heap.size BB MB W3 vv3 q:=fun q hq=>(h.xo q hq).next A13.size hog
 have hcl:=hcv.lt
 have hcw:Sl (kFlat 7) (fun b=>(W.heap.size≤b∧b<W2.heap.size)∧isC W2 b) W2 cv word:=by
  refine OwnK.slS (base:=W.heap.size) (e:=67) ?_ (by omega) fun q hq=>⟨hcl q hq,hcv.isC q hq⟩
  obtain ⟨xs,ho,hr⟩:=hcv
  exact ⟨xs,ho,fun j hj=>hr j hj⟩
 have hstW2:BSt B BB MB (N:Int) W2 vv tab:=h.st.ext hw2
 have hnewK:∀b,W.heap.size≤b∧b<W2.heap.size→keepsB BB MB vv b∧b≠W2.heap.size:=fun b hb=>⟨h.st.fresh hb.1,by omega⟩
 have hD:kExec.rd (fun b=>zzPC w0.heap.size BB MB W3 vv3 b∧xv.ownBlock≠some b) W3 [.int .i64 i,cv,rv] (i,word,vs):=by
  refine ⟨cv,rv,rfl,(hcw.agree (A3.mono fun b hb=>hnewK b hb.1)).mono fun b hb=>⟨⟨⟨by omega,by omega,?_⟩,hb.2.agree A3 (hnewK b hb.1)⟩,fun e=>by have:=(h.xo b e).2.1;omega⟩,((hrv.isC hv1 hv2).mono fun b hb=>⟨⟨⟨by have:=hb.1.1;omega,hb.1.2⟩,hb.2⟩,fun e=>by have:=(h.xo b e).2.1;have:=hb.1.1;omega⟩)⟩
  have hk:=(hnewK b hb.1).1
  refine ⟨hk.1,hk.2.1,fun e=>?_⟩
  rcases P.og b e with e1 | e1
  ·exact hk.2.2 e1
  ·omega
 refine ⟨O3.self,kExec.mono hD fun b hb=>⟨hb,hb.2⟩,by omega,AT,R3,fun g c W4 h4 hb4 hag hg=>?_⟩
 have A4:Agree (fun b=>xv.ownBlock≠some b) W3 W4:=hag _ fun k hk h=>h hk
 have R4:Row W4 S7 39 (hd++[xv]):=R3.agree A4 fun e=>by have:=(X3 _ e).1;have:=F.s2;omega
 have lowX:∀b,b<w0.heap.size→xv.ownBlock≠some b:=fun b hb e=>by have:=(X3 b e).1;omega
 have AT4:Agree (BT BB MB S7 w0) W W4:=AT.trans (A4.mono fun b hb=>lowX b hb.1)
 have A5:Agree (fun b=>b≠S7) W4 (W4.setCell ⟨S7,9,none⟩ (.slice (some ⟨g,0,none⟩) (ex.length+1) c)):=.of_grown (zj _ _ _ _) fun b hb e=>hb (by cases e;rfl)
 have ST4:BSt B BB MB (N:Int) W4 vv3 tab3:=P.st.agree A4 (lowX _ F.b2) (lowX _ F.m2) fun q hq e=>(X3 q e).2.2.2.2 hq
 have hvo3:∀q,vv3.ownBlock=some q→w0.heap.size≤q:=fun q hq=>by
  rcases hog q hq with e | e
  ·exact h.vo q e
  ·omega
 have PC4:∀b,zzPC w0.heap.size BB MB W3 vv3 b→xv.ownBlock≠some b→zzPC w0.heap.size BB MB W4 vv3 b:=fun b hb hx=>hb.same A4 hx
 have hG4:=h4.isC g rfl
 have hgX:PR w0.heap.size BB MB W4 vv3 g:=by
  rcases hg with e | e
  ·exact (X3 g e).same A4.size
  ·obtain ⟨o,ho,_⟩:=hG4
   exact ⟨by omega,(Array.getElem?_eq_some_iff.1 ho).1,P.st.fresh e⟩
 refine ⟨R4,AT4,⟨h.ag.trans (AT4.trans (A5.mono fun b hb=>hb.2.2.2)),?_,ST4.agree A5 (fun e=>F.sb e.symm) (fun e=>F.sm e.symm) (fun q hq e=>by have:=hvo3 q hq;have:=F.s2;omega),?_,?_,fun q hq=>?_,hvo3⟩,?_,AT4.trans (A5.mono fun b hb=>hb.2.2.2)⟩
 ·refine Below.setCell ?_ (by simpa using F.s1) _
  exact ((h.be.trans (hw2.mono (by omega))).trans P.be).trans (hb4.mono hB0)
 ·have:=R4.set 9 (.slice (some ⟨g,0,none⟩) (ex.length+1) c)
  have e:(hd++[xv]).set 9 (.slice (some ⟨g,0,none⟩) (ex.length+1) c)=hd++[.slice (some ⟨g,0,none⟩) (ex.length+1) c]:=by
   rw[List.set_append_right _ _ (by rw[F.hd];exact Nat.le_refl _),F.hd];rfl
  rwa [e]at this
 ·have hgS:∀q,(Value.slice (some ⟨g,0,none⟩) (ex.length+1) c).ownBlock=some q→q≠S7:=fun q hq=>by
   have e:g=q:=by simpa[Value.ownBlock] using hq
   have:=hgX.1;have:=F.s2;omega
  exact h4.slot A5 hgS (fun b hb=>by have:=hb.1.1.1;have:=F.s2;omega) fun b hb=>(PC4 b hb.1 hb.2).same A5 (by have:=hb.1.1.1;have:=F.s2;omega)
 ·have e:g=q:=by simpa[Value.ownBlock] using hq
  rw[←e];exact hgX.same A5.size
 ·refine ((zR (B:=w0.heap.size) A2 fun _ _ _ _ _=>trivial).trans (zR A3 fun k o hk h0 ho=>?_)).trans ((zR A4 fun k o hk h0 ho e=>?_).trans ((KeepsOthers.setCell _ _ _).from _))
  ·have hn:=zaa h0 ho
   refine ⟨⟨fun e=>by have:=F.b2;omega,fun e=>by have:=F.m2;omega,fun e=>hn (hstW2.own.isC k e)⟩,fun e=>?_⟩
   have:=(Array.getElem?_eq_some_iff.1 h0).1;omega
  ·exact zaa h0 ho (O3.isC k e)
end Go.Proofs.YtjpakklplhabdaaGreat
namespace Go.Proofs.YtjpakklplhabdaaGreat
open Go.RowKit
theorem zaV {n:Int} {p:Nat} {x:Int} (h:gAt n p x=0):0≤x∧((n≤(p:Int)→x=0)∧((p:Int)<n→x.toNat.testBit p=true∧x<((2 ^ n.toNat:Nat):Int))):=by
 unfold gAt at h
 by_cases h1:n≤(p:Int)
 ·rw[if_pos h1]at h
  by_cases h2:x=0
  ·subst h2;exact ⟨Int.le_refl _,fun _=>rfl,fun h=>by omega⟩
  ·rw[if_neg h2]at h;cases h
 ·rw[if_neg h1]at h
  by_cases h2:x<0∨((2 ^ n.toNat:Nat):Int) - 1<x
  ·rw[if_pos h2]at h;cases h
  ·rw[if_neg h2]at h
   by_cases h3:x.toNat.testBit p=true
   ·exact ⟨by omega,fun h=>by omega,fun _=>⟨h3,by omega⟩⟩
   ·rw[if_neg h3]at h;cases h
theorem zdK {n:Int} (h:n≤5):((2 ^ n.toNat:Nat):Int)≤32:=by
 have:n.toNat≤5:=by omega
 have h2:=Nat.pow_le_pow_right (n:=2) (by decide) this
 omega
structure RoundOK (n:Int) (r:List Int):Prop where
 len:r.length=7
 n0:nth r 0=n
 n1:1≤n∧n≤5
 low:∀q,q<5→0≤nth r (q+1)∧nth r (q+1)<32
 big:∀q:Nat,(q:Int)<n→(nth r (q+1)).toNat.testBit q=true∧nth r (q+1)<((2 ^ n.toNat:Nat):Int)
 f:0≤nth r 6∧nth r 6<((2 ^ n.toNat:Nat):Int)
theorem zaj {l:List Int} (h:checkR l=0):(1≤nth l 0∧nth l 0≤5)∧(∀p,p<5→gAt (nth l 0) p (nth l (p+1))=0)∧0≤nth l 6∧nth l 6<((2 ^ (nth l 0).toNat:Nat):Int):=by
 unfold checkR at h
 by_cases h1:checkG l=0
 ·rw[if_pos h1]at h
  unfold checkG at h1
  by_cases h2:nth l 0<1∨5<nth l 0
  ·rw[if_pos h2]at h1;cases h1
  ·rw[if_neg h2]at h1
   unfold checkP at h
   rw[if_neg h2]at h
   by_cases h3:nth l 6<0∨((2 ^ (nth l 0).toNat:Nat):Int)≤nth l 6
   ·rw[if_pos h3]at h;cases h
   ·exact ⟨by omega,zX.1 h1,by omega,by omega⟩
 ·rw[if_neg h1]at h;exact absurd h h1
theorem zdm {l:List Int} {k i:Nat} (h:i<k):nth (l.take k) i=nth l i:=by
 unfold nth;rw[List.getD_eq_getElem?_getD,List.getD_eq_getElem?_getD,List.getElem?_take,if_pos h]
theorem QL {n:Int} {m:List Int} (hl:m.length=8) (h:checkR m=0) (hn:nth m 0=n):RoundOK n (m.take 7):=by
 obtain ⟨h1,h2,h3⟩:=zaj h
 rw[hn]at h1 h2 h3
 have t:∀i,i<7→nth (m.take 7) i=nth m i:=fun i hi=>zdm hi
 refine ⟨by simp[hl],by rw[t 0 (by omega),hn],h1,fun q hq=>?_,fun q hq=>?_,by rw[t 6 (by omega)];exact h3⟩
 ·rw[t (q+1) (by omega)]
  have h4:=zaV (h2 q hq)
  have h5:=zdK h1.2
  refine ⟨h4.1,?_⟩
  by_cases hqn:n≤(q:Int)
  ·rw[h4.2.1 hqn];decide
  ·have:=(h4.2.2 (by omega)).2;omega
 ·have hq5:q<5:=by omega
  rw[t (q+1) (by omega)]
  exact (zaV (h2 q hq5)).2.2 hq
def Moves8 (st:Moves):Prop:=∀s,s<st.length→∀m∈nthM st s,m.length=8∧∀x∈m,WF x
theorem zaX {n:Int} {st:Moves} (hok:MovesOK n st) (h8:Moves8 st):∀k s,s<st.length→∀w∈wordsD st k s,∀r∈w,RoundOK n r
 | 0,s,hs,w,hw,r,hr=>by rw[List.mem_singleton.1 hw]at hr;simp at hr
 | k+1,s,hs,w,hw,r,hr=>by
  unfold wordsD at hw
  obtain ⟨m,hm,hw⟩:=List.mem_flatMap.1 hw
  obtain ⟨v,hv,rfl⟩:=List.mem_map.1 hw
  obtain ⟨i,hi,rfl⟩:=List.getElem_of_mem hm
  have ho:=(hok s hs).2 i hi
  rw[zM hi]at ho
  rcases List.mem_cons.1 hr with rfl | hr
  ·exact QL (h8 s hs _ hm).1 ho.1 ho.2.1
  ·exact zaX hok h8 k _ (by omega) v hv r hr
theorem qC {S:Nat→Prop} {w:World} {v:Value} {st:Moves} (h:Sl (kSl (kFlat 8)) S w v st):Moves8 st:=by
 obtain ⟨a,cap,rfl,_⟩:=h.form
 intro s hs m hm
 obtain ⟨v,_,hv⟩:=h.row hs
 have e:nthM st s=st[s]:=by simp[nthM,hs]
 rw[e]at hm
 obtain ⟨i,hi,rfl⟩:=List.getElem_of_mem hm
 obtain ⟨b,c,rfl,_⟩:=hv.form
 have:=hv.num hi
 rw[zM hi]at this
 exact ⟨this.1,this.2.1⟩
theorem QB {v:List Int} {n most:Int} (h:vecE v n most=0):(v.length:Int)=n∧∀x∈v,0≤x∧x<most:=by
 unfold vecE at h
 by_cases h1:(v.length:Int)=n
 ·rw[if_pos h1]at h
  by_cases h2:v.any (fun x=>decide (x<0)||decide (most≤x))=true
  ·rw[if_pos h2]at h;cases h
  ·refine ⟨h1,fun x hx=>?_⟩
   have:¬(decide (x<0)||decide (most≤x))=true:=fun h3=>h2 (List.any_eq_true.2 ⟨x,hx,h3⟩)
   simp at this
   omega
 ·rw[if_neg h1]at h;cases h
theorem xM {n ins outs:Int} {l:List CaseD} {k:Nat} (h:caseE n ins outs l k=0):vecE (nthC l k).inn n ins=0∧vecsE n outs (nthC l k)=0:=by
 unfold caseE at h
 by_cases h1:vecE (nthC l k).inn n ins=0
 ·rw[if_pos h1]at h
  split at h
  ·cases h
  ·exact ⟨h1,h⟩
 ·rw[if_neg h1]at h;exact absurd h h1
structure ProbOK (p:ProbD) (N:Nat):Prop where
 n:p.n=N
 n1:1≤N∧N≤5
 an:p.an=N
 c1:1≤p.cs.length∧p.cs.length≤1024
 inn:∀k,k<p.cs.length→(nthC p.cs k).inn.length=N∧∀x∈(nthC p.cs k).inn,0≤x∧x<8
 mv:MovesOK p.n p.st
 s1:1≤p.st.length∧p.st.length≤256
 r:0≤p.rounds∧p.rounds≤6
 t:checkT p.n p.ins p.outs p.cs=0
 a:checkA p.an p.st=0
theorem probOK {p:ProbD} (h:checkPr p=0):∃N,ProbOK p N:=by
 obtain ⟨h1,h2,h3,h4,h5⟩:=yd h
 have ht:=zU h1
 have ha:=qo h2
 obtain ⟨N,hN⟩:∃N:Nat,p.n=N:=⟨p.n.toNat,by omega⟩
 refine ⟨N,hN,by omega,by omega,⟨ht.2.2.2.2.2.2.1,ht.2.2.2.2.2.2.2.1⟩,fun k hk=>?_,by rw[h3];exact ha.2.2.2.2.2.1,⟨ha.2.2.1,ha.2.2.2.1⟩,⟨h4,h5⟩,h1,h2⟩
 have:=QB (xM (ht.2.2.2.2.2.2.2.2 k hk)).1
 exact ⟨by omega,fun x hx=>by have:=this.2 x hx;omega⟩
theorem ProbOK.words {p:ProbD} {N:Nat} (h:ProbOK p N) (h8:Moves8 p.st) (k:Nat):∀w∈wordsD p.st k 0,∀r∈w,RoundOK p.n r:=zaX h.mv h8 k 0 (by have:=h.s1;omega)
end Go.Proofs.YtjpakklplhabdaaGreat
