/- Part of the proof that the laws answer true for every input. -/
import Derived.Test.YtiabbjolepnjkaaGreatPVaA00
import Derived.OrdersHeld
import Derived.Deep.RegionHeld
import Derived.Laws.OwnMore
set_option linter.unusedSimpArgs false
set_option linter.unnecessarySimpa false
set_option linter.unusedVariables false
set_option maxRecDepth 100000
set_option maxHeartbeats 40000000
namespace Go.Proofs.YtiabbjolepnjkaaGreat
open Go.RowKit
def nthL (ll:List (List Int)) (k:Nat):List Int:=ll.getD k []
def nthV (vs:List Value) (k:Nat):Value:=vs.getD k undef
theorem zV {l:List (List Int)} {k:Nat} (h:k<l.length):nthL l k=l[k]:=by simp[nthL,h]
theorem yg {l:List (List Int)} {k:Nat} (h:k<l.length):nthL l k∈l:=by rw[zV h];exact List.getElem_mem h
theorem yN {l:List (List Int)} {k:Nat} (h:k<l.length):l.take (k+1)=l.take k++[nthL l k]:=by rw[zV h];exact (List.take_append_getElem h).symm
theorem Zn {l:List Value} {k:Nat} (h:k<l.length):l[k]? =some (nthV l k):=by simp[nthV,h]
def Lists (S:Nat→Prop) (w:World) (v:Value) (ll:List (List Int)):Prop:=
 ∃a cap,v=.slice a ll.length cap∧Ad S w a ll.length cap∧ll.length≤cap∧cap≤maxLen∧
  ∀j,j<ll.length→∃u,w.cell? (adr a j)=some u∧Ints S w u (nthL ll j)
theorem Lists.agree {S:Nat→Prop} {w w':World} {v:Value} {l:List (List Int)} (h:Lists S w v l) (hw:Agree S w w'):Lists S w' v l:=by
 obtain ⟨a,cap,rfl,ha,h1,h2,hc⟩:=h;refine ⟨a,cap,rfl,ha.agree hw,h1,h2,fun j hj=>?_⟩;obtain ⟨u,hu,hi⟩:=hc j hj;exact ⟨u,(ha.cell hw hj).trans hu,hi.agree hw⟩
theorem Lists.mono {S S':Nat→Prop} {w:World} {v:Value} {l:List (List Int)} (h:Lists S w v l) (hS:∀b,S b→S' b):Lists S' w v l:=by
 obtain ⟨a,cap,rfl,ha,h1,h2,hc⟩:=h;refine ⟨a,cap,rfl,ha.mono hS,h1,h2,fun j hj=>?_⟩;obtain ⟨u,hu,hi⟩:=hc j hj;exact ⟨u,hu,hi.mono hS⟩
theorem Lists.ext {S:Nat→Prop} {w w':World} {v:Value} {l:List (List Int)} (h:Lists S w v l) (hw:Below w.heap.size w w'):Lists S w' v l:=h.agree (.of_ext hw)
theorem Lists.nil (S:Nat→Prop) (w:World):Lists S w (.slice none 0 0) []:=
 ⟨none,0,rfl,.inl ⟨rfl,rfl⟩,Nat.le_refl _,by simp[maxLen],fun j hj=>by simp at hj⟩
structure OwnRows (e er:TypeId) (base:Nat) (w:World) (v:Value) (vs:List Value) (ll:List (List Int)):Prop where
 row:w.ownsRow base e 1 v ll.length vs
 rows:∀j,j<ll.length→w.ownsRow base er 1 (nthV vs j) (nthL ll j).length ((nthL ll j).map (Value.int .i64))
 apart:∀i j,i<ll.length→j<ll.length→i≠j→∀k,(nthV vs i).ownBlock=some k→(nthV vs j).ownBlock≠some k
 out:∀i,i<ll.length→∀k,(nthV vs i).ownBlock=some k→v.ownBlock≠some k
section
variable {e er:TypeId} {base:Nat} {w:World} {v:Value} {vs:List Value} {ll:List (List Int)}
theorem OwnRows.nil (e er:TypeId) (base:Nat) (w:World):OwnRows e er base w (.slice none 0 0) [] []:=
 ⟨World.ownsRow_nil _ _ _ _,fun j hj=>by simp at hj,fun i j hi=>by simp at hi,fun i hi=>by simp at hi⟩
theorem OwnRows.len (h:OwnRows e er base w v vs ll):vs.length=ll.length:=by have:=h.row.1;simpa using this
theorem OwnRows.ext {w':World} (h:OwnRows e er base w v vs ll) (hw:Below w.heap.size w w'):OwnRows e er base w' v vs ll:=
 ⟨yC h.row hw,fun j hj=>yC (h.rows j hj) hw,h.apart,h.out⟩
theorem OwnRows.lists (h:OwnRows e er base w v vs ll) (hf:∀l∈ll,∀x∈l,WF x):Lists (fun b=>base≤b) w v ll:=by
 have hl:=h.len;rcases h.row.2 with ⟨rfl,hn0⟩ | ⟨g,cap,cur,rfl,hb,hg,hnc,hcm,_⟩
 ·have:ll=[]:=by simpa using hn0
  subst this;exact Lists.nil _ _
 ·refine ⟨_,cap,rfl,.inr ⟨g,0,rfl,(Array.getElem?_eq_some_iff.1 hg).1,hb⟩,hnc,hcm,fun j hj=>⟨nthV vs j,?_,?_⟩⟩
  ·rw[zW,Nat.zero_add,h.row.cellAt j (by omega),Zn (by omega)]
  ·exact Ints.of_own (h.rows j hj) (hf _ (yg hj))
theorem OwnRows.push {w':World} {v':Value} (h:OwnRows e er base w v vs ll) (hr:w'.ownsRow base e 1 v' (ll.length+1) (vs++[.slice none 0 0]))
  (hg:∀S:Nat→Prop,(∀k,v.ownBlock=some k→¬S k)→Agree S w w') (hv:∀k,v'.ownBlock=some k→v.ownBlock=some k∨w.heap.size≤k):
  OwnRows e er base w' v' (vs++[.slice none 0 0]) (ll++[[]]):=by
 have hl:=h.len;have ev:∀j,j<ll.length→nthV (vs++[.slice none 0 0]) j=nthV vs j:=fun j hj=>by simp[nthV,List.getElem?_append_left (show j<vs.length by omega)]
 have ev2:nthV (vs++[.slice none 0 0]) ll.length=.slice none 0 0:=by simp[nthV,←hl]
 have el:∀j,j<ll.length→nthL (ll++[[]]) j=nthL ll j:=fun j hj=>by simp[nthL,List.getElem?_append_left hj]
 have el2:nthL (ll++[[]]) ll.length=[]:=by simp[nthL]
 refine ⟨by simpa using hr,fun j hj=>?_,fun i j hi hj hij k hk=>?_,fun i hi k hk e1=>?_⟩
 ·simp at hj;by_cases hj':j<ll.length
  ·rw[ev j hj',el j hj'];exact zM (S:=fun b=>v.ownBlock≠some b) (h.rows j hj') (hg _ (fun k hk=>by simp[hk])) (fun k hk=>h.out j hj' k hk)
  ·obtain rfl:j=ll.length:=by omega
   rw[ev2,el2];exact World.ownsRow_nil _ _ _ _
 ·simp at hi hj;by_cases hi':i<ll.length
  ·by_cases hj':j<ll.length
   ·rw[ev i hi']at hk;rw[ev j hj'];exact h.apart i j hi' hj' hij k hk
   ·obtain rfl:j=ll.length:=by omega
    rw[ev2];simp[Value.ownBlock]
  ·obtain rfl:i=ll.length:=by omega
   rw[ev2]at hk;simp[Value.ownBlock]at hk
 ·simp at hi;by_cases hi':i<ll.length
  ·rw[ev i hi']at hk;rcases hv k e1 with h2 | h2
   ·exact h.out i hi' k hk h2
   ·have:=((h.rows i hi').lt k hk).2;omega
  ·obtain rfl:i=ll.length:=by omega
   rw[ev2]at hk;simp[Value.ownBlock]at hk
theorem OwnRows.keep {w':World} {g cap x N:Nat} (h:OwnRows e er base w (.slice (some ⟨g,0,none⟩) N cap) vs ll) (hN:N=ll.length) (hx:x<ll.length)
  (hg:∀S:Nat→Prop,(∀k,(nthV vs x).ownBlock=some k→¬S k)→Agree S w w'):w'.cell? ⟨g,x,none⟩=some (nthV vs x)∧w'.frozen? ⟨g,x,none⟩=false:=by
 subst hN;have hl:=h.len;have hrow:w'.ownsRow base e 1 (.slice (some ⟨g,0,none⟩) ll.length cap) ll.length vs:=
  zM (S:=fun b=>b=g) h.row (hg _ (fun k hk e1=>h.out x hx k hk (by rw[e1];rfl))) (fun k hk=>by simp[Value.ownBlock]at hk;exact hk.symm)
 exact ⟨by rw[hrow.cellAt x (by omega),Zn (by omega)],hrow.frozenAt x⟩
theorem OwnRows.cell {g cap x N:Nat} (h:OwnRows e er base w (.slice (some ⟨g,0,none⟩) N cap) vs ll) (hN:N=ll.length) (hx:x<ll.length):w.cell? ⟨g,x,none⟩=some (nthV vs x):=
 (h.keep hN hx (fun S _=>.refl _ _)).1
theorem OwnRows.form (h:OwnRows e er base w v vs ll):∃a cap,v=.slice a ll.length cap∧(0<ll.length→∃g,a=some ⟨g,0,none⟩):=by
 rcases h.row.2 with ⟨rfl,hn0⟩ | ⟨g,cap,cur,rfl,_⟩
 ·exact ⟨none,0,by rw[hn0],fun h=>by omega⟩
 ·exact ⟨_,cap,rfl,fun _=>⟨g,rfl⟩⟩
theorem OwnRows.app {w':World} {u':Value} {g cap x N:Nat} {y:Int} (h:OwnRows e er base w (.slice (some ⟨g,0,none⟩) N cap) vs ll) (hN:N=ll.length) (hx:x<ll.length)
  (hr:w'.ownsRow base er 1 u' ((nthL ll x).length+1) ((nthL ll x).map (Value.int .i64)++[.int .i64 y]))
  (hg:∀S:Nat→Prop,(∀k,(nthV vs x).ownBlock=some k→¬S k)→Agree S w w') (hv:∀k,u'.ownBlock=some k→(nthV vs x).ownBlock=some k∨w.heap.size≤k):
  OwnRows e er base (w'.setCell ⟨g,x,none⟩ u') (.slice (some ⟨g,0,none⟩) N cap) (vs.set x u') (ll.set x (nthL ll x++[y])):=by
 subst hN;have hl:=h.len;have hgl:g<w.heap.size:=(h.row.lt g rfl).2;have ev:∀j,j≠x→nthV (vs.set x u') j=nthV vs j:=fun j hj=>by simp[nthV,List.getElem?_set_ne (fun e:x=j=>hj e.symm)]
 have ev2:nthV (vs.set x u') x=u':=by simp[nthV,show x<vs.length by omega]
 have el:∀j,j≠x→nthL (ll.set x (nthL ll x++[y])) j=nthL ll j:=fun j hj=>by simp[nthL,List.getElem?_set_ne (fun e:x=j=>hj e.symm)]
 have el2:nthL (ll.set x (nthL ll x++[y])) x=nthL ll x++[y]:=by simp[nthL,hx]
 have hne:∀k,u'.ownBlock=some k→k≠g:=by
  intro k hk e1;subst e1;rcases hv k hk with h2 | h2
  ·exact h.out x hx k h2 rfl
  ·omega
 have hrow:w'.ownsRow base e 1 (.slice (some ⟨g,0,none⟩) ll.length cap) ll.length vs:=
  zM (S:=fun b=>b=g) h.row (hg _ (fun k hk e1=>h.out x hx k hk (by rw[e1];rfl))) (fun k hk=>by simp[Value.ownBlock]at hk;exact hk.symm)
 have hst:=hrow.stored x u';have keep:∀{t:TypeId} {q:Value} {n:Nat} {zs:List Value},w'.ownsRow base t 1 q n zs→(∀k,q.ownBlock=some k→k≠g)→(w'.setCell ⟨g,x,none⟩ u').ownsRow base t 1 q n zs:=fun ho hk=>
  zM (S:=fun b=>b≠g) ho (.of_grown hst.2 (fun b hb e1=>hb (by cases e1;rfl))) (fun k hk'=>hk k hk')
 refine ⟨by simpa using hst.1,fun j hj=>?_,fun i j hi hj hij k hk=>?_,fun i hi k hk=>?_⟩
 ·simp at hj;by_cases hjx:j=x
  ·subst hjx;rw[ev2,el2];refine keep ?_ hne;simpa using hr
  ·rw[ev j hjx,el j hjx];refine keep (zM (S:=fun b=>(nthV vs x).ownBlock≠some b) (h.rows j hj) (hg _ (fun k hk=>by simp[hk])) (fun k hk=>h.apart j x hj hx hjx k hk)) (fun k hk e1=>?_);subst e1;exact h.out j hj k hk rfl
 ·simp at hi hj;by_cases hix:i=x
  ·subst hix;have hjx:j≠i:=fun e=>hij e.symm;rw[ev2]at hk;rw[ev j hjx];rcases hv k hk with h2 | h2
   ·exact h.apart i j hi hj hij k h2
   ·intro e1;have:=((h.rows j hj).lt k e1).2;omega
  ·rw[ev i hix]at hk;by_cases hjx:j=x
   ·subst hjx;rw[ev2];intro e1;rcases hv k e1 with h2 | h2
    ·exact h.apart i j hi hj hij k hk h2
    ·have:=((h.rows i hi).lt k hk).2;omega
   ·rw[ev j hjx];exact h.apart i j hi hj hij k hk
 ·simp at hi;by_cases hix:i=x
  ·subst hix;rw[ev2]at hk;intro e1;simp[Value.ownBlock]at e1;exact hne k hk e1.symm
  ·rw[ev i hix]at hk;exact h.out i hi k hk
end
structure OwnList (e:TypeId) (base:Nat) (w:World) (v:Value) (vs:List Value) (ll:List (List Int)):Prop where
 row:w.ownsRow base e 1 v ll.length vs
 rows:∀j,j<ll.length→Ints (fun b=>base≤b∧v.ownBlock≠some b) w (nthV vs j) (nthL ll j)
section
variable {e:TypeId} {base:Nat} {w:World} {v:Value} {vs:List Value} {ll:List (List Int)}
theorem OwnList.nil (e:TypeId) (base:Nat) (w:World):OwnList e base w (.slice none 0 0) [] []:=⟨World.ownsRow_nil _ _ _ _,fun j hj=>by simp at hj⟩
theorem OwnList.len (h:OwnList e base w v vs ll):vs.length=ll.length:=by have:=h.row.1;simpa using this
theorem OwnList.ext {w':World} (h:OwnList e base w v vs ll) (hw:Below w.heap.size w w'):OwnList e base w' v vs ll:=
 ⟨yC h.row hw,fun j hj=>(h.rows j hj).ext hw⟩
theorem OwnList.lists (h:OwnList e base w v vs ll):Lists (fun b=>base≤b) w v ll:=by
 have hl:=h.len;rcases h.row.2 with ⟨rfl,hn0⟩ | ⟨g,cap,cur,rfl,hb,hg,hnc,hcm,_⟩
 ·have:ll=[]:=by simpa using hn0
  subst this;exact Lists.nil _ _
 ·refine ⟨_,cap,rfl,.inr ⟨g,0,rfl,(Array.getElem?_eq_some_iff.1 hg).1,hb⟩,hnc,hcm,fun j hj=>⟨nthV vs j,?_,?_⟩⟩
  ·rw[zW,Nat.zero_add,h.row.cellAt j (by omega),Zn (by omega)]
  ·exact (h.rows j hj).mono fun b hb=>hb.1
theorem Ints.block {S:Nat→Prop} {w:World} {v:Value} {l:List Int} (h:Ints S w v l) (k:Nat):Ints (fun b=>S b∧b<w.heap.size) w v l:=by
 obtain ⟨a,cap,rfl,ha,r⟩:=h;refine ⟨a,cap,rfl,?_,r⟩;rcases ha with h | ⟨b,off,rfl,hb,hs⟩
 ·exact .inl h
 ·exact .inr ⟨b,off,rfl,hb,hs,hb⟩
theorem OwnList.push {w':World} {v' u:Value} {l:List Int} (h:OwnList e base w v vs ll) (hr:w'.ownsRow base e 1 v' (ll.length+1) (vs++[u]))
  (hg:∀S:Nat→Prop,(∀k,v.ownBlock=some k→¬S k)→Agree S w w') (hv:∀k,v'.ownBlock=some k→v.ownBlock=some k∨w.heap.size≤k)
  (hu:Ints (fun b=>base≤b∧v.ownBlock≠some b) w u l):OwnList e base w' v' (vs++[u]) (ll++[l]):=by
 have hl:=h.len;have move:∀{q:Value} {m:List Int},Ints (fun b=>base≤b∧v.ownBlock≠some b) w q m→Ints (fun b=>base≤b∧v'.ownBlock≠some b) w' q m:=by
  intro q m hq;refine ((hq.block 0).agree (hg _ (fun k hk hh=>hh.1.2 hk))).mono ?_;intro b hb;refine ⟨hb.1.1,fun e1=>?_⟩;rcases hv b e1 with h2 | h2
  ·exact hb.1.2 h2
  ·have:=hb.2;omega
 refine ⟨by simpa using hr,fun j hj=>?_⟩;simp at hj;by_cases hj':j<ll.length
 ·have ev:nthV (vs++[u]) j=nthV vs j:=by simp[nthV,List.getElem?_append_left (show j<vs.length by omega)]
  have el:nthL (ll++[l]) j=nthL ll j:=by simp[nthL,List.getElem?_append_left hj']
  rw[ev,el];exact move (h.rows j hj')
 ·obtain rfl:j=ll.length:=by omega
  have ev:nthV (vs++[u]) ll.length=u:=by simp[nthV,←hl]
  have el:nthL (ll++[l]) ll.length=l:=by simp[nthL]
  rw[ev,el];exact move hu
end
end Go.Proofs.YtiabbjolepnjkaaGreat
namespace Go.Proofs.YtiabbjolepnjkaaGreat
open Go.RowKit
theorem zG:(Tryz.prog.info? 3).map (fun i=>(i.zero,i.size,i.bytes))=some (some (.int .i64 0),1,8):=by kernel_rfl
theorem xe {l1 l2:List Int} {k:Nat} (hk1:k<l1.length) (hk2:k<l2.length) (h:l1.take k=l2.take k) (e:nth l1 k=nth l2 k):l1.take (k+1)=l2.take (k+1):=by
 rw[qP hk1,qP hk2,h,e]
theorem YZ {S S':Nat→Prop} {w:World} {v1 v2:Value} {l1 l2:List Int} (h1:Ints S w v1 l1) (h2:Ints S' w v2 l2):
  Calls Tryz.prog 27 #[v1,v2] w (QuietP w (.bool (decide (l1=l2)))):=by
 obtain ⟨a1,cap1,rfl,ha1,_,hm1,hc1,_⟩:=h1;obtain ⟨a2,cap2,rfl,ha2,_,_,hc2,_⟩:=h2;unfold maxLen at hm1;obtain ⟨i0,hi,hz0,hz1,hz2⟩:=info_parts zG;have hix1:=zF Tryz.underlying36 hi hz1 ha1;have hix2:=zF Tryz.underlying36 hi hz1 ha2;clear hi hz0 hz1 hz2;by_cases hlen:l1.length=l2.length
 ·have hne:((l1.length:Int) !=l2.length)=false:=by simp[hlen]
  have HL:=zhd hlen;clear hlen;go_enter Tryz.func27,Tryz.ntmps27;go_wp2;go_loopw [13] (fun i wr=>∃k:Nat,k≤l1.length∧i=.int .i64 k∧(∃m,wr=w.drewN m)∧l1.take k=l2.take k) (fun i _=>l1.length - (intOf i).toNat)
  case atStart=>exact ⟨0,by omega,rfl,⟨0,rfl⟩,rfl⟩
  case round=>
   obtain ⟨k,hk,rfl,⟨m,rfl⟩,hrel⟩:=hrel;have H:=zhd hrel;clear hrel;by_cases hlt:k<l1.length
   ·have hlt2:k<l2.length:=by have:=HL.out;omega
    have q1:=hix1 k hlt;have q2:=hix2 k hlt2;have p1:=hc1 k hlt;have p2:=hc2 k hlt2;clear hix1 hix2 hc1 hc2;by_cases he:nth l1 k=nth l2 k
    ·have he':(nth l1 k !=nth l2 k)=false:=by simp[he]
     have HE:=zhd he;clear he;go_wp2;go_quiet (fail);go_wp2;go_roundw
     case rel=>exact ⟨k+1,by omega,by go_num,⟨_,rfl⟩,xe hlt hlt2 H.out HE.out⟩
     case measure=>simp[intOf];omega
    ·have he':(nth l1 k !=nth l2 k)=true:=by simp[he]
     go_wp2;go_quiet (fail);go_wp2;go_ret;rw[World.drewN_drewN];exact .of (zy (decide_eq_false (fun (e:l1=l2)=>he (by rw[e]))).symm) _
   ·go_wp2;go_ret;refine .of (zy ?_) _;have:=H.out;have h2:=HL.out;rw[List.take_of_length_le (by omega),List.take_of_length_le (by omega)]at this;exact (decide_eq_true this).symm
 ·have hne:((l1.length:Int) !=l2.length)=true:=by simp;omega
  go_enter Tryz.func27,Tryz.ntmps27;go_wp2;go_ret;exact .of (zy (decide_eq_false (fun (e:l1=l2)=>hlen (by rw[e]))).symm) 0
theorem YW {S S':Nat→Prop} {w:World} {v1 v2:Value} {l1 l2:List Int} (h1:Ints S w v1 l1) (h2:Ints S' w v2 l2):
  Calls Tryz.prog 27 #[v1,v2] w (Post w fun _ r=>r=.bool (decide (l1=l2))):=(YZ h1 h2).mono fun _ _ h=>h.post
end Go.Proofs.YtiabbjolepnjkaaGreat
namespace Go.Proofs.YtiabbjolepnjkaaGreat
section
variable {P:Program} {ops:Array Oper} {Q:Exit→Act→World→Prop} {md:Region.Mode} {S:World→Prop} {X:Nat→Bool}
def AnyE (P:Program) (md:Region.Mode) (ops:Array Oper) (Q:Exit→Act→World→Prop) (S:World→Prop) (X:Nat→Bool):Nat→Array Bool→Act→World→Prop
 | 0,listed,a,w=>Region.ready md ops listed=[]∧Q .normal a w
 | fuel+1,listed,a,w=>
  (Region.ready md ops listed=[]→Q .normal a w)∧
  ∀i∈Region.ready md ops listed,wpOp P ops Q i (fun a' w'=>(X i=false→S w')∧AnyE P md ops Q S X fuel (listed.setIfInBounds i true) a' w') a w
theorem Zk:∀(fuel:Nat) (listed:Array Bool) (a:Act) (w:World),AnyE P md ops Q S X fuel listed a w→wpAny P md ops Q fuel listed a w
 | 0,_,_,_,h=>h
 | fuel+1,_,_,_,h=>⟨h.1,fun i hi=>wpOp_mono (fun a' w' h'=>Zk fuel _ a' w' h'.2) (h.2 i hi)⟩
def waitFor (md:Region.Mode) (ops:Array Oper) (X:Nat→Bool) (i:Nat):Bool:=
 (List.range ops.size).all fun j=> !X j||(match ops[j]? with | some o=>o.after.any (fun e=>Region.binds md e&&e.on==i) | none=>true)
theorem zak {i j:Nat} {oj:Oper} (h:waitFor md ops X i=true) (hj:ops[j]? =some oj) (hn:∀e∈oj.after,Region.binds md e=true→e.on≠i):X j=false:=by
 have hlt:j<ops.size:=(Array.getElem?_eq_some_iff.1 hj).1;have:=List.all_eq_true.1 h j (List.mem_range.2 hlt);rw[hj]at this;cases hx:X j with
 | false=>rfl
 | true=>
  rw[hx]at this;simp only[Bool.not_true,Bool.false_or]at this;rw[Array.any_eq_true]at this;obtain ⟨k,hk,he⟩:=this;simp only[Bool.and_eq_true,beq_iff_eq]at he;exact absurd he.2 (hn _ (Array.getElem_mem hk) he.1)
theorem zc1 {i:Nat} {oi:Oper} {v:Value} (hi:ops[i]? =some oi) (hsel:∀(j:Nat) (o:Oper) cs b,ops[j]? =some o→o.op≠.select cs b)
  (hX:waitFor md ops X i=true) (hQ:∀c a w,Q (.panic c) (a.put oi.dst v) w→Q (.panic c) a w):
  ∀(fuel:Nat) (listed:Array Bool) (a:Act) (w:World),
   (∀j oj,ops[j]? =some oj→j≠i→listed.getD j true=false→(∀e∈oj.after,Region.binds md e=true→e.on≠i)→oi.apart ops oj=true)→
   i∈Region.ready md ops listed→YieldsIf P ops S oi v a→S w→
   AnyE P md ops Q S X fuel (listed.setIfInBounds i true) (a.put oi.dst v) w→AnyE P md ops Q S X (fuel+1) listed a w:=by
 intro fuel;induction fuel with
 | zero=>
  intro listed a w _ hr hy hS H;refine ⟨fun h=>(by rw[h]at hr;cases hr),fun j hj=>?_⟩;by_cases hji:j=i
  ·subst hji;exact hy.wpOp hi hS ⟨fun _=>hS,H⟩
  ·have:=ready_mono hj hji;rw[H.1]at this;cases this
 | succ fuel ih=>
  intro listed a w hfree hr hy hS H;refine ⟨fun h=>(by rw[h]at hr;cases hr),fun j hj=>?_⟩;by_cases hji:j=i
  ·subst hji;exact hy.wpOp hi hS ⟨fun _=>hS,H⟩
  ·have h1:=H.2 j (ready_mono hj hji);obtain ⟨hjun,oj,hoj,hall⟩:=mem_ready.1 hj;have hnot:∀e∈oj.after,Region.binds md e=true→e.on≠i:=fun e he hb heq=>by
    have k1:=hall e he hb;have k0:=(mem_ready.1 hr).1;rw[heq]at k1;rcases Nat.lt_or_ge i listed.size with h' | h'
    ·simp[h']at k0 k1;rw[k0]at k1;cases k1
    ·simp[Array.getElem?_eq_none h']at k1
   have hxj:X j=false:=zak hX hoj hnot;have h2:=wpOp_putIf hoj (hfree j oj hoj hji hjun hnot) (fun cs b=>hsel i oi cs b hi) (fun cs b=>hsel j oj cs b hoj) hQ hy h1;refine wpOp_mono (fun a' w' h3=>⟨fun _=>h3.2.1 hxj,ih (listed.setIfInBounds j true) a' w' (fun k ok hk hki hun hno=>?_) (ready_mono hr (Ne.symm hji)) h3.1 (h3.2.1 hxj) ?_⟩) h2
   ·refine hfree k ok hk hki ?_ hno;by_cases hjk:j=k
    ·subst hjk;exact hjun
    ·rw[getD_set_ne true hjk]at hun;exact hun
   ·rw[Array.setIfInBounds_comm _ _ hji];exact h3.2.2
theorem Qq {i:Nat} {oi:Oper} {v:Value} {fuel:Nat} {listed:Array Bool} {a:Act} {w:World} (hi:ops[i]? =some oi) (hs:Region.noSelect ops=true)
  (hf:(Region.free md ops listed i&&((Region.ready md ops listed).contains i&&waitFor md ops X i))=true)
  (hQ:∀c a w,Q (.panic c) (a.put oi.dst v) w→Q (.panic c) a w) (hy:YieldsIf P ops S oi v a) (hS:S w)
  (h:AnyE P md ops Q S X fuel (listed.setIfInBounds i true) (a.put oi.dst v) w):AnyE P md ops Q S X (fuel+1) listed a w:=by
 simp only[Bool.and_eq_true]at hf;exact zc1 hi (Region.noSelect_spec hs) hf.2.2 hQ fuel listed a w (Region.free_spec hi hf.1) (by simpa using hf.2.1) hy hS h
theorem zdC {i:Nat} {o:Oper} {fuel:Nat} {listed:Array Bool} {a:Act} {w:World} (ho:ops[i]? =some o) (hr:Region.ready md ops listed=[i])
  (h:∀K':Act→World→Prop,Shut (∀a w,(X i=false→S w)→((X i=false→S w)→AnyE P md ops Q S X fuel (listed.setIfInBounds i true) a w)→K' a w)→if Region.wanted o (yielded ops a.tmps)=true then Oper.wp P o a w K' Q else K' (a.put o.dst undef) w):
  AnyE P md ops Q S X (fuel+1) listed a w:=by
 refine ⟨fun h0=>(by rw[hr]at h0;cases h0),fun j hj=>?_⟩;rw[hr]at hj;obtain rfl:j=i:=by simpa using hj
 exact wpOp_step ho fun K' hK=>h K' fun a w h1 h2=>hK a w ⟨h1,h2 h1⟩
theorem anyE_take {l:List Oper} (i:Nat) {oi:Oper} {v:Value} {fuel:Nat} {listed:Array Bool} {a:Act} {w:World} (hi:l[i]? =some oi)
  (hf:(Region.noSelect l.toArray&&(Region.free md l.toArray listed i&&((Region.ready md l.toArray listed).contains i&&waitFor md l.toArray X i)))=true)
  (hQ:∀c a w,Q (.panic c) (a.put oi.dst v) w→Q (.panic c) a w) (hw:Region.wanted oi (yielded l.toArray a.tmps)=true) (hy:∀w,S w→(execOp a.eval oi).run P w=.ok (.value v) w) (hS:S w)
  (h:AnyE P md l.toArray Q S X fuel (listed.setIfInBounds i true) (a.put oi.dst v) w):AnyE P md l.toArray Q S X (fuel+1) listed a w:=by
 simp only[Bool.and_eq_true]at hf;exact Qq (by simpa using hi) hf.1 (by simp only[Bool.and_eq_true];exact hf.2) hQ (.inl ⟨hw,hy⟩) hS h
theorem zt {P:Program} {Q:Exit→Act→World→Prop} {md:Region.Mode} {S:World→Prop} {X:Nat→Bool} {l:List Oper} (i:Nat) {oi:Oper} {v:Value} {fuel:Nat} {listed:Array Bool} {a a':Act} {w:World} (hS:S w) (h:AnyE P md l.toArray Q S X fuel (listed.setIfInBounds i true) a' w)
  (hi:l[i]? =some oi:=by rfl) (hf:(Region.noSelect l.toArray&&(Region.free md l.toArray listed i&&((Region.ready md l.toArray listed).contains i&&waitFor md l.toArray X i)))=true:=by kernel_rfl)
  (hQ:∀c a w,Q (.panic c) (a.put oi.dst v) w→Q (.panic c) a w:=by exact fun _ _ _ h=>h) (hw:Region.wanted oi (yielded l.toArray a.tmps)=true:=by rfl)
  (hy:∀w,S w→(execOp a.eval oi).run P w=.ok (.value v) w:=by (intro w hSw;(try dsimp only at hSw);go_simp;try with_reducible rfl))
  (ha:a.put oi.dst v=a':=by (try simp only[Act.put,zsa,zsz,zss]);exact rfl):AnyE P md l.toArray Q S X (fuel+1) listed a w:=by
 subst ha;exact anyE_take i hi hf hQ hw hy hS h
theorem anyE_one {l:List Oper} (i:Nat) {o:Oper} {fuel:Nat} {listed:Array Bool} {a:Act} {w:World} (ho:l[i]? =some o) (hr:Region.ready md l.toArray listed=[i])
  (h:∀K':Act→World→Prop,Shut (∀a w,(X i=false→S w)→((X i=false→S w)→AnyE P md l.toArray Q S X fuel (listed.setIfInBounds i true) a w)→K' a w)→if Region.wanted o (yielded l.toArray a.tmps)=true then Oper.wp P o a w K' Q else K' (a.put o.dst undef) w):
  AnyE P md l.toArray Q S X (fuel+1) listed a w:=zdC (by simpa using ho) hr h
theorem zo {P:Program} {Q:Exit→Act→World→Prop} {md:Region.Mode} {S:World→Prop} {X:Nat→Bool} {l:List Oper} (i:Nat) {o:Oper} {fuel:Nat} {listed:Array Bool} {a:Act} {w:World}
  (h:∀K':Act→World→Prop,Shut (∀a w,(X i=false→S w)→((X i=false→S w)→AnyE P md l.toArray Q S X fuel (listed.setIfInBounds i true) a w)→K' a w)→if Region.wanted o (yielded l.toArray a.tmps)=true then Oper.wp P o a w K' Q else K' (a.put o.dst undef) w) (ho:l[i]? =some o:=by rfl) (hr:Region.ready md l.toArray listed=[i]:=by kernel_rfl):
  AnyE P md l.toArray Q S X (fuel+1) listed a w:=anyE_one i ho hr h
theorem zk {P:Program} {ops:Array Oper} {Q:Exit→Act→World→Prop} {md:Region.Mode} {S:World→Prop} {X:Nat→Bool} {b:Bool} {fuel:Nat} {L:Array Bool} {K':Act→World→Prop} {a a':Act} {w:World} (hK:Shut (∀a w,(b=false→S w)→((b=false→S w)→AnyE P md ops Q S X fuel L a w)→K' a w)) (hs:S w) (h:S w→AnyE P md ops Q S X fuel L a' w) (hb:b=false:=by rfl)
  (ha:a=a':=by (try simp only[Act.put,zsa,zsz,zss]);exact rfl):K' a w:=by
 subst ha;exact hK.out a w (fun _=>hs) (fun hh=>h (hh hb))
theorem Zr {l:List Oper} (i j:Nat) {oi oj:Oper} {fuel:Nat} {listed:Array Bool} {a:Act} {w:World} (hi:l[i]? =some oi) (hj:l[j]? =some oj) (hr:Region.ready md l.toArray listed=[i,j])
  (h1:∀K':Act→World→Prop,Shut (∀a w,(X i=false→S w)→((X i=false→S w)→AnyE P md l.toArray Q S X fuel (listed.setIfInBounds i true) a w)→K' a w)→if Region.wanted oi (yielded l.toArray a.tmps)=true then Oper.wp P oi a w K' Q else K' (a.put oi.dst undef) w)
  (h2:∀K':Act→World→Prop,Shut (∀a w,(X j=false→S w)→((X j=false→S w)→AnyE P md l.toArray Q S X fuel (listed.setIfInBounds j true) a w)→K' a w)→if Region.wanted oj (yielded l.toArray a.tmps)=true then Oper.wp P oj a w K' Q else K' (a.put oj.dst undef) w):
  AnyE P md l.toArray Q S X (fuel+1) listed a w:=by
 refine ⟨fun h0=>(by rw[hr]at h0;cases h0),fun k hk=>?_⟩;rw[hr]at hk;have:k=i∨k=j:=by simpa using hk
 rcases this with rfl | rfl
 ·exact wpOp_step (by simpa using hi) fun K' hK=>h1 K' fun a w q1 q2=>hK a w ⟨q1,q2 q1⟩
 ·exact wpOp_step (by simpa using hj) fun K' hK=>h2 K' fun a w q1 q2=>hK a w ⟨q1,q2 q1⟩
theorem zz {listed:Array Bool} {a:Act} {w:World} (hr:Region.ready md ops listed=[]) (h:Q .normal a w):
  ∀fuel,AnyE P md ops Q S X fuel listed a w
 | 0=>⟨hr,h⟩
 | _+1=>⟨fun _=>h,by rw[hr];simp⟩
theorem zE (S:World→Prop) (X:Nat→Bool) {id:Nat} {a:Act} {w:World} (hm:P.follows .mixedOrders=true) (hS:S w.drew)
  (h:S w.drew→AnyE P .any ops Q S X ops.size (Array.replicate ops.size false) a w.drew):(Code.region id ops true).wp P Q a w:=
 wp_region_any hm (Zk _ _ _ _ (h hS))
end
end Go.Proofs.YtiabbjolepnjkaaGreat
