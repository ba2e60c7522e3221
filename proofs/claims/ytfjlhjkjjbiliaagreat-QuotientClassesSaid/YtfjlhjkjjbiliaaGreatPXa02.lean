/- Part of the proof that the laws answer true for every input. -/
import Derived.Test.YtfjlhjkjjbiliaaGreatPXa00
set_option linter.unusedSimpArgs false
set_option linter.unnecessarySimpa false
set_option linter.unusedVariables false
set_option maxRecDepth 100000
set_option maxHeartbeats 40000000
namespace Go.Proofs.YtfjlhjkjjbiliaaGreat
open Go.RowKit
def nthL (ll:List (List Int)) (k:Nat):List Int:=ll.getD k []
def nthV (vs:List Value) (k:Nat):Value:=vs.getD k undef
theorem zU {l:List (List Int)} {k:Nat} (h:k<l.length):nthL l k=l[k]:=by simp[nthL,h]
theorem yj {l:List (List Int)} {k:Nat} (h:k<l.length):nthL l k∈l:=by rw[zU h];exact List.getElem_mem h
theorem yG {l:List (List Int)} {k:Nat} (h:k<l.length):l.take (k+1)=l.take k++[nthL l k]:=by rw[zU h];exact (List.take_append_getElem h).symm
theorem Zo {l:List Value} {k:Nat} (h:k<l.length):l[k]? =some (nthV l k):=by simp[nthV,h]
def Lists (S:Nat→Prop) (w:World) (v:Value) (ll:List (List Int)):Prop:=
 ∃a cap,v=.slice a ll.length cap∧Ad S w a ll.length cap∧ll.length≤cap∧cap≤maxLen∧
  ∀j,j<ll.length→∃u,w.cell? (adr a j)=some u∧Ints S w u (nthL ll j)
theorem Lists.agree {S:Nat→Prop} {w w':World} {v:Value} {l:List (List Int)} (h:Lists S w v l) (hw:Agree S w w'):Lists S w' v l:=by
 obtain ⟨a,cap,rfl,ha,h1,h2,hc⟩:=h
 refine ⟨a,cap,rfl,ha.agree hw,h1,h2,fun j hj=>?_⟩
 obtain ⟨u,hu,hi⟩:=hc j hj
 exact ⟨u,(ha.cell hw hj).trans hu,hi.agree hw⟩
theorem Lists.mono {S S':Nat→Prop} {w:World} {v:Value} {l:List (List Int)} (h:Lists S w v l) (hS:∀b,S b→S' b):Lists S' w v l:=by
 obtain ⟨a,cap,rfl,ha,h1,h2,hc⟩:=h
 refine ⟨a,cap,rfl,ha.mono hS,h1,h2,fun j hj=>?_⟩
 obtain ⟨u,hu,hi⟩:=hc j hj
 exact ⟨u,hu,hi.mono hS⟩
theorem Lists.ext {S:Nat→Prop} {w w':World} {v:Value} {l:List (List Int)} (h:Lists S w v l) (hw:Below w.heap.size w w'):Lists S w' v l:=h.agree (.of_ext hw)
theorem Lists.nil (S:Nat→Prop) (w:World):Lists S w (.slice none 0 0) []:=
 ⟨none,0,rfl,.inl ⟨rfl,rfl⟩,Nat.le_refl _,by simp[maxLen],fun j hj=>by simp at hj⟩
structure OwnRows (e er:TypeId) (base:Nat) (w:World) (v:Value) (vs:List Value) (ll:List (List Int)):Prop where
 row:w.ownsRow base e 1 v ll.length vs
 rows:∀j,j<ll.length→w.ownsRow base er 1 (nthV vs j) (nthL ll j).length ((nthL ll j).map (Value.int .i64))
 apart:∀i j,i<ll.length→j<ll.length→i≠j→∀k,(nthV vs i).ownBlock=some k→(nthV vs j).ownBlock≠some k
 out:∀i,i<ll.length→∀k,(nthV vs i).ownBlock=some k→v.ownBlock≠some k
section
variable {e er:TypeId} {base:Nat} {w:World} {v:Value} {vs:List Value} {ll:List (List Int)}
theorem OwnRows.nil (e er:TypeId) (base:Nat) (w:World):OwnRows e er base w (.slice none 0 0) [] []:=
 ⟨World.ownsRow_nil _ _ _ _,fun j hj=>by simp at hj,fun i j hi=>by simp at hi,fun i hi=>by simp at hi⟩
theorem OwnRows.len (h:OwnRows e er base w v vs ll):vs.length=ll.length:=by have:=h.row.1;simpa using this
theorem OwnRows.ext {w':World} (h:OwnRows e er base w v vs ll) (hw:Below w.heap.size w w'):OwnRows e er base w' v vs ll:=
 ⟨ye h.row hw,fun j hj=>ye (h.rows j hj) hw,h.apart,h.out⟩
theorem OwnRows.lists (h:OwnRows e er base w v vs ll) (hf:∀l∈ll,∀x∈l,WF x):Lists (fun b=>base≤b) w v ll:=by
 have hl:=h.len
 rcases h.row.2 with ⟨rfl,hn0⟩ | ⟨g,cap,cur,rfl,hb,hg,hnc,hcm,_⟩
 ·have:ll=[]:=by simpa using hn0
  subst this
  exact Lists.nil _ _
 ·refine ⟨_,cap,rfl,.inr ⟨g,0,rfl,(Array.getElem?_eq_some_iff.1 hg).1,hb⟩,hnc,hcm,fun j hj=>⟨nthV vs j,?_,?_⟩⟩
  ·rw[zS,Nat.zero_add,h.row.cellAt j (by omega),Zo (by omega)]
  ·exact Ints.of_own (h.rows j hj) (hf _ (yj hj))
theorem OwnRows.push {w':World} {v':Value} (h:OwnRows e er base w v vs ll) (hr:w'.ownsRow base e 1 v' (ll.length+1) (vs++[.slice none 0 0]))
  (hg:∀S:Nat→Prop,(∀k,v.ownBlock=some k→¬S k)→Agree S w w') (hv:∀k,v'.ownBlock=some k→v.ownBlock=some k∨w.heap.size≤k):
  OwnRows e er base w' v' (vs++[.slice none 0 0]) (ll++[[]]):=by
 have hl:=h.len
 have ev:∀j,j<ll.length→nthV (vs++[.slice none 0 0]) j=nthV vs j:=fun j hj=>by simp[nthV,List.getElem?_append_left (show j<vs.length by omega)]
 have ev2:nthV (vs++[.slice none 0 0]) ll.length=.slice none 0 0:=by simp[nthV,←hl]
 have el:∀j,j<ll.length→nthL (ll++[[]]) j=nthL ll j:=fun j hj=>by simp[nthL,List.getElem?_append_left hj]
 have el2:nthL (ll++[[]]) ll.length=[]:=by simp[nthL]
 refine ⟨by simpa using hr,fun j hj=>?_,fun i j hi hj hij k hk=>?_,fun i hi k hk e1=>?_⟩
 ·simp at hj
  by_cases hj':j<ll.length
  ·rw[ev j hj',el j hj']
   exact zH (S:=fun b=>v.ownBlock≠some b) (h.rows j hj') (hg _ (fun k hk=>by simp[hk])) (fun k hk=>h.out j hj' k hk)
  ·obtain rfl:j=ll.length:=by omega
   rw[ev2,el2]
   exact World.ownsRow_nil _ _ _ _
 ·simp at hi hj
  by_cases hi':i<ll.length
  ·by_cases hj':j<ll.length
   ·rw[ev i hi']at hk;rw[ev j hj'];exact h.apart i j hi' hj' hij k hk
   ·obtain rfl:j=ll.length:=by omega
    rw[ev2];simp[Value.ownBlock]
  ·obtain rfl:i=ll.length:=by omega
   rw[ev2]at hk;simp[Value.ownBlock]at hk
 ·simp at hi
  by_cases hi':i<ll.length
  ·rw[ev i hi']at hk
   rcases hv k e1 with h2 | h2
   ·exact h.out i hi' k hk h2
   ·have:=((h.rows i hi').lt k hk).2
    omega
  ·obtain rfl:i=ll.length:=by omega
   rw[ev2]at hk;simp[Value.ownBlock]at hk
theorem OwnRows.keep {w':World} {g cap x N:Nat} (h:OwnRows e er base w (.slice (some ⟨g,0,none⟩) N cap) vs ll) (hN:N=ll.length) (hx:x<ll.length)
  (hg:∀S:Nat→Prop,(∀k,(nthV vs x).ownBlock=some k→¬S k)→Agree S w w'):w'.cell? ⟨g,x,none⟩=some (nthV vs x)∧w'.frozen? ⟨g,x,none⟩=false:=by
 subst hN
 have hl:=h.len
 have hrow:w'.ownsRow base e 1 (.slice (some ⟨g,0,none⟩) ll.length cap) ll.length vs:=
  zH (S:=fun b=>b=g) h.row (hg _ (fun k hk e1=>h.out x hx k hk (by rw[e1];rfl))) (fun k hk=>by simp[Value.ownBlock]at hk;exact hk.symm)
 exact ⟨by rw[hrow.cellAt x (by omega),Zo (by omega)],hrow.frozenAt x⟩
theorem OwnRows.cell {g cap x N:Nat} (h:OwnRows e er base w (.slice (some ⟨g,0,none⟩) N cap) vs ll) (hN:N=ll.length) (hx:x<ll.length):w.cell? ⟨g,x,none⟩=some (nthV vs x):=
 (h.keep hN hx (fun S _=>.refl _ _)).1
theorem OwnRows.form (h:OwnRows e er base w v vs ll):∃a cap,v=.slice a ll.length cap∧(0<ll.length→∃g,a=some ⟨g,0,none⟩):=by
 rcases h.row.2 with ⟨rfl,hn0⟩ | ⟨g,cap,cur,rfl,_⟩
 ·exact ⟨none,0,by rw[hn0],fun h=>by omega⟩
 ·exact ⟨_,cap,rfl,fun _=>⟨g,rfl⟩⟩
theorem OwnRows.app {w':World} {u':Value} {g cap x N:Nat} {y:Int} (h:OwnRows e er base w (.slice (some ⟨g,0,none⟩) N cap) vs ll) (hN:N=ll.length) (hx:x<ll.length)
  (hr:w'.ownsRow base er 1 u' ((nthL ll x).length+1) ((nthL ll x).map (Value.int .i64)++[.int .i64 y]))
  (hg:∀S:Nat→Prop,(∀k,(nthV vs x).ownBlock=some k→¬S k)→Agree S w w') (hv:∀k,u'.ownBlock=some k→(nthV vs x).ownBlock=some k∨w.heap.size≤k):
  OwnRows e er base (w'.setCell ⟨g,x,none⟩ u') (.slice (some ⟨g,0,none⟩) N cap) (vs.set x u') (ll.set x (nthL ll x++[y])):=by
 subst hN
 have hl:=h.len
 have hgl:g<w.heap.size:=(h.row.lt g rfl).2
 have ev:∀j,j≠x→nthV (vs.set x u') j=nthV vs j:=fun j hj=>by simp[nthV,List.getElem?_set_ne (fun e:x=j=>hj e.symm)]
 have ev2:nthV (vs.set x u') x=u':=by simp[nthV,show x<vs.length by omega]
 have el:∀j,j≠x→nthL (ll.set x (nthL ll x++[y])) j=nthL ll j:=fun j hj=>by simp[nthL,List.getElem?_set_ne (fun e:x=j=>hj e.symm)]
 have el2:nthL (ll.set x (nthL ll x++[y])) x=nthL ll x++[y]:=by simp[nthL,hx]
 have hne:∀k,u'.ownBlock=some k→k≠g:=by
  intro k hk e1
  subst e1
  rcases hv k hk with h2 | h2
  ·exact h.out x hx k h2 rfl
  ·omega
 have hrow:w'.ownsRow base e 1 (.slice (some ⟨g,0,none⟩) ll.length cap) ll.length vs:=
  zH (S:=fun b=>b=g) h.row (hg _ (fun k hk e1=>h.out x hx k hk (by rw[e1];rfl))) (fun k hk=>by simp[Value.ownBlock]at hk;exact hk.symm)
 have hst:=hrow.stored x u'
 have keep:∀{t:TypeId} {q:Value} {n:Nat} {zs:List Value},w'.ownsRow base t 1 q n zs→(∀k,q.ownBlock=some k→k≠g)→(w'.setCell ⟨g,x,none⟩ u').ownsRow base t 1 q n zs:=fun ho hk=>
  zH (S:=fun b=>b≠g) ho (.of_grown hst.2 (fun b hb e1=>hb (by cases e1;rfl))) (fun k hk'=>hk k hk')
 refine ⟨by simpa using hst.1,fun j hj=>?_,fun i j hi hj hij k hk=>?_,fun i hi k hk=>?_⟩
 ·simp at hj
  by_cases hjx:j=x
  ·subst hjx
   rw[ev2,el2]
   refine keep ?_ hne
   simpa using hr
  ·rw[ev j hjx,el j hjx]
   refine keep (zH (S:=fun b=>(nthV vs x).ownBlock≠some b) (h.rows j hj) (hg _ (fun k hk=>by simp[hk])) (fun k hk=>h.apart j x hj hx hjx k hk)) (fun k hk e1=>?_)
   subst e1
   exact h.out j hj k hk rfl
 ·simp at hi hj
  by_cases hix:i=x
  ·subst hix
   have hjx:j≠i:=fun e=>hij e.symm
   rw[ev2]at hk
   rw[ev j hjx]
   rcases hv k hk with h2 | h2
   ·exact h.apart i j hi hj hij k h2
   ·intro e1
    have:=((h.rows j hj).lt k e1).2
    omega
  ·rw[ev i hix]at hk
   by_cases hjx:j=x
   ·subst hjx
    rw[ev2]
    intro e1
    rcases hv k e1 with h2 | h2
    ·exact h.apart i j hi hj hij k hk h2
    ·have:=((h.rows i hi).lt k hk).2
     omega
   ·rw[ev j hjx]
    exact h.apart i j hi hj hij k hk
 ·simp at hi
  by_cases hix:i=x
  ·subst hix
   rw[ev2]at hk
   intro e1
   simp[Value.ownBlock]at e1
   exact hne k hk e1.symm
  ·rw[ev i hix]at hk
   exact h.out i hi k hk
end
structure OwnList (e:TypeId) (base:Nat) (w:World) (v:Value) (vs:List Value) (ll:List (List Int)):Prop where
 row:w.ownsRow base e 1 v ll.length vs
 rows:∀j,j<ll.length→Ints (fun b=>base≤b∧v.ownBlock≠some b) w (nthV vs j) (nthL ll j)
section
variable {e:TypeId} {base:Nat} {w:World} {v:Value} {vs:List Value} {ll:List (List Int)}
theorem OwnList.nil (e:TypeId) (base:Nat) (w:World):OwnList e base w (.slice none 0 0) [] []:=⟨World.ownsRow_nil _ _ _ _,fun j hj=>by simp at hj⟩
theorem OwnList.len (h:OwnList e base w v vs ll):vs.length=ll.length:=by have:=h.row.1;simpa using this
theorem OwnList.ext {w':World} (h:OwnList e base w v vs ll) (hw:Below w.heap.size w w'):OwnList e base w' v vs ll:=
 ⟨ye h.row hw,fun j hj=>(h.rows j hj).ext hw⟩
theorem OwnList.lists (h:OwnList e base w v vs ll):Lists (fun b=>base≤b) w v ll:=by
 have hl:=h.len
 rcases h.row.2 with ⟨rfl,hn0⟩ | ⟨g,cap,cur,rfl,hb,hg,hnc,hcm,_⟩
 ·have:ll=[]:=by simpa using hn0
  subst this
  exact Lists.nil _ _
 ·refine ⟨_,cap,rfl,.inr ⟨g,0,rfl,(Array.getElem?_eq_some_iff.1 hg).1,hb⟩,hnc,hcm,fun j hj=>⟨nthV vs j,?_,?_⟩⟩
  ·rw[zS,Nat.zero_add,h.row.cellAt j (by omega),Zo (by omega)]
  ·exact (h.rows j hj).mono fun b hb=>hb.1
theorem Ints.block {S:Nat→Prop} {w:World} {v:Value} {l:List Int} (h:Ints S w v l) (k:Nat):Ints (fun b=>S b∧b<w.heap.size) w v l:=by
 obtain ⟨a,cap,rfl,ha,r⟩:=h
 refine ⟨a,cap,rfl,?_,r⟩
 rcases ha with h | ⟨b,off,rfl,hb,hs⟩
 ·exact .inl h
 ·exact .inr ⟨b,off,rfl,hb,hs,hb⟩
theorem OwnList.push {w':World} {v' u:Value} {l:List Int} (h:OwnList e base w v vs ll) (hr:w'.ownsRow base e 1 v' (ll.length+1) (vs++[u]))
  (hg:∀S:Nat→Prop,(∀k,v.ownBlock=some k→¬S k)→Agree S w w') (hv:∀k,v'.ownBlock=some k→v.ownBlock=some k∨w.heap.size≤k)
  (hu:Ints (fun b=>base≤b∧v.ownBlock≠some b) w u l):OwnList e base w' v' (vs++[u]) (ll++[l]):=by
 have hl:=h.len
 have move:∀{q:Value} {m:List Int},Ints (fun b=>base≤b∧v.ownBlock≠some b) w q m→Ints (fun b=>base≤b∧v'.ownBlock≠some b) w' q m:=by
  intro q m hq
  refine ((hq.block 0).agree (hg _ (fun k hk hh=>hh.1.2 hk))).mono ?_
  intro b hb
  refine ⟨hb.1.1,fun e1=>?_⟩
  rcases hv b e1 with h2 | h2
  ·exact hb.1.2 h2
  ·have:=hb.2;omega
 refine ⟨by simpa using hr,fun j hj=>?_⟩
 simp at hj
 by_cases hj':j<ll.length
 ·have ev:nthV (vs++[u]) j=nthV vs j:=by simp[nthV,List.getElem?_append_left (show j<vs.length by omega)]
  have el:nthL (ll++[l]) j=nthL ll j:=by simp[nthL,List.getElem?_append_left hj']
  rw[ev,el]
  exact move (h.rows j hj')
 ·obtain rfl:j=ll.length:=by omega
  have ev:nthV (vs++[u]) ll.length=u:=by simp[nthV,←hl]
  have el:nthL (ll++[l]) ll.length=l:=by simp[nthL]
  rw[ev,el]
  exact move hu
end
def AllInts (w:World):List Value→List (List Int)→Prop
 | [],[]=>True
 | v::vs,l::ll=>Ints (fun _=>True) w v l∧AllInts w vs ll
 | _,_=>False
theorem AllInts.len {w:World}:∀{vs:List Value} {ll:List (List Int)},AllInts w vs ll→vs.length=ll.length
 | [],[],_=>rfl
 | v::vs,l::ll,h=>by simp[AllInts.len h.2]
 | [],_::_,h=>h.elim
 | _::_,[],h=>h.elim
theorem AllInts.get {w:World}:∀{vs:List Value} {ll:List (List Int)},AllInts w vs ll→∀j,j<ll.length→Ints (fun _=>True) w (nthV vs j) (nthL ll j)
 | [],[],_,j,hj=>by simp at hj
 | v::vs,l::ll,h,0,_=>h.1
 | v::vs,l::ll,h,j+1,hj=>AllInts.get h.2 j (by simpa using hj)
 | [],_::_,h,_,_=>h.elim
 | _::_,[],h,_,_=>h.elim
end Go.Proofs.YtfjlhjkjjbiliaaGreat
