/- Part of the proof that the laws answer true for every input. -/
import Derived.Test.YtaijafjfafbcfaaGreatPXb00
set_option linter.unusedSimpArgs false
set_option linter.unnecessarySimpa false
set_option linter.unusedVariables false
set_option maxRecDepth 100000
set_option maxHeartbeats 40000000
namespace Go.Proofs.YtaijafjfafbcfaaGreat
open Go.RowKit
def nthL (ll:List (List Int)) (k:Nat):List Int:=ll.getD k []
def nthV (vs:List Value) (k:Nat):Value:=vs.getD k undef
theorem nthL_eq {l:List (List Int)} {k:Nat} (h:k<l.length):nthL l k=l[k]:=by simp[nthL,h]
theorem nthL_mem {l:List (List Int)} {k:Nat} (h:k<l.length):nthL l k∈l:=by rw[nthL_eq h];exact List.getElem_mem h
theorem take_nthL {l:List (List Int)} {k:Nat} (h:k<l.length):l.take (k+1)=l.take k++[nthL l k]:=by rw[nthL_eq h];exact (List.take_append_getElem h).symm
theorem nthV_get {l:List Value} {k:Nat} (h:k<l.length):l[k]? =some (nthV l k):=by simp[nthV,h]
def Lists (S:Nat→Prop) (w:World) (v:Value) (ll:List (List Int)):Prop:=
 ∃a cap,v=.slice a ll.length cap∧Ad S w a ll.length cap∧ll.length≤cap∧cap≤maxLen∧
  ∀j,j<ll.length→∃u,w.cell? (adr a j)=some u∧Ints S w u (nthL ll j)
theorem Lists.agree {S:Nat→Prop} {w w':World} {v:Value} {l:List (List Int)} (h:Lists S w v l) (hw:Agree S w w'):Lists S w' v l:=by
 obtain ⟨a,cap,rfl,ha,h1,h2,hc⟩:=h
 refine ⟨a,cap,rfl,ha.agree hw,h1,h2,fun j hj=>?_⟩
 obtain ⟨u,hu,hi⟩:=hc j hj
 exact ⟨u,(ha.cell hw hj).trans hu,hi.agree hw⟩
theorem Lists.mono {S S':Nat→Prop} {w:World} {v:Value} {l:List (List Int)} (h:Lists S w v l) (hS:∀b,S b→S' b):Lists S' w v l:=by
 obtain ⟨a,cap,rfl,ha,h1,h2,hc⟩:=h
 refine ⟨a,cap,rfl,ha.mono hS,h1,h2,fun j hj=>?_⟩
 obtain ⟨u,hu,hi⟩:=hc j hj
 exact ⟨u,hu,hi.mono hS⟩
theorem Lists.ext {S:Nat→Prop} {w w':World} {v:Value} {l:List (List Int)} (h:Lists S w v l) (hw:Below w.heap.size w w'):Lists S w' v l:=h.agree (.of_ext hw)
theorem Lists.nil (S:Nat→Prop) (w:World):Lists S w (.slice none 0 0) []:=
 ⟨none,0,rfl,.inl ⟨rfl,rfl⟩,Nat.le_refl _,by simp[maxLen],fun j hj=>by simp at hj⟩
structure OwnRows (e er:TypeId) (base:Nat) (w:World) (v:Value) (vs:List Value) (ll:List (List Int)):Prop where
 row:w.ownsRow base e 1 v ll.length vs
 rows:∀j,j<ll.length→w.ownsRow base er 1 (nthV vs j) (nthL ll j).length ((nthL ll j).map (Value.int .i64))
 apart:∀i j,i<ll.length→j<ll.length→i≠j→∀k,(nthV vs i).ownBlock=some k→(nthV vs j).ownBlock≠some k
 out:∀i,i<ll.length→∀k,(nthV vs i).ownBlock=some k→v.ownBlock≠some k
section
variable {e er:TypeId} {base:Nat} {w:World} {v:Value} {vs:List Value} {ll:List (List Int)}
theorem OwnRows.nil (e er:TypeId) (base:Nat) (w:World):OwnRows e er base w (.slice none 0 0) [] []:=
 ⟨World.ownsRow_nil _ _ _ _,fun j hj=>by simp at hj,fun i j hi=>by simp at hi,fun i hi=>by simp at hi⟩
theorem OwnRows.len (h:OwnRows e er base w v vs ll):vs.length=ll.length:=by have:=h.row.1;simpa using this
theorem OwnRows.ext {w':World} (h:OwnRows e er base w v vs ll) (hw:Below w.heap.size w w'):OwnRows e er base w' v vs ll:=
 ⟨owns_ext h.row hw,fun j hj=>owns_ext (h.rows j hj) hw,h.apart,h.out⟩
theorem OwnRows.lists (h:OwnRows e er base w v vs ll) (hf:∀l∈ll,∀x∈l,WF x):Lists (fun b=>base≤b) w v ll:=by
 have hl:=h.len
 rcases h.row.2 with ⟨rfl,hn0⟩ | ⟨g,cap,cur,rfl,hb,hg,hnc,hcm,_⟩
 ·have:ll=[]:=by simpa using hn0
  subst this
  exact Lists.nil _ _
 ·refine ⟨_,cap,rfl,.inr ⟨g,0,rfl,(Array.getElem?_eq_some_iff.1 hg).1,hb⟩,hnc,hcm,fun j hj=>⟨nthV vs j,?_,?_⟩⟩
  ·rw[adr_add,Nat.zero_add,h.row.cellAt j (by omega),nthV_get (by omega)]
  ·exact Ints.of_own (h.rows j hj) (hf _ (nthL_mem hj))
theorem OwnRows.push {w':World} {v':Value} (h:OwnRows e er base w v vs ll) (hr:w'.ownsRow base e 1 v' (ll.length+1) (vs++[.slice none 0 0]))
  (hg:∀S:Nat→Prop,(∀k,v.ownBlock=some k→¬S k)→Agree S w w') (hv:∀k,v'.ownBlock=some k→v.ownBlock=some k∨w.heap.size≤k):
  OwnRows e er base w' v' (vs++[.slice none 0 0]) (ll++[[]]):=by
 have hl:=h.len
 have ev:∀j,j<ll.length→nthV (vs++[.slice none 0 0]) j=nthV vs j:=fun j hj=>by simp[nthV,List.getElem?_append_left (show j<vs.length by omega)]
 have ev2:nthV (vs++[.slice none 0 0]) ll.length=.slice none 0 0:=by simp[nthV,←hl]
 have el:∀j,j<ll.length→nthL (ll++[[]]) j=nthL ll j:=fun j hj=>by simp[nthL,List.getElem?_append_left hj]
 have el2:nthL (ll++[[]]) ll.length=[]:=by simp[nthL]
 refine ⟨by simpa using hr,fun j hj=>?_,fun i j hi hj hij k hk=>?_,fun i hi k hk e1=>?_⟩
 ·simp at hj
  by_cases hj':j<ll.length
  ·rw[ev j hj',el j hj']
   exact owns_agree (S:=fun b=>v.ownBlock≠some b) (h.rows j hj') (hg _ (fun k hk=>by simp[hk])) (fun k hk=>h.out j hj' k hk)
  ·obtain rfl:j=ll.length:=by omega
   rw[ev2,el2]
   exact World.ownsRow_nil _ _ _ _
 ·simp at hi hj
  by_cases hi':i<ll.length
  ·by_cases hj':j<ll.length
   ·rw[ev i hi']at hk;rw[ev j hj'];exact h.apart i j hi' hj' hij k hk
   ·obtain rfl:j=ll.length:=by omega
    rw[ev2];simp[Value.ownBlock]
  ·obtain rfl:i=ll.length:=by omega
   rw[ev2]at hk;simp[Value.ownBlock]at hk
 ·simp at hi
  by_cases hi':i<ll.length
  ·rw[ev i hi']at hk
   rcases hv k e1 with h2 | h2
   ·exact h.out i hi' k hk h2
   ·have:=((h.rows i hi').lt k hk).2
    omega
  ·obtain rfl:i=ll.length:=by omega
   rw[ev2]at hk;simp[Value.ownBlock]at hk
theorem OwnRows.keep {w':World} {g cap x N:Nat} (h:OwnRows e er base w (.slice (some ⟨g,0,none⟩) N cap) vs ll) (hN:N=ll.length) (hx:x<ll.length)
  (hg:∀S:Nat→Prop,(∀k,(nthV vs x).ownBlock=some k→¬S k)→Agree S w w'):w'.cell? ⟨g,x,none⟩=some (nthV vs x)∧w'.frozen? ⟨g,x,none⟩=false:=by
 subst hN
 have hl:=h.len
 have hrow:w'.ownsRow base e 1 (.slice (some ⟨g,0,none⟩) ll.length cap) ll.length vs:=
  owns_agree (S:=fun b=>b=g) h.row (hg _ (fun k hk e1=>h.out x hx k hk (by rw[e1];rfl))) (fun k hk=>by simp[Value.ownBlock]at hk;exact hk.symm)
 exact ⟨by rw[hrow.cellAt x (by omega),nthV_get (by omega)],hrow.frozenAt x⟩
theorem OwnRows.cell {g cap x N:Nat} (h:OwnRows e er base w (.slice (some ⟨g,0,none⟩) N cap) vs ll) (hN:N=ll.length) (hx:x<ll.length):w.cell? ⟨g,x,none⟩=some (nthV vs x):=
 (h.keep hN hx (fun S _=>.refl _ _)).1
theorem OwnRows.form (h:OwnRows e er base w v vs ll):∃a cap,v=.slice a ll.length cap∧(0<ll.length→∃g,a=some ⟨g,0,none⟩):=by
 rcases h.row.2 with ⟨rfl,hn0⟩ | ⟨g,cap,cur,rfl,_⟩
 ·exact ⟨none,0,by rw[hn0],fun h=>by omega⟩
 ·exact ⟨_,cap,rfl,fun _=>⟨g,rfl⟩⟩
end
structure OwnList (e:TypeId) (base:Nat) (w:World) (v:Value) (vs:List Value) (ll:List (List Int)):Prop where
 row:w.ownsRow base e 1 v ll.length vs
 rows:∀j,j<ll.length→Ints (fun b=>base≤b∧v.ownBlock≠some b) w (nthV vs j) (nthL ll j)
section
variable {e:TypeId} {base:Nat} {w:World} {v:Value} {vs:List Value} {ll:List (List Int)}
theorem OwnList.nil (e:TypeId) (base:Nat) (w:World):OwnList e base w (.slice none 0 0) [] []:=⟨World.ownsRow_nil _ _ _ _,fun j hj=>by simp at hj⟩
theorem OwnList.len (h:OwnList e base w v vs ll):vs.length=ll.length:=by have:=h.row.1;simpa using this
theorem OwnList.ext {w':World} (h:OwnList e base w v vs ll) (hw:Below w.heap.size w w'):OwnList e base w' v vs ll:=
 ⟨owns_ext h.row hw,fun j hj=>(h.rows j hj).ext hw⟩
theorem OwnList.lists (h:OwnList e base w v vs ll):Lists (fun b=>base≤b) w v ll:=by
 have hl:=h.len
 rcases h.row.2 with ⟨rfl,hn0⟩ | ⟨g,cap,cur,rfl,hb,hg,hnc,hcm,_⟩
 ·have:ll=[]:=by simpa using hn0
  subst this
  exact Lists.nil _ _
 ·refine ⟨_,cap,rfl,.inr ⟨g,0,rfl,(Array.getElem?_eq_some_iff.1 hg).1,hb⟩,hnc,hcm,fun j hj=>⟨nthV vs j,?_,?_⟩⟩
  ·rw[adr_add,Nat.zero_add,h.row.cellAt j (by omega),nthV_get (by omega)]
  ·exact (h.rows j hj).mono fun b hb=>hb.1
theorem Ints.block {S:Nat→Prop} {w:World} {v:Value} {l:List Int} (h:Ints S w v l) (k:Nat):Ints (fun b=>S b∧b<w.heap.size) w v l:=by
 obtain ⟨a,cap,rfl,ha,r⟩:=h
 refine ⟨a,cap,rfl,?_,r⟩
 rcases ha with h | ⟨b,off,rfl,hb,hs⟩
 ·exact .inl h
 ·exact .inr ⟨b,off,rfl,hb,hs,hb⟩
theorem OwnList.push {w':World} {v' u:Value} {l:List Int} (h:OwnList e base w v vs ll) (hr:w'.ownsRow base e 1 v' (ll.length+1) (vs++[u]))
  (hg:∀S:Nat→Prop,(∀k,v.ownBlock=some k→¬S k)→Agree S w w') (hv:∀k,v'.ownBlock=some k→v.ownBlock=some k∨w.heap.size≤k)
  (hu:Ints (fun b=>base≤b∧v.ownBlock≠some b) w u l):OwnList e base w' v' (vs++[u]) (ll++[l]):=by
 have hl:=h.len
 have move:∀{q:Value} {m:List Int},Ints (fun b=>base≤b∧v.ownBlock≠some b) w q m→Ints (fun b=>base≤b∧v'.ownBlock≠some b) w' q m:=by
  intro q m hq
  refine ((hq.block 0).agree (hg _ (fun k hk hh=>hh.1.2 hk))).mono ?_
  intro b hb
  refine ⟨hb.1.1,fun e1=>?_⟩
  rcases hv b e1 with h2 | h2
  ·exact hb.1.2 h2
  ·have:=hb.2;omega
 refine ⟨by simpa using hr,fun j hj=>?_⟩
 simp at hj
 by_cases hj':j<ll.length
 ·have ev:nthV (vs++[u]) j=nthV vs j:=by simp[nthV,List.getElem?_append_left (show j<vs.length by omega)]
  have el:nthL (ll++[l]) j=nthL ll j:=by simp[nthL,List.getElem?_append_left hj']
  rw[ev,el]
  exact move (h.rows j hj')
 ·obtain rfl:j=ll.length:=by omega
  have ev:nthV (vs++[u]) ll.length=u:=by simp[nthV,←hl]
  have el:nthL (ll++[l]) ll.length=l:=by simp[nthL]
  rw[ev,el]
  exact move hu
end
def AllInts (w:World):List Value→List (List Int)→Prop
 | [],[]=>True
 | v::vs,l::ll=>Ints (fun _=>True) w v l∧AllInts w vs ll
 | _,_=>False
theorem AllInts.len {w:World}:∀{vs:List Value} {ll:List (List Int)},AllInts w vs ll→vs.length=ll.length
 | [],[],_=>rfl
 | v::vs,l::ll,h=>by simp[AllInts.len h.2]
 | [],_::_,h=>h.elim
 | _::_,[],h=>h.elim
theorem AllInts.get {w:World}:∀{vs:List Value} {ll:List (List Int)},AllInts w vs ll→∀j,j<ll.length→Ints (fun _=>True) w (nthV vs j) (nthL ll j)
 | [],[],_,j,hj=>by simp at hj
 | v::vs,l::ll,h,0,_=>h.1
 | v::vs,l::ll,h,j+1,hj=>AllInts.get h.2 j (by simpa using hj)
 | [],_::_,h,_,_=>h.elim
 | _::_,[],h,_,_=>h.elim
end Go.Proofs.YtaijafjfafbcfaaGreat
namespace Go.Proofs.YtaijafjfafbcfaaGreat
def firstE (f:Nat→Int):Nat→Int
 | 0=>0
 | n+1=>if firstE f n=0 then f n else firstE f n
theorem firstE_zero {f:Nat→Int}:∀{n:Nat},(∀k,k<n→f k=0)→firstE f n=0
 | 0,_=>rfl
 | n+1,h=>by
  unfold firstE
  rw[if_pos (firstE_zero fun k hk=>h k (by omega))]
  exact h n (by omega)
theorem firstE_at {f:Nat→Int} {k:Nat} (h:∀j,j<k→f j=0) (hk:f k≠0):∀{n:Nat},k<n→firstE f n=f k
 | 0,h0=>by omega
 | n+1,h0=>by
  unfold firstE
  by_cases e:k=n
  ·subst e;rw[if_pos (firstE_zero h)]
  ·have:=firstE_at h hk (n:=n) (by omega)
   rw[this,if_neg hk]
theorem firstE_iff {f:Nat→Int} {n:Nat}:firstE f n=0↔∀k,k<n→f k=0:=by
 constructor
 ·induction n with
  | zero=>intro _ k hk;omega
  | succ n ih=>
   intro h k hk
   unfold firstE at h
   split at h
   ·rename_i h0
    by_cases e:k=n
    ·subst e;exact h
    ·exact ih h0 k (by omega)
   ·rename_i h0;exact absurd h h0
 ·exact firstE_zero
def Zeros (f:Nat→Int) (k:Nat):Prop:=∀j,j<k→f j=0
theorem Zeros.zero (f:Nat→Int):Zeros f 0:=fun j hj=>by omega
theorem Zeros.next {f:Nat→Int} {k:Nat} (h:Zeros f k) (h0:f k=0):Zeros f (k+1):=fun j hj=>by
 by_cases e:j=k
 ·subst e;exact h0
 ·exact h j (by omega)
theorem Zeros.done {f:Nat→Int} {k n:Nat} (h:Zeros f k) (hk:n≤k):firstE f n=0:=firstE_zero fun j hj=>h j (by omega)
theorem Zeros.stop {f:Nat→Int} {k n:Nat} {x:Int} (h:Zeros f k) (hx:f k=x) (h0:x≠0) (hk:k<n):firstE f n=x:=by
 rw[firstE_at h (by rw[hx];exact h0) hk,hx]
def allN (f:Nat→Bool):Nat→Bool
 | 0=>true
 | n+1=>allN f n&&f n
theorem allN_iff {f:Nat→Bool}:∀{n:Nat},allN f n=true↔∀k,k<n→f k=true
 | 0=>⟨fun _ k hk=>by omega,fun _=>rfl⟩
 | n+1=>by
  unfold allN
  rw[Bool.and_eq_true,allN_iff]
  constructor
  ·rintro ⟨h,h1⟩ k hk
   by_cases e:k=n
   ·subst e;exact h1
   ·exact h k (by omega)
  ·intro h;exact ⟨fun k hk=>h k (by omega),h n (by omega)⟩
def Alls (f:Nat→Bool) (k:Nat):Prop:=∀j,j<k→f j=true
theorem Alls.zero (f:Nat→Bool):Alls f 0:=fun j hj=>by omega
theorem Alls.next {f:Nat→Bool} {k:Nat} (h:Alls f k) (h0:f k=true):Alls f (k+1):=fun j hj=>by
 by_cases e:j=k
 ·subst e;exact h0
 ·exact h j (by omega)
theorem Alls.done {f:Nat→Bool} {k n:Nat} (h:Alls f k) (hk:n≤k):allN f n=true:=allN_iff.2 fun j hj=>h j (by omega)
theorem allN_no {f:Nat→Bool} {k n:Nat} (h:f k=false) (hk:k<n):allN f n=false:=by
 cases e:allN f n with
 | false=>rfl
 | true=>rw[allN_iff.1 e k hk]at h;cases h
def cmpI (a b:Int):Int:=if a<b then -1 else if b<a then 1 else 0
def lexN (a b:List Int) (n:Nat):Int:=firstE (fun i=>cmpI (nth a i) (nth b i)) n
def ordL (a b:List Int):Int:=if lexN a b (min a.length b.length)=0 then cmpI (a.length:Int) (b.length:Int) else lexN a b (min a.length b.length)
theorem cmpI_zero {a b:Int}:cmpI a b=0↔a=b:=by unfold cmpI;constructor<;>intro h<;>(try subst h)<;>(try split at h)<;>(try split at h)<;>(try omega)<;>simp_all
theorem lexN_zero {a b:List Int} {n:Nat}:lexN a b n=0↔∀i,i<n→nth a i=nth b i:=by
 unfold lexN;rw[firstE_iff]
 exact ⟨fun h i hi=>cmpI_zero.1 (h i hi),fun h i hi=>cmpI_zero.2 (h i hi)⟩
theorem nth_ext {a b:List Int} (hl:a.length=b.length) (h:∀i,i<a.length→nth a i=nth b i):a=b:=by
 apply List.ext_getElem hl
 intro i h1 h2
 have:=h i h1
 rwa [nth_eq h1,nth_eq h2]at this
theorem ordL_zero {a b:List Int}:ordL a b=0↔a=b:=by
 unfold ordL
 constructor
 ·intro h
  split at h
  ·rename_i h0
   have hl:a.length=b.length:=by have:=cmpI_zero.1 h;omega
   exact nth_ext hl fun i hi=>lexN_zero.1 h0 i (by omega)
  ·rename_i h0;exact absurd h h0
 ·intro h;subst h
  have:lexN a a (min a.length a.length)=0:=lexN_zero.2 fun _ _=>rfl
  rw[if_pos this];exact cmpI_zero.2 rfl
def gAt (n:Int) (p:Nat) (x:Int):Int:=if n≤(p:Int) then (if x=0 then 0 else 3) else if x<0∨((2 ^ n.toNat:Nat):Int) - 1<x then 2 else if x.toNat.testBit p then 0 else 3
def checkG (l:List Int):Int:=if nth l 0<1∨5<nth l 0 then 2 else firstE (fun p=>gAt (nth l 0) p (nth l (p+1))) 5
def checkP (n s:Int):Int:=if n<1∨5<n then 1 else if s<0∨((2 ^ n.toNat:Nat):Int)≤s then 2 else 0
def checkR (l:List Int):Int:=if checkG l=0 then checkP (nth l 0) (nth l 6) else checkG l
abbrev CaseD:=List Int×List (List Int)×List (List Int)
def CaseD.inn (c:CaseD):List Int:=c.1
def CaseD.out (c:CaseD):List (List Int):=c.2.1
def CaseD.calm (c:CaseD):List (List Int):=c.2.2
def nthC (l:List CaseD) (k:Nat):CaseD:=l.getD k ([],[],[])
def vecE (v:List Int) (n most:Int):Int:=if (v.length:Int)=n then (if v.any (fun x=>decide (x<0)||decide (most≤x)) then 2 else 0) else 15
def unord (l:List (List Int)) (k:Nat):Bool:=decide (0<k)&&decide (0≤ordL (nthL l (k - 1)) (nthL l k))
def outE (n outs:Int) (l:List (List Int)) (k:Nat):Int:=if vecE (nthL l k) n outs=0 then (if unord l k then 14 else 0) else vecE (nthL l k) n outs
def calmE (o l:List (List Int)) (k:Nat):Int:=if decide (nthL l k∈o) then (if unord l k then 14 else 0) else 6
def vecsE (n outs:Int) (c:CaseD):Int:=
 if c.out.length<1∨1024<c.out.length then 5 else
  if firstE (outE n outs c.out) c.out.length=0 then firstE (calmE c.out c.calm) c.calm.length else firstE (outE n outs c.out) c.out.length
def caseE (n ins outs:Int) (l:List CaseD) (k:Nat):Int:=
 if vecE (nthC l k).inn n ins=0 then
  (if decide (0<k)&&decide (0≤ordL (nthC l (k - 1)).inn (nthC l k).inn) then 14 else vecsE n outs (nthC l k))
 else vecE (nthC l k).inn n ins
def checkT (n ins outs:Int) (l:List CaseD):Int:=
 if n<1∨5<n∨ins<1∨8<ins∨outs<1∨8<outs then 2 else if l.length<1∨1024<l.length then 5 else firstE (caseE n ins outs l) l.length
abbrev Moves:=List (List (List Int))
def nthM (st:Moves) (s:Nat):List (List Int):=st.getD s []
def moveE (n:Int) (ns:Nat) (l:List (List Int)) (i:Nat):Int:=
 if checkR (nthL l i)=0 then
  (if nth (nthL l i) 0≠n then 22 else if decide (0<i)&&decide (0≤lexN (nthL l (i - 1)) (nthL l i) 7) then 14 else if nth (nthL l i) 7<0∨(ns:Int)≤nth (nthL l i) 7 then 2 else 0)
 else checkR (nthL l i)
def stateE (n:Int) (st:Moves) (s:Nat):Int:=if (nthM st s).length=0 then 19 else firstE (moveE n st.length (nthM st s)) (nthM st s).length
def movesN (st:Moves):Nat:=st.foldl (fun n l=>n+l.length) 0
def inB (a b:Nat):Bool:=allN (fun p=> !a.testBit p||b.testBit p) 5
def growsB (st:Moves):Bool:=allN (fun s=>allN (fun i=>allN (fun k=>inB (nth (nthL (nthM st s) i) 6).toNat (nth (nthL (nthM st (nth (nthL (nthM st s) i) 7).toNat) k) 6).toNat) (nthM st (nth (nthL (nthM st s) i) 7).toNat).length) (nthM st s).length) st.length
def checkA (n:Int) (st:Moves):Int:=
 if n<1∨5<n then 2 else if st.length<1∨256<st.length∨4096<movesN st then 5 else
  if firstE (stateE n st) st.length=0 then (if growsB st then 0 else 21) else firstE (stateE n st) st.length
end Go.Proofs.YtaijafjfafbcfaaGreat
namespace Go.Proofs.YtaijafjfafbcfaaGreat
structure ProbD where
 n:Int
 ins:Int
 outs:Int
 cs:List CaseD
 an:Int
 st:Moves
 rounds:Int
def checkPr (p:ProbD):Int:=
 if checkT p.n p.ins p.outs p.cs=0 then
  (if checkA p.an p.st=0 then (if p.n=p.an then (if p.rounds<0∨6<p.rounds then 2 else 0) else 22) else checkA p.an p.st)
 else checkT p.n p.ins p.outs p.cs
def wordsD (st:Moves):Nat→Nat→List (List (List Int))
 | 0,_=>[[]]
 | k+1,s=>(nthM st s).flatMap fun m=>(wordsD st k (nth m 7).toNat).map fun w=>m.take 7::w
def cntW (st:Moves):Nat→Nat→Nat
 | 0,_=>1
 | k+1,s=>((nthM st s).map fun m=>cntW st k (nth m 7).toNat).sum
theorem length_wordsD (st:Moves):∀k s,(wordsD st k s).length=cntW st k s
 | 0,_=>rfl
 | k+1,s=>by
  unfold wordsD cntW
  rw[List.length_flatMap]
  congr 1
  apply List.map_congr_left
  intro m _
  rw[List.length_map,length_wordsD st k]
theorem words_len (st:Moves):∀k s,∀w∈wordsD st k s,w.length=k
 | 0,s,w,h=>by rw[List.mem_singleton.1 h];rfl
 | k+1,s,w,h=>by
  unfold wordsD at h
  obtain ⟨m,hm,h⟩:=List.mem_flatMap.1 h
  obtain ⟨v,hv,rfl⟩:=List.mem_map.1 h
  rw[List.length_cons,words_len st k _ v hv]
def idxV (t:List (List Int)) (v:List Int):Nat:=t.idxOf v
def addV (t:List (List Int)) (v:List Int):List (List Int):=if v∈t then t else t++[v]
theorem idxV_le (t:List (List Int)) (v:List Int):idxV t v≤t.length:=List.idxOf_le_length
theorem idxV_in {t:List (List Int)} {v:List Int}:idxV t v<t.length↔v∈t:=List.idxOf_lt_length_iff
theorem idxV_not {t:List (List Int)} {v:List Int} (h:v∉t):idxV t v=t.length:=by
 have h1:=idxV_le t v
 have h2:¬idxV t v<t.length:=fun h3=>h (idxV_in.1 h3)
 omega
theorem idxV_lt (t:List (List Int)) (v:List Int):idxV t v<(addV t v).length:=by
 unfold addV
 split
 ·rename_i h;exact idxV_in.2 h
 ·rename_i h;rw[idxV_not h];simp
theorem nthL_idxV {t:List (List Int)} {v:List Int} (h:v∈t):nthL t (idxV t v)=v:=by
 rw[nthL_eq (idxV_in.2 h)];exact List.getElem_idxOf (idxV_in.2 h)
theorem addV_get (t:List (List Int)) (v:List Int):nthL (addV t v) (idxV t v)=v:=by
 unfold addV
 split
 ·rename_i h;exact nthL_idxV h
 ·rename_i h;rw[idxV_not h];simp[nthL]
theorem addV_prefix (t:List (List Int)) (v:List Int):t<+:addV t v:=by
 unfold addV
 split
 ·exact List.prefix_rfl
 ·exact List.prefix_append _ _
theorem addV_nodup {t:List (List Int)} {v:List Int} (h:t.Nodup):(addV t v).Nodup:=by
 unfold addV
 split
 ·exact h
 ·rename_i hv
  rw[List.nodup_append]
  exact ⟨h,by simp,fun a ha b hb e=>hv (by rw[List.mem_singleton.1 hb]at e;exact e▸ha)⟩
theorem addV_len (t:List (List Int)) (v:List Int):(addV t v).length≤t.length+1:=by
 unfold addV;split<;>simp
theorem idxV_first {t:List (List Int)} {v:List Int} {k:Nat} (hk:k<t.length) (he:nthL t k=v) (h:∀j,j<k→nthL t j≠v):idxV t v=k:=by
 have hm:v∈t:=he▸nthL_mem hk
 have h1:=nthL_idxV hm
 have h2:=idxV_in.2 hm
 rcases Nat.lt_trichotomy (idxV t v) k with h3 | h3 | h3
 ·exact absurd h1 (h _ h3)
 ·exact h3
 ·exfalso
  have:¬(t.idxOf v>k):=by
   have:=List.not_of_lt_findIdx (p:=fun x=>x==v) (xs:=t) (i:=k)
   intro hgt
   have h5:=this (by simpa[List.idxOf] using hgt)
   rw[nthL_eq hk]at he
   simp[he]at h5
  exact this h3
theorem idxV_none {t:List (List Int)} {v:List Int} (h:∀j,j<t.length→nthL t j≠v):v∉t:=fun hm=>h _ (idxV_in.2 hm) (nthL_idxV hm)
def firstV (q:Nat) (x:Int):List Int:=[q,0,x, -1, -1, -1, -1, -1]
def heardV (g:List Int) (n:Nat) (q:Nat) (prev:List Int) (r:Nat):Int:=if r<n∧(nth g (q+1)).toNat.testBit r=true then nth prev r else -1
def seenV (g:List Int) (n k q:Nat) (prev:List Int):List Int:=[q,k,0,heardV g n q prev 0,heardV g n q prev 1,heardV g n q prev 2,heardV g n q prev 3,heardV g n q prev 4]
def layV (mk:Nat→List Int) (t:List (List Int)):Nat→List (List Int)×List Int
 | 0=>(t,[])
 | q+1=>(addV (layV mk t q).1 (mk q),(layV mk t q).2++[(idxV (layV mk t q).1 (mk q):Int)])
theorem layV_len (mk:Nat→List Int) (t:List (List Int)):∀q,(layV mk t q).2.length=q
 | 0=>rfl
 | q+1=>by unfold layV;simp[layV_len mk t q]
theorem layV_prefix (mk:Nat→List Int) (t:List (List Int)):∀q,t<+:(layV mk t q).1
 | 0=>List.prefix_rfl
 | q+1=>by unfold layV;exact (layV_prefix mk t q).trans (addV_prefix _ _)
theorem layV_size (mk:Nat→List Int) (t:List (List Int)):∀q,(layV mk t q).1.length≤t.length+q
 | 0=>by simp[layV]
 | q+1=>by
  unfold layV
  have h1:=layV_size mk t q
  have h2:=addV_len (layV mk t q).1 (mk q)
  dsimp only
  omega
def playV (n:Nat) (inn:List Int) (word:List (List Int)) (t:List (List Int)):Nat→List (List Int)×List (List Int)
 | 0=>((layV (fun q=>firstV q (nth inn q)) t n).1,[(layV (fun q=>firstV q (nth inn q)) t n).2])
 | k+1=>((layV (fun q=>seenV (nthL word k) n (k+1) q (nthL (playV n inn word t k).2 k)) (playV n inn word t k).1 n).1,
   (playV n inn word t k).2++[(layV (fun q=>seenV (nthL word k) n (k+1) q (nthL (playV n inn word t k).2 k)) (playV n inn word t k).1 n).2])
theorem playV_len (n:Nat) (inn:List Int) (word:List (List Int)) (t:List (List Int)):∀k,(playV n inn word t k).2.length=k+1
 | 0=>rfl
 | k+1=>by unfold playV;simp[playV_len n inn word t k]
theorem playV_size (n:Nat) (inn:List Int) (word:List (List Int)) (t:List (List Int)):∀k,(playV n inn word t k).1.length≤t.length+n * (k+1)
 | 0=>by unfold playV;have:=layV_size (fun q=>firstV q (nth inn q)) t n;simpa using this
 | k+1=>by
  unfold playV
  have h1:=playV_size n inn word t k
  have h2:=layV_size (fun q=>seenV (nthL word k) n (k+1) q (nthL (playV n inn word t k).2 k)) (playV n inn word t k).1 n
  dsimp only
  have h3:n * (k+1+1)=n * (k+1)+n:=Nat.mul_succ ..
  omega
abbrev ExecD:=Int×List (List Int)×List (List Int)
def ExecD.case (x:ExecD):Int:=x.1
def ExecD.word (x:ExecD):List (List Int):=x.2.1
def ExecD.vs (x:ExecD):List (List Int):=x.2.2
def nthX (l:List ExecD) (k:Nat):ExecD:=l.getD k (0,[],[])
theorem nthX_eq {l:List ExecD} {k:Nat} (h:k<l.length):nthX l k=l[k]:=by simp[nthX,h]
theorem nthX_mem {l:List ExecD} {k:Nat} (h:k<l.length):nthX l k∈l:=by rw[nthX_eq h];exact List.getElem_mem h
theorem take_nthX {l:List ExecD} {k:Nat} (h:k<l.length):l.take (k+1)=l.take k++[nthX l k]:=by rw[nthX_eq h];exact (List.take_append_getElem h).symm
def pairsW (c:Nat) (ws:List (List (List Int))):List (Nat×List (List Int)):=(List.range c).flatMap fun i=>ws.map fun w=>(i,w)
def stepE (n:Nat) (cs:List CaseD) (a:List (List Int)×List ExecD) (x:Nat×List (List Int)):List (List Int)×List ExecD:=
 ((playV n (nthC cs x.1).inn x.2 a.1 x.2.length).1,a.2++[((x.1:Int),x.2,(playV n (nthC cs x.1).inn x.2 a.1 x.2.length).2)])
def runE (n:Nat) (cs:List CaseD) (l:List (Nat×List (List Int))):List (List Int)×List ExecD:=l.foldl (stepE n cs) ([],[])
theorem runE_snoc (n:Nat) (cs:List CaseD) (l:List (Nat×List (List Int))) (x:Nat×List (List Int)):runE n cs (l++[x])=stepE n cs (runE n cs l) x:=by
 unfold runE;rw[List.foldl_append];rfl
theorem runE_len (n:Nat) (cs:List CaseD):∀l:List (Nat×List (List Int)),(runE n cs l).2.length=l.length:=by
 intro l
 have:∀(l:List (Nat×List (List Int))) (a:List (List Int)×List ExecD),(l.foldl (stepE n cs) a).2.length=a.2.length+l.length:=by
  intro l
  induction l with
  | nil=>intro a;simp
  | cons x r ih=>intro a;rw[List.foldl_cons,ih];simp[stepE];omega
 simpa[runE] using this l ([],[])
theorem runE_size (n K:Nat) (cs:List CaseD) (l:List (Nat×List (List Int))) (h:∀x∈l,x.2.length=K):(runE n cs l).1.length≤l.length * (n * (K+1)):=by
 have:∀(l:List (Nat×List (List Int))) (a:List (List Int)×List ExecD),(∀x∈l,x.2.length=K)→(l.foldl (stepE n cs) a).1.length≤a.1.length+l.length * (n * (K+1)):=by
  intro l
  induction l with
  | nil=>intro a _;simp
  | cons x r ih=>
   intro a hx
   rw[List.foldl_cons]
   have h1:=ih (stepE n cs a x) (fun y hy=>hx y (by simp[hy]))
   have h2:=playV_size n (nthC cs x.1).inn x.2 a.1 x.2.length
   rw[hx x (by simp)]at h2
   have h3:(stepE n cs a x).1.length=(playV n (nthC cs x.1).inn x.2 a.1 K).1.length:=by unfold stepE;rw[hx x (by simp)]
   rw[List.length_cons,Nat.add_mul,Nat.one_mul]
   omega
 simpa[runE] using this l ([],[]) h
theorem pairsW_len (c:Nat) (ws:List (List (List Int))):(pairsW c ws).length=c * ws.length:=by
 unfold pairsW
 rw[List.length_flatMap]
 simp only[List.length_map]
 rw[List.map_const',List.sum_replicate_nat,List.length_range]
def ProbD.pairs (p:ProbD):List (Nat×List (List Int)):=pairsW p.cs.length (wordsD p.st p.rounds.toNat 0)
def ProbD.sys (p:ProbD):List (List Int)×List ExecD:=runE p.n.toNat p.cs p.pairs
def ProbD.num (p:ProbD):Nat:=p.cs.length * cntW p.st p.rounds.toNat 0
theorem ProbD.pairs_len (p:ProbD):p.pairs.length=p.num:=by unfold ProbD.pairs ProbD.num;rw[pairsW_len,length_wordsD]
theorem ProbD.pairs_word (p:ProbD):∀x∈p.pairs,x.2.length=p.rounds.toNat:=by
 intro x hx
 unfold ProbD.pairs pairsW at hx
 obtain ⟨i,hi,hx⟩:=List.mem_flatMap.1 hx
 obtain ⟨w,hw,rfl⟩:=List.mem_map.1 hx
 exact words_len _ _ _ _ hw
theorem ProbD.pairs_case (p:ProbD):∀x∈p.pairs,x.1<p.cs.length:=by
 intro x hx
 unfold ProbD.pairs pairsW at hx
 obtain ⟨i,hi,hx⟩:=List.mem_flatMap.1 hx
 obtain ⟨w,hw,rfl⟩:=List.mem_map.1 hx
 exact List.mem_range.1 hi
def buildE (p:ProbD):Int:=if checkPr p=0 then (if 4096<p.num then 17 else 0) else checkPr p
def SmallP (p:ProbD):Prop:=checkPr p=0→p.num≤4096→p.num≤60∧p.n≤3
structure SysF where
 p:ProbD
 tn:Int
 tab:List (List Int)
 ex:List ExecD
def verE (s:SysF):Int:=if buildE s.p=0 then (if s.tn=s.p.n∧s.tab=s.p.sys.1∧s.ex=s.p.sys.2 then 0 else 3) else buildE s.p
end Go.Proofs.YtaijafjfafbcfaaGreat
namespace Go.Proofs.YtaijafjfafbcfaaGreat
open Go.RowKit Go.Maps
theorem laid_prog:laidOutB Tryz.prog=true:=by kernel_rfl
theorem view_row:(147:TypeId)<Tryz.prog.types.size:=of_decide_eq_true (by kernel_rfl)
theorem view_wide:(match Tryz.prog.underlying 147 with | some (.array _ _) | some (.struct _)=>true | _=>false)=true:=by kernel_rfl
theorem view_law:WideMaps.KeyLaw Tryz.prog 147:=deep_law_laid laid_prog (m:=3) (by omega) view_row (by kernel_rfl) view_wide
theorem view_keytype:Tryz.prog.keyType 147=true:=by kernel_rfl
theorem view_cells:Tryz.prog.cellsOf 147=8:=by kernel_rfl
theorem five_cells:Tryz.prog.cellsOf 115=5:=by kernel_rfl
theorem int_cells:Tryz.prog.cellsOf 3=1:=by kernel_rfl
theorem types_big:∃d,Tryz.prog.types.size=d+3:=⟨Tryz.prog.types.size - 3,by kernel_rfl⟩
theorem keyLits_int (d:Nat) (x:Int) (h:WF x):Tryz.prog.keyLits (d+1) 3 [.int .i64 x]=some [.int .i64 x]:=by
 simp[Program.keyLits,Tryz.underlying3,h.lit]
theorem view_lits (x:List Int) (hl:x.length=8) (hw:∀y∈x,WF y):∃ls,Tryz.prog.keyLits (Tryz.prog.types.size+1) 147 (x.map (Value.int .i64))=some ls:=by
 match x,hl with
 | [a,b,c,d,e,f,g,h],_=>
  obtain ⟨n,hn⟩:=types_big
  rw[hn]
  have ha:=keyLits_int (n+2) a (hw a (by simp))
  have hb:=keyLits_int (n+2) b (hw b (by simp))
  have hc:=keyLits_int (n+2) c (hw c (by simp))
  have hd:=keyLits_int (n+1) d (hw d (by simp))
  have he:=keyLits_int (n+1) e (hw e (by simp))
  have hf:=keyLits_int (n+1) f (hw f (by simp))
  have hg:=keyLits_int (n+1) g (hw g (by simp))
  have hh:=keyLits_int (n+1) h (hw h (by simp))
  have wa:=(hw a (by simp)).lit
  have wb:=(hw b (by simp)).lit
  have wc:=(hw c (by simp)).lit
  have wd:=(hw d (by simp)).lit
  have we:=(hw e (by simp)).lit
  have wf:=(hw f (by simp)).lit
  have wg:=(hw g (by simp)).lit
  have wh:=(hw h (by simp)).lit
  have h5:Tryz.prog.keyLits (n+3) 115 [.int .i64 d,.int .i64 e,.int .i64 f,.int .i64 g,.int .i64 h]=some [.int .i64 d,.int .i64 e,.int .i64 f,.int .i64 g,.int .i64 h]:=by
   simp[Program.keyLits,Tryz.underlying115,Tryz.underlying3,five_cells,int_cells,List.range_succ,wd,we,wf,wg,wh]
  refine ⟨[.int .i64 a,.int .i64 b,.int .i64 c,.int .i64 d,.int .i64 e,.int .i64 f,.int .i64 g,.int .i64 h],?_⟩
  simp[Program.keyLits,Tryz.underlying147,Tryz.underlying115,Tryz.underlying3,view_cells,int_cells,five_cells,List.range_succ,wa,wb,wc,wd,we,wf,wg,wh]
theorem view_formed (xs:List Value) (h:xs.length=8):(Value.agg xs.toArray).formed Tryz.prog 147=true:=by
 simp[Value.formed,Tryz.underlying147,view_cells,h]
noncomputable def viewKey:KeyB Tryz.prog 147 (List Int) where
 law:=Keyed.of_law view_law
 kv x:=.agg (x.map (Value.int .i64)).toArray
 kl x:=(keyOf Tryz.prog 147 (.agg (x.map (Value.int .i64)).toArray)).getD (.bool true)
 ok x:=x.length=8∧∀y∈x,WF y
 reads x h:=by
  obtain ⟨ls,hls⟩:=view_lits x h.1 h.2
  have:∃l,keyOf Tryz.prog 147 (.agg (x.map (Value.int .i64)).toArray)=some l:=by
   unfold keyOf
   have hf:=view_formed (x.map (Value.int .i64)) (by simp[h.1])
   simp only[Tryz.underlying147,view_keytype,hf,Bool.and_self,if_true]
   simp only[Value.cells]
   rw[hls]
   exact ⟨_,rfl⟩
  obtain ⟨l,hl⟩:=this
  rw[hl];rfl
 inj x y h:=by
  injection h with h
  have h2:x.map (Value.int .i64)=y.map (Value.int .i64):=by
   have:=congrArg Array.toList h
   simpa using this
  exact (List.map_inj_right (fun a b e=>by injection e)).1 h2
end Go.Proofs.YtaijafjfafbcfaaGreat
