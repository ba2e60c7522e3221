/- Part of the proof that the laws answer true for every input. -/
import Derived.Test.YtfjlhjkjjbiliaaGreatPXa02
import Derived.Test.YtfjlhjkjjbiliaaGreatPXa01
import Derived.Deep.DrawnRows
set_option linter.unusedSimpArgs false
set_option linter.unnecessarySimpa false
set_option linter.unusedVariables false
set_option maxRecDepth 100000
set_option maxHeartbeats 40000000
namespace Go.Proofs.YtfjlhjkjjbiliaaGreat
def firstE (f:Nat→Int):Nat→Int
 | 0=>0
 | n+1=>if firstE f n=0 then f n else firstE f n
theorem yr {f:Nat→Int}:∀{n:Nat},(∀k,k<n→f k=0)→firstE f n=0
 | 0,_=>rfl
 | n+1,h=>by
  unfold firstE
  rw[if_pos (yr fun k hk=>h k (by omega))]
  exact h n (by omega)
theorem Zk {f:Nat→Int} {k:Nat} (h:∀j,j<k→f j=0) (hk:f k≠0):∀{n:Nat},k<n→firstE f n=f k
 | 0,h0=>by omega
 | n+1,h0=>by
  unfold firstE
  by_cases e:k=n
  ·subst e;rw[if_pos (yr h)]
  ·have:=Zk h hk (n:=n) (by omega)
   rw[this,if_neg hk]
theorem yX {f:Nat→Int} {n:Nat}:firstE f n=0↔∀k,k<n→f k=0:=by
 constructor
 ·induction n with
  | zero=>intro _ k hk;omega
  | succ n ih=>
   intro h k hk
   unfold firstE at h
   split at h
   ·rename_i h0
    by_cases e:k=n
    ·subst e;exact h
    ·exact ih h0 k (by omega)
   ·rename_i h0;exact absurd h h0
 ·exact yr
def Zeros (f:Nat→Int) (k:Nat):Prop:=∀j,j<k→f j=0
theorem Zeros.zero (f:Nat→Int):Zeros f 0:=fun j hj=>by omega
theorem Zeros.next {f:Nat→Int} {k:Nat} (h:Zeros f k) (h0:f k=0):Zeros f (k+1):=fun j hj=>by
 by_cases e:j=k
 ·subst e;exact h0
 ·exact h j (by omega)
theorem Zeros.done {f:Nat→Int} {k n:Nat} (h:Zeros f k) (hk:n≤k):firstE f n=0:=yr fun j hj=>h j (by omega)
theorem Zeros.stop {f:Nat→Int} {k n:Nat} {x:Int} (h:Zeros f k) (hx:f k=x) (h0:x≠0) (hk:k<n):firstE f n=x:=by
 rw[Zk h (by rw[hx];exact h0) hk,hx]
def allN (f:Nat→Bool):Nat→Bool
 | 0=>true
 | n+1=>allN f n&&f n
theorem yO {f:Nat→Bool}:∀{n:Nat},allN f n=true↔∀k,k<n→f k=true
 | 0=>⟨fun _ k hk=>by omega,fun _=>rfl⟩
 | n+1=>by
  unfold allN
  rw[Bool.and_eq_true,yO]
  constructor
  ·rintro ⟨h,h1⟩ k hk
   by_cases e:k=n
   ·subst e;exact h1
   ·exact h k (by omega)
  ·intro h;exact ⟨fun k hk=>h k (by omega),h n (by omega)⟩
def Alls (f:Nat→Bool) (k:Nat):Prop:=∀j,j<k→f j=true
theorem Alls.zero (f:Nat→Bool):Alls f 0:=fun j hj=>by omega
theorem Alls.next {f:Nat→Bool} {k:Nat} (h:Alls f k) (h0:f k=true):Alls f (k+1):=fun j hj=>by
 by_cases e:j=k
 ·subst e;exact h0
 ·exact h j (by omega)
theorem Alls.done {f:Nat→Bool} {k n:Nat} (h:Alls f k) (hk:n≤k):allN f n=true:=yO.2 fun j hj=>h j (by omega)
theorem YS {f:Nat→Bool} {k n:Nat} (h:f k=false) (hk:k<n):allN f n=false:=by
 cases e:allN f n with
 | false=>rfl
 | true=>rw[yO.1 e k hk]at h;cases h
def cmpI (a b:Int):Int:=if a<b then -1 else if b<a then 1 else 0
def lexN (a b:List Int) (n:Nat):Int:=firstE (fun i=>cmpI (nth a i) (nth b i)) n
def ordL (a b:List Int):Int:=if lexN a b (min a.length b.length)=0 then cmpI (a.length:Int) (b.length:Int) else lexN a b (min a.length b.length)
theorem qb {a b:Int}:cmpI a b=0↔a=b:=by unfold cmpI;constructor<;>intro h<;>(try subst h)<;>(try split at h)<;>(try split at h)<;>(try omega)<;>simp_all
theorem Yi {a b:List Int} {n:Nat}:lexN a b n=0↔∀i,i<n→nth a i=nth b i:=by
 unfold lexN;rw[yX]
 exact ⟨fun h i hi=>qb.1 (h i hi),fun h i hi=>qb.2 (h i hi)⟩
theorem zc7 {a b:List Int} (hl:a.length=b.length) (h:∀i,i<a.length→nth a i=nth b i):a=b:=by
 apply List.ext_getElem hl
 intro i h1 h2
 have:=h i h1
 rwa [yh h1,yh h2]at this
theorem Yf {a b:List Int}:ordL a b=0↔a=b:=by
 unfold ordL
 constructor
 ·intro h
  split at h
  ·rename_i h0
   have hl:a.length=b.length:=by have:=qb.1 h;omega
   exact zc7 hl fun i hi=>Yi.1 h0 i (by omega)
  ·rename_i h0;exact absurd h h0
 ·intro h;subst h
  have:lexN a a (min a.length a.length)=0:=Yi.2 fun _ _=>rfl
  rw[if_pos this];exact qb.2 rfl
def gAt (n:Int) (p:Nat) (x:Int):Int:=if n≤(p:Int) then (if x=0 then 0 else 3) else if x<0∨((2 ^ n.toNat:Nat):Int) - 1<x then 2 else if x.toNat.testBit p then 0 else 3
def checkG (l:List Int):Int:=if nth l 0<1∨5<nth l 0 then 2 else firstE (fun p=>gAt (nth l 0) p (nth l (p+1))) 5
def checkP (n s:Int):Int:=if n<1∨5<n then 1 else if s<0∨((2 ^ n.toNat:Nat):Int)≤s then 2 else 0
def checkR (l:List Int):Int:=if checkG l=0 then checkP (nth l 0) (nth l 6) else checkG l
abbrev CaseD:=List Int×List (List Int)×List (List Int)
def CaseD.inn (c:CaseD):List Int:=c.1
def CaseD.out (c:CaseD):List (List Int):=c.2.1
def CaseD.calm (c:CaseD):List (List Int):=c.2.2
def nthC (l:List CaseD) (k:Nat):CaseD:=l.getD k ([],[],[])
def vecE (v:List Int) (n most:Int):Int:=if (v.length:Int)=n then (if v.any (fun x=>decide (x<0)||decide (most≤x)) then 2 else 0) else 15
def unord (l:List (List Int)) (k:Nat):Bool:=decide (0<k)&&decide (0≤ordL (nthL l (k - 1)) (nthL l k))
def outE (n outs:Int) (l:List (List Int)) (k:Nat):Int:=if vecE (nthL l k) n outs=0 then (if unord l k then 14 else 0) else vecE (nthL l k) n outs
def calmE (o l:List (List Int)) (k:Nat):Int:=if decide (nthL l k∈o) then (if unord l k then 14 else 0) else 6
def vecsE (n outs:Int) (c:CaseD):Int:=
 if c.out.length<1∨1024<c.out.length then 5 else
  if firstE (outE n outs c.out) c.out.length=0 then firstE (calmE c.out c.calm) c.calm.length else firstE (outE n outs c.out) c.out.length
def caseE (n ins outs:Int) (l:List CaseD) (k:Nat):Int:=
 if vecE (nthC l k).inn n ins=0 then
  (if decide (0<k)&&decide (0≤ordL (nthC l (k - 1)).inn (nthC l k).inn) then 14 else vecsE n outs (nthC l k))
 else vecE (nthC l k).inn n ins
def checkT (n ins outs:Int) (l:List CaseD):Int:=
 if n<1∨5<n∨ins<1∨8<ins∨outs<1∨8<outs then 2 else if l.length<1∨1024<l.length then 5 else firstE (caseE n ins outs l) l.length
abbrev Moves:=List (List (List Int))
def nthM (st:Moves) (s:Nat):List (List Int):=st.getD s []
def moveE (n:Int) (ns:Nat) (l:List (List Int)) (i:Nat):Int:=
 if checkR (nthL l i)=0 then
  (if nth (nthL l i) 0≠n then 22 else if decide (0<i)&&decide (0≤lexN (nthL l (i - 1)) (nthL l i) 7) then 14 else if nth (nthL l i) 7<0∨(ns:Int)≤nth (nthL l i) 7 then 2 else 0)
 else checkR (nthL l i)
def stateE (n:Int) (st:Moves) (s:Nat):Int:=if (nthM st s).length=0 then 19 else firstE (moveE n st.length (nthM st s)) (nthM st s).length
def movesN (st:Moves):Nat:=st.foldl (fun n l=>n+l.length) 0
def inB (a b:Nat):Bool:=allN (fun p=> !a.testBit p||b.testBit p) 5
def growsB (st:Moves):Bool:=allN (fun s=>allN (fun i=>allN (fun k=>inB (nth (nthL (nthM st s) i) 6).toNat (nth (nthL (nthM st (nth (nthL (nthM st s) i) 7).toNat) k) 6).toNat) (nthM st (nth (nthL (nthM st s) i) 7).toNat).length) (nthM st s).length) st.length
def checkA (n:Int) (st:Moves):Int:=
 if n<1∨5<n then 2 else if st.length<1∨256<st.length∨4096<movesN st then 5 else
  if firstE (stateE n st) st.length=0 then (if growsB st then 0 else 21) else firstE (stateE n st) st.length
end Go.Proofs.YtfjlhjkjjbiliaaGreat
namespace Go.Proofs.YtfjlhjkjjbiliaaGreat
open Go.RowKit
attribute [local go_sem ↓] Go.wp_at_zero Go.wp_at_succ
structure Mx where
 cols:Int
 rows:List (List Int)
theorem ze (w:World) (o:Obj):Below w.heap.size w (w.alloc o):=(Below.refl _ _).alloc (Nat.le_refl _) _
theorem zg {a w:World} (h:Below a.heap.size a w) (o:Obj):Below a.heap.size a (w.alloc o):=h.alloc h.size _
theorem zh (w:World) (xs:List Value) (e:TypeId):Row (w.alloc (.cells xs.toArray e)) w.heap.size e xs:=by
 unfold Row
 rw[heap_alloc_new]
theorem zK:(Tryz.prog.info? 36).map (fun i=>(i.zero,i.size,i.bytes))=some (some (.slice none 0 0),1,24):=by kernel_rfl
theorem Lists.at {S:Nat→Prop} {w wr:World} {a:Option Addr} {cap:Nat} {ll:List (List Int)} (h:Lists S w (.slice a ll.length cap) ll) (hb:Below w.heap.size w wr) {k:Nat} (hk:k<ll.length):
  ∃u,wr.cell? (adr a k)=some u∧Ints S wr u (nthL ll k):=by
 obtain ⟨a',cap',e,ha,_,_,hc⟩:=h
 simp only[Value.slice.injEq,true_and]at e
 obtain ⟨rfl,rfl⟩:=e
 obtain ⟨u,hu,hi⟩:=hc k hk
 exact ⟨u,(ha.cell (.of_ext hb) hk).trans hu,hi.ext hb⟩
theorem Lists.form {S:Nat→Prop} {w:World} {v:Value} {ll:List (List Int)} (h:Lists S w v ll):∃a cap,v=.slice a ll.length cap∧Ad S w a ll.length cap∧ll.length≤cap∧cap≤maxLen:=by
 obtain ⟨a,cap,rfl,ha,h1,h2,_⟩:=h
 exact ⟨a,cap,rfl,ha,h1,h2⟩
theorem Ints.form {S:Nat→Prop} {w:World} {v:Value} {l:List Int} (h:Ints S w v l):∃a cap,v=.slice a l.length cap∧Ad S w a l.length cap∧l.length≤cap∧cap≤maxLen:=by
 obtain ⟨a,cap,rfl,ha,h1,h2,_⟩:=h
 exact ⟨a,cap,rfl,ha,h1,h2⟩
def MatV (S:Nat→Prop) (w:World) (v:Value) (m:Mx):Prop:=∃rv,v=.agg #[.int .i64 m.cols,rv]∧Lists S w rv m.rows
theorem MatV.agree {S:Nat→Prop} {w w':World} {v:Value} {m:Mx} (h:MatV S w v m) (hw:Agree S w w'):MatV S w' v m:=by
 obtain ⟨rv,rfl,h⟩:=h;exact ⟨rv,rfl,h.agree hw⟩
theorem MatV.mono {S S':Nat→Prop} {w:World} {v:Value} {m:Mx} (h:MatV S w v m) (hS:∀b,S b→S' b):MatV S' w v m:=by
 obtain ⟨rv,rfl,h⟩:=h;exact ⟨rv,rfl,h.mono hS⟩
theorem MatV.ext {S:Nat→Prop} {w w':World} {v:Value} {m:Mx} (h:MatV S w v m) (hw:Below w.heap.size w w'):MatV S w' v m:=h.agree (.of_ext hw)
theorem Post.imp {w w':World} {R R':World→Value→Prop} {e:Ending} (h:Post w R e w') (hi:∀w' r,R w' r→R' w' r):Post w R' e w':=by
 obtain ⟨r,rfl,hb,hr⟩:=h;exact ⟨r,rfl,hb,hi _ _ hr⟩
abbrev TT:Nat→Prop:=fun _=>True
theorem OwnList.agree {e:TypeId} {B:Nat} {w w':World} {v:Value} {vs:List Value} {ll:List (List Int)} (h:OwnList e B w v vs ll) (hw:Agree (fun b=>B≤b) w w'):OwnList e B w' v vs ll:=
 ⟨zH h.row hw fun k hk=>(h.row.lt k hk).1,fun j hj=>(h.rows j hj).agree (hw.mono fun b hb=>hb.1)⟩
theorem Row.get {w:World} {g:Nat} {e:TypeId} {xs ys:List Value} (h:Row w g e xs) (he:xs=ys):Row w g e ys:=he▸h
def RetM (base:Nat) (x:Mx×Int) (w':World) (r:Value):Prop:=∃mv,r=.tuple #[mv,.int .i64 x.2]∧MatV (fun b=>base≤b) w' mv x.1
theorem RetM.mk {base:Nat} {x:Mx×Int} {w':World} {rv:Value} {c e:Int} {ll:List (List Int)} (hx:x=(⟨c,ll⟩,e)) (h:Lists (fun b=>base≤b) w' rv ll):RetM base x w' (.tuple #[.agg #[.int .i64 c,rv],.int .i64 e]):=by
 subst hx;exact ⟨_,rfl,rv,rfl,h⟩
theorem RetM.none {base:Nat} {x:Mx×Int} {w':World} {e:Int} (hx:x=(⟨0,[]⟩,e)):RetM base x w' (.tuple #[.agg #[.int .i64 0,.slice none 0 0],.int .i64 e]):=.mk hx (.nil _ _)
theorem ZK {S:Nat→Prop} {w w':World} {p:Addr} {u:Value} (h:w.cell? p=some u) (hw:Agree S w w') (hS:S p.block):w'.cell? p=some u:=
 (World.cell?_of_block (hw.block p.block hS (World.block_lt_of_cell? w p h))).trans h
theorem Agree.alloc {S:Nat→Prop} {w w':World} (h:Agree S w w') (o:Obj):Agree S w (w'.alloc o):=h.trans ⟨by simp,fun k _ hk=>heap_alloc_old w' o hk⟩
theorem Agree.drew {S:Nat→Prop} {w w':World} (h:Agree S w w'):Agree S w w'.drew:=h.trans ⟨Nat.le_refl _,fun _ _ _=>rfl⟩
theorem zc8 {S:Nat→Prop} {w:World} {a:Option Addr} {n cap:Nat} {x:Int} {l:List Int} (h:Ints S w (.slice a n cap) (x::l)) {wr:World} (hb:Below w.heap.size w wr):wr.cell? (adr a 0)=some (.int .i64 x):=by
 obtain ⟨a0,cap0,e,had,hl,hm,hc,hf⟩:=h
 simp only[List.length_cons,Value.slice.injEq]at e
 obtain ⟨rfl,rfl,rfl⟩:=e
 exact (had.cell (.of_ext hb) (by simp)).trans (hc 0 (by simp))
theorem zge {S:Nat→Prop} {w:World} {a:Option Addr} {n cap:Nat} {l:List Int} (h:Ints S w (.slice a n cap) l):Ad S w a l.length cap:=by
 obtain ⟨a0,cap0,e,had,hl,hm,hc,hf⟩:=h
 simp only[Value.slice.injEq]at e
 obtain ⟨rfl,rfl,rfl⟩:=e
 exact had
theorem zj {w w':World} {p:Addr} {u:Value} (h:w.cell? p=some u) (hb:Below w.heap.size w w'):w'.cell? p=some u:=(hb.cell (World.block_lt_of_cell? w _ h)).trans h
theorem yf {S:Nat→Prop} {w W:World} {a:Option Addr} {n cap:Nat} {l:List Int} (h:Ints S w (.slice a n cap) l) (hb:Below w.heap.size w W):∀j,j<l.length→W.cell? (adr a j)=some ((l.map (Value.int .i64)).getD j undef):=by
 obtain ⟨a0,cap0,e,had,hl,hm,hc,hf⟩:=h
 simp only[Value.slice.injEq]at e
 obtain ⟨rfl,rfl,rfl⟩:=e
 intro j hj
 rw[(had.cell (.of_ext hb) hj).trans (hc j hj)]
 simp[yh hj,hj]
theorem ZR (l:List Int):∀u∈l.map (Value.int .i64),u.oneCell'=true:=by
 intro u hu
 obtain ⟨x,_,rfl⟩:=List.mem_map.1 hu
 rfl
def RefsV (S:Nat→Prop) (w:World) (vs:List Value) (ll:List (List Int)):Prop:=vs.length=ll.length∧∀j,j<ll.length→Ints S w (nthV vs j) (nthL ll j)
theorem RefsV.nil (S:Nat→Prop) (w:World):RefsV S w [] []:=⟨rfl,fun j hj=>by simp at hj⟩
theorem RefsV.snoc {S:Nat→Prop} {w:World} {vs:List Value} {ll:List (List Int)} {u:Value} {l:List Int} (h:RefsV S w vs ll) (hu:Ints S w u l):RefsV S w (vs++[u]) (ll++[l]):=by
 refine ⟨by simp[h.1],fun j hj=>?_⟩
 by_cases hlt:j<ll.length
 ·rw[show nthV (vs++[u]) j=nthV vs j from by simp[nthV,List.getElem?_append_left (show j<vs.length by rw[h.1];exact hlt)],show nthL (ll++[l]) j=nthL ll j from by simp[nthL,List.getElem?_append_left hlt]]
  exact h.2 j hlt
 ·have:j=ll.length:=by simp at hj;omega
  subst this
  rw[show nthV (vs++[u]) ll.length=u from by simp[nthV,←h.1],show nthL (ll++[l]) ll.length=l from by simp[nthL]]
  exact hu
theorem RefsV.agree {S:Nat→Prop} {w w':World} {vs:List Value} {ll:List (List Int)} (h:RefsV S w vs ll) (hw:Agree S w w'):RefsV S w' vs ll:=⟨h.1,fun j hj=>(h.2 j hj).agree hw⟩
theorem Lists.of_own {S:Nat→Prop} {base:Nat} {e:TypeId} {w:World} {v:Value} {vs:List Value} {ll:List (List Int)} (ho:w.ownsRow base e 1 v ll.length vs) (hr:RefsV S w vs ll) (hS:∀b,base≤b→S b):Lists S w v ll:=by
 rcases ho.2 with ⟨rfl,h0⟩ | ⟨g,cap,cur,rfl,hb,hg,hnc,hcm,_⟩
 ·have:ll=[]:=List.length_eq_zero_iff.1 h0
  subst this
  exact .nil _ _
 ·refine ⟨_,cap,rfl,.inr ⟨g,0,rfl,(Array.getElem?_eq_some_iff.1 hg).1,hS _ hb⟩,hnc,hcm,fun j hj=>⟨nthV vs j,?_,hr.2 j hj⟩⟩
  rw[zS,Nat.zero_add,ho.cellAt j (by omega),Zo (by rw[hr.1];exact hj)]
theorem Row.owns {w:World} {g base:Nat} {e:TypeId} {xs:List Value} (h:Row w g e xs) (hb:base≤g) (hl:xs.length≤maxLen):w.ownsRow base e 1 (.slice (some ⟨g,0,none⟩) xs.length xs.length) xs.length xs:=
 ⟨by simp,.inr ⟨g,xs.length,xs.toArray,rfl,hb,h,Nat.le_refl _,hl,by simp,by simp⟩⟩
theorem Lists.block {S:Nat→Prop} {w:World} {v:Value} {ll:List (List Int)} (h:Lists S w v ll):Lists (fun b=>S b∧b<w.heap.size) w v ll:=by
 obtain ⟨a,cap,rfl,ha,h1,h2,hc⟩:=h
 refine ⟨a,cap,rfl,?_,h1,h2,fun j hj=>?_⟩
 ·rcases ha with h | ⟨b,off,rfl,hb,hs⟩
  ·exact .inl h
  ·exact .inr ⟨b,off,rfl,hb,hs,hb⟩
 ·obtain ⟨u,hu,hi⟩:=hc j hj
  exact ⟨u,hu,hi.block 0⟩
theorem zeR (w:World) (B:Nat) (hB:B=w.heap.size) (l:List Int) (e:TypeId) (hl:l.length≤65536) (hf:∀x∈l, -1000000000≤x∧x≤1000000000):
  Ints (fun b=>b=B) (w.alloc (.cells (l.map (Value.int .i64)).toArray e)) (.slice (some ⟨B,0,none⟩) l.length l.length) l:=by
 subst hB
 exact Row.ints (e:=e) (heap_alloc_new w _) (by unfold maxLen;omega) fun x hx=>WF.small (hf x hx)
def AllIn (S:Nat→Prop) (w:World):List Value→List (List Int)→Prop
 | [],[]=>True
 | v::vs,l::ll=>Ints S w v l∧AllIn S w vs ll
 | _,_=>False
theorem AllIn.len {S:Nat→Prop} {w:World}:∀{vs:List Value} {ll:List (List Int)},AllIn S w vs ll→vs.length=ll.length
 | [],[],_=>rfl
 | v::vs,l::ll,h=>by simp[AllIn.len h.2]
 | [],_::_,h=>h.elim
 | _::_,[],h=>h.elim
theorem AllIn.get {S:Nat→Prop} {w:World}:∀{vs:List Value} {ll:List (List Int)},AllIn S w vs ll→∀j,j<ll.length→Ints S w (nthV vs j) (nthL ll j)
 | [],[],_,j,hj=>by simp at hj
 | v::vs,l::ll,h,0,_=>h.1
 | v::vs,l::ll,h,j+1,hj=>AllIn.get h.2 j (by simpa using hj)
 | [],_::_,h,_,_=>h.elim
 | _::_,[],h,_,_=>h.elim
theorem zfc {g cp n:Nat} (k:Nat) (hk:k<n) (W:World):(Instr.indexAt 109 (.slice (some ⟨g,0,none⟩) n cp) (.int .i64 k)).run Tryz.prog W=.ok (.pointer (some ⟨g,k,none⟩)) W:=by
 obtain ⟨i,hi,_,h1,_⟩:=info_parts zK
 have hE:Tryz.prog.elem 109=36:=by simp[Program.elem,Tryz.underlying109]
 rw[run_indexAt_slice W 109 _ n cp .i64 k (by rw[hE];exact Tryz.underlying109),if_pos (by omega),hE]
 simp[sizeOf,typeInfo,hi,h1,Result.andThen,Addr.add]
 exact fun h=>h.symm
theorem Y6 {P:Program} {ops:Array Oper} {o:Oper} {a:Act} {w:World} {K:Act→World→Prop} {Q:Exit→Act→World→Prop} {E:Prop} (hgd:o.guard=none) (s x:Operand) (t:TypeId)
  (ho:o.op=.call {callee:=.builtin .append,args:=#[s,x],argTypes:=#[t,t]}) (e:TypeId) (z:Value) (bytes:Nat) (ht:P.underlying t=some (.slice e))
  (hinfo:(P.info? e).map (fun i=>(i.zero,i.size,i.bytes))=some (some z,1,bytes)) (hz1:z.cells.size=1) (base:Nat) (v:Value) (n:Nat) (xs:List Value) (hs:a.eval s=v) (hown:w.ownsRow base e 1 v n xs)
  (S:Nat→Prop) (ad:Option Addr) (m c:Nat) (news:List Value) (hx:a.eval x=.slice ad m c) (had:Ad S w ad m c) (hl:news.length=m) (hcell:∀j,j<m→w.cell? (adr ad j)=some (news.getD j undef)) (h1:∀u∈news,u.oneCell'=true)
  (hbytes:(n+m) * bytes≤140737488355328) (hn:n+m≤9223372036854775807) (hbase:base≤w.heap.size)
  (h:∀v' w',w'.ownsRow base e 1 v' (n+m) (xs++news)→Below base w w'→(∀S:Nat→Prop,(∀k,v.ownBlock=some k→¬S k)→Agree S w w')→(∀k,v'.ownBlock=some k→v.ownBlock=some k∨w.heap.size≤k)→K (a.put o.dst v') w'):
  if Region.wanted o (yielded ops a.tmps)=true then Oper.wp P o a w K Q else E:=by
 have hw:Region.wanted o (yielded ops a.tmps)=true:=by simp[Region.wanted,hgd]
 rw[if_pos hw]
 obtain ⟨i,hi,hz,hz2,hz3⟩:=info_parts hinfo
 have hlt:=hown.lt
 have fin:∀x:Addr,ad=some x→(∀j u,news[j]? =some u→w.cell? (x.add j)=some u)→o.wp P a w K Q:=by
  intro x he hx2
  obtain ⟨v',w',hr,h2,h3,h4⟩:=ya (P:=P) w base t o.type e i z 1 bytes ht hi hz hz2 hz3 hz1 (by decide) v n xs hown x m c news (by omega) hx2 h1 (by unfold maxLen;omega) hbytes hbase
  rw[he]at hx
  unfold Oper.wp
  simp[execOp,ho,resolve,invoke,builtin,hs,hx,hr,Result.andThen]
  exact h v' w' h2 ((Below.refl _ _).grown h3 hbase (fun k hk=>(hlt k hk).1)) (fun S hS=>.of_grown h3 (fun k hk e1=>hS k e1 hk)) h4
 rcases had with ⟨rfl,rfl⟩ | ⟨b,off,rfl,hb,hS⟩
 ·have hn0:news=[]:=List.eq_nil_of_length_eq_zero hl
  cases ad with
  | some x=>exact fin x rfl (fun j u hj=>by rw[hn0]at hj;simp at hj)
  | none=>
   have hrun:=run_append_owned_none (P:=P) w base t o.type e i 1 ht hi v n xs hown
   unfold Oper.wp
   simp[execOp,ho,resolve,invoke,builtin,hs,hx,hrun,Result.andThen]
   exact h v w (by rw[hn0];simpa using hown) (.refl _ _) (fun S _=>.refl _ _) (fun k hk=>.inl hk)
 ·refine fin _ rfl (fun j u hj=>?_)
  have hjm:j<m:=by rw[←hl];exact (List.getElem?_eq_some_iff.1 hj).1
  have:=hcell j hjm
  rw[zS]at this
  rw[Addr.add_lit,this,List.getD_eq_getElem?_getD,hj]
  rfl
theorem RefsV.ext {S:Nat→Prop} {w w':World} {vs:List Value} {ll:List (List Int)} (h:RefsV S w vs ll) (hw:Below w.heap.size w w'):RefsV S w' vs ll:=h.agree (.of_ext hw)
end Go.Proofs.YtfjlhjkjjbiliaaGreat
namespace Go.Proofs.YtfjlhjkjjbiliaaGreat
open Go.RowKit
structure Kd (α:Type) where
 size:Nat
 rd:(Nat→Prop)→World→List Value→α→Prop
 agree:∀{S w w' cs x},rd S w cs x→Agree S w w'→rd S w' cs x
 mono:∀{S S' w cs x},rd S w cs x→(∀b,S b→S' b)→rd S' w cs x
 block:∀{S w cs x},rd S w cs x→rd (fun b=>S b∧b<w.heap.size) w cs x
 len:∀{S w cs x},rd S w cs x→cs.length=size
 one:∀{S w cs x},rd S w cs x→∀u∈cs,u.oneCell'=true
def Sl {α:Type} (K:Kd α) (S:Nat→Prop) (w:World) (v:Value) (l:List α):Prop:=
 ∃a cap,v=.slice a l.length cap∧Ad S w a l.length cap∧l.length≤cap∧(cap≤maxLen∧l.length≤140737488355328)∧
  ∀j (h:j<l.length),∃cs:List Value,(∀i,i<K.size→w.cell? (adr a (j * K.size+i))=cs[i]?)∧K.rd S w cs l[j]
section
variable {α:Type} {K:Kd α} {S S':Nat→Prop} {w w':World} {v:Value} {l:List α}
theorem Sl.agree (h:Sl K S w v l) (hw:Agree S w w'):Sl K S w' v l:=by
 obtain ⟨a,cap,rfl,ha,h1,h2,hc⟩:=h
 refine ⟨a,cap,rfl,ha.agree hw,h1,h2,fun j hj=>?_⟩
 obtain ⟨cs,h3,h4⟩:=hc j hj
 refine ⟨cs,fun i hi=>?_,K.agree h4 hw⟩
 rw[←h3 i hi]
 rcases ha with ⟨h0,_⟩ | ⟨b,off,rfl,hb,hs⟩
 ·omega
 ·exact World.cell?_of_block (hw.block b hs hb)
theorem Sl.mono (h:Sl K S w v l) (hS:∀b,S b→S' b):Sl K S' w v l:=by
 obtain ⟨a,cap,rfl,ha,h1,h2,hc⟩:=h
 refine ⟨a,cap,rfl,ha.mono hS,h1,h2,fun j hj=>?_⟩
 obtain ⟨cs,h3,h4⟩:=hc j hj
 exact ⟨cs,h3,K.mono h4 hS⟩
theorem Sl.block (h:Sl K S w v l):Sl K (fun b=>S b∧b<w.heap.size) w v l:=by
 obtain ⟨a,cap,rfl,ha,h1,h2,hc⟩:=h
 refine ⟨a,cap,rfl,?_,h1,h2,fun j hj=>?_⟩
 ·rcases ha with h | ⟨b,off,rfl,hb,hs⟩
  ·exact .inl h
  ·exact .inr ⟨b,off,rfl,hb,hs,hb⟩
 ·obtain ⟨cs,h3,h4⟩:=hc j hj
  exact ⟨cs,h3,K.block h4⟩
theorem Sl.ext (h:Sl K S w v l) (hw:Below w.heap.size w w'):Sl K S w' v l:=h.agree (.of_ext hw)
theorem Sl.all (h:Sl K S w v l):Sl K (fun _=>True) w v l:=h.mono fun _ _=>trivial
theorem Sl.nil (K:Kd α) (S:Nat→Prop) (w:World):Sl K S w (.slice none 0 0) []:=
 ⟨none,0,rfl,.inl ⟨rfl,rfl⟩,Nat.le_refl _,by simp[maxLen],fun j hj=>by simp at hj⟩
theorem Sl.form (h:Sl K S w v l):∃a cap,v=.slice a l.length cap∧Ad S w a l.length cap∧l.length≤cap∧cap≤maxLen:=by
 obtain ⟨a,cap,e,ha,h1,h2,_⟩:=h;exact ⟨a,cap,e,ha,h1,h2.1⟩
theorem Sl.few (h:Sl K S w v l):l.length≤140737488355328:=by
 obtain ⟨_,_,_,_,_,h2,_⟩:=h;exact h2.2
theorem Sl.len (h:Sl K S w v l):l.length≤maxLen:=by
 obtain ⟨_,_,_,_,h1,h2,_⟩:=h;exact Nat.le_trans h1 h2.1
theorem Sl.at {a:Option Addr} {n cap:Nat} (h:Sl K S w (.slice a n cap) l) {j:Nat} (hj:j<l.length):
  ∃cs:List Value,(∀i,i<K.size→w.cell? (adr a (j * K.size+i))=cs[i]?)∧K.rd S w cs l[j]∧cs.length=K.size:=by
 obtain ⟨a',cap',e,ha,h1,h2,hc⟩:=h
 simp only[Value.slice.injEq]at e
 obtain ⟨rfl,_,_⟩:=e
 obtain ⟨cs,h3,h4⟩:=hc j hj
 exact ⟨cs,h3,h4,K.len h4⟩
theorem Sl.ad {a:Option Addr} {n cap:Nat} (h:Sl K S w (.slice a n cap) l):Ad S w a l.length cap∧n=l.length:=by
 obtain ⟨a',cap',e,ha,h1,h2,hc⟩:=h
 simp only[Value.slice.injEq]at e
 obtain ⟨rfl,rfl,rfl⟩:=e
 exact ⟨ha,rfl⟩
end
theorem zC {P:Program} {S:Nat→Prop} {w:World} {T E:TypeId} {i:TypeInfo} (hT:P.underlying T=some (.slice E)) (hi:P.info? E=some i) {z:Nat} (h1:i.size=z) {a:Option Addr} {n cap:Nat} (h:Ad S w a n cap):
  ∀k:Nat,k<n→∀W:World,(Instr.indexAt T (.slice a n cap) (.int .i64 k)).run P W=.ok (.pointer (some (adr a (k * z)))) W:=by
 intro k hk W
 rcases h with ⟨rfl,_⟩ | ⟨b,off,rfl,_,_⟩
 ·omega
 ·have hE:P.elem T=E:=by simp[Program.elem,hT]
  rw[run_indexAt_slice W T _ n cap .i64 k (by rw[hE];exact hT),if_pos (by omega),hE]
  simp[sizeOf,typeInfo,hi,h1,Result.andThen,adr,Addr.add]
theorem ze4 {l:List Int} {i:Nat} (h:i<l.length):(l.map (Value.int .i64))[i]? =some (.int .i64 (nth l i)):=by
 rw[List.getElem?_map,get?_nth h];rfl
def kFlat (n:Nat):Kd (List Int) where
 size:=n
 rd _ _ cs l:=l.length=n∧cs=l.map (Value.int .i64)∧∀x∈l,WF x
 agree h _:=h
 mono h _:=h
 block h:=h
 len h:=by rw[h.2.1,List.length_map];exact h.1
 one h u hu:=by
  rw[h.2.1]at hu
  obtain ⟨x,_,rfl⟩:=List.mem_map.1 hu
  rfl
theorem zcs (n:Nat):(kFlat n).size=n:=rfl
theorem Sl.num {n:Nat} {S:Nat→Prop} {w:World} {a:Option Addr} {m cap:Nat} {l:List (List Int)} (h:Sl (kFlat n) S w (.slice a m cap) l) {k:Nat} (hk:k<l.length):
  (nthL l k).length=n∧(∀x∈nthL l k,WF x)∧∀i,i<n→w.cell? (adr a (k * n+i))=some (.int .i64 (nth (nthL l k) i)):=by
 obtain ⟨cs,h1,⟨h2,rfl,h3⟩,_⟩:=h.at hk
 rw[zU hk]
 refine ⟨h2,h3,fun i hi=>?_⟩
 rw[zcs]at h1
 rw[h1 i hi,ze4 (by omega)]
def kSl {α:Type} (K:Kd α):Kd (List α) where
 size:=1
 rd S w cs l:=∃v,cs=[v]∧Sl K S w v l
 agree h hw:=by obtain ⟨v,e,h⟩:=h;exact ⟨v,e,h.agree hw⟩
 mono h hS:=by obtain ⟨v,e,h⟩:=h;exact ⟨v,e,h.mono hS⟩
 block h:=by obtain ⟨v,e,h⟩:=h;exact ⟨v,e,h.block⟩
 len h:=by obtain ⟨v,rfl,_⟩:=h;rfl
 one h u hu:=by
  obtain ⟨v,rfl,h⟩:=h
  obtain ⟨a,cap,rfl,_⟩:=h.form
  obtain rfl:=List.mem_singleton.1 hu
  rfl
theorem Sl.row {α:Type} {K:Kd α} {S:Nat→Prop} {w:World} {a:Option Addr} {m cap:Nat} {l:List (List α)} (h:Sl (kSl K) S w (.slice a m cap) l) {k:Nat} (hk:k<l.length):
  ∃v,w.cell? (adr a k)=some v∧Sl K S w v l[k]:=by
 obtain ⟨cs,h1,⟨v,rfl,h2⟩,_⟩:=h.at hk
 refine ⟨v,?_,h2⟩
 have:=h1 0 (by show 0<1;omega)
 simpa[kSl] using this
def kCase:Kd CaseD where
 size:=3
 rd S w cs c:=∃v1 v2 v3,cs=[v1,v2,v3]∧Ints S w v1 c.inn∧Lists S w v2 c.out∧Lists S w v3 c.calm
 agree h hw:=by obtain ⟨v1,v2,v3,e,h1,h2,h3⟩:=h;exact ⟨v1,v2,v3,e,h1.agree hw,h2.agree hw,h3.agree hw⟩
 mono h hS:=by obtain ⟨v1,v2,v3,e,h1,h2,h3⟩:=h;exact ⟨v1,v2,v3,e,h1.mono hS,h2.mono hS,h3.mono hS⟩
 block h:=by obtain ⟨v1,v2,v3,e,h1,h2,h3⟩:=h;exact ⟨v1,v2,v3,e,h1.block 0,h2.block,h3.block⟩
 len h:=by obtain ⟨v1,v2,v3,rfl,_⟩:=h;rfl
 one h u hu:=by
  obtain ⟨v1,v2,v3,rfl,h1,h2,h3⟩:=h
  obtain ⟨a1,c1,rfl,_⟩:=h1.form
  obtain ⟨a2,c2,rfl,_⟩:=h2.form
  obtain ⟨a3,c3,rfl,_⟩:=h3.form
  simp at hu
  rcases hu with rfl | rfl | rfl<;>rfl
theorem Sl.case {S:Nat→Prop} {w:World} {a:Option Addr} {m cap:Nat} {l:List CaseD} (h:Sl kCase S w (.slice a m cap) l) {k:Nat} (hk:k<l.length):
  ∃v1 v2 v3,w.cell? (adr a (k * 3))=some v1∧w.cell? ⟨(adr a (k * 3)).block,(adr a (k * 3)).off+1,none⟩=some v2∧w.cell? ⟨(adr a (k * 3)).block,(adr a (k * 3)).off+2,none⟩=some v3∧
   Ints S w v1 (nthC l k).inn∧Lists S w v2 (nthC l k).out∧Lists S w v3 (nthC l k).calm:=by
 obtain ⟨cs,h1,⟨v1,v2,v3,rfl,i1,i2,i3⟩,_⟩:=h.at hk
 have e:nthC l k=l[k]:=by simp[nthC,hk]
 rw[e]
 have q0:=h1 0 (by show 0<3;omega)
 have q1:=h1 1 (by show 1<3;omega)
 have q2:=h1 2 (by show 2<3;omega)
 have sz:kCase.size=3:=rfl
 rw[sz]at q0 q1 q2
 have ha:=h.ad.1
 rcases ha with ⟨h0,_⟩ | ⟨b,off,rfl,_,_⟩
 ·omega
 ·refine ⟨v1,v2,v3,by simpa using q0,?_,?_,i1,i2,i3⟩
  ·simpa[adr,Nat.add_assoc] using q1
  ·simpa[adr,Nat.add_assoc] using q2
theorem zf1 {l:List CaseD} {k:Nat} (h:k<l.length):nthC l k=l[k]:=by simp[nthC,h]
theorem Sl.nums {n:Nat} {S:Nat→Prop} {w:World} {a:Option Addr} {m cap:Nat} {l:List (List Int)} (h:Sl (kFlat n) S w (.slice a m cap) l) {k:Nat} (hk:k<l.length) (hn:0<n):
  (w.cell? (adr a (k * n))=some (.int .i64 (nth (nthL l k) 0)))∧∀i,i<n→w.cell? ⟨(adr a (k * n)).block,(adr a (k * n)).off+i,none⟩=some (.int .i64 (nth (nthL l k) i)):=by
 obtain ⟨h1,h2,h3⟩:=h.num hk
 have ha:=h.ad.1
 rcases ha with ⟨h0,_⟩ | ⟨b,off,rfl,_,_⟩
 ·omega
 ·refine ⟨by simpa using h3 0 hn,fun i hi=>?_⟩
  have:=h3 i hi
  simpa[adr,Nat.add_assoc] using this
theorem zgs {l:List Int} (h:∀x∈l,WF x) (i:Nat):WF (nth l i):=by
 by_cases hi:i<l.length
 ·exact h _ (ZA hi)
 ·have:nth l i=0:=by simp[nth,List.getElem?_eq_none (show l.length≤i by omega)]
  rw[this];exact WF.small (by omega)
end Go.Proofs.YtfjlhjkjjbiliaaGreat
namespace Go.Proofs.YtfjlhjkjjbiliaaGreat
open Go.RowKit
attribute [local go_sem ↓] Go.wp_at_zero Go.wp_at_succ
def QW (w w':World):Prop:=∃n,w'=w.drewN n
theorem QW.refl (w:World):QW w w:=⟨0,rfl⟩
theorem QW.drewN {a b:World} (h:QW a b) (n:Nat):QW a (b.drewN n):=by obtain ⟨k,rfl⟩:=h;exact ⟨_,World.drewN_drewN _ _ _⟩
theorem QW.trans {a b c:World} (h:QW a b) (k:QW b c):QW a c:=by obtain ⟨n,rfl⟩:=k;exact h.drewN n
theorem QW.ext {a b:World} (h:QW a b):Below a.heap.size a b:=by obtain ⟨n,rfl⟩:=h;exact zf _ _ _
theorem QuietP.fin {w w':World} {u v:Value} (h:u=v) (q:QW w w'):QuietP w v (.returned u) w':=⟨by rw[h],q⟩
theorem QuietP.take {w:World} {v:Value} {e:Ending} {w':World} (h:QuietP w v e w'):∃u,e=.returned u∧QW w w'∧u=v:=⟨v,h.1,h.2,rfl⟩
def without (a b:Nat):Nat:=a ^^^ (a&&&b)
theorem yJ (a b i:Nat):(without a b).testBit i=(a.testBit i&& !b.testBit i):=by
 unfold without
 rw[Nat.testBit_xor,Nat.testBit_and]
 cases a.testBit i<;>cases b.testBit i<;>rfl
theorem zcL {a b:Nat} (ha:a<4294967296):without a b<4294967296:=by
 have h1:a&&&b<2 ^ 32:=Nat.lt_of_le_of_lt Nat.and_le_left (by omega)
 exact Nat.xor_lt_two_pow (n:=32) (by omega) h1
theorem zcS {a b:Nat} (ha:a<4294967296) (hb:b<4294967296):bits .andNot .i64 (a:Int) (b:Int)=((without a b:Nat):Int):=by
 have hx:=zcL (b:=b) ha
 have key:(BitVec.ofInt 64 (a:Int)&&& ~~~BitVec.ofInt 64 (b:Int)).toNat=without a b:=by
  have e1:BitVec.ofInt 64 (a:Int)=BitVec.ofNat 64 a:=BitVec.ofInt_natCast ..
  have e2:BitVec.ofInt 64 (b:Int)=BitVec.ofNat 64 b:=BitVec.ofInt_natCast ..
  apply Nat.eq_of_testBit_eq
  intro i
  rw[yJ,e1,e2,BitVec.testBit_toNat,BitVec.getLsbD_and,BitVec.getLsbD_not,BitVec.getLsbD_ofNat,BitVec.getLsbD_ofNat]
  by_cases hi:i<64
  ·simp[hi]
  ·have:a.testBit i=false:=Nat.testBit_lt_two_pow (Nat.lt_of_lt_of_le ha (Nat.le_trans (by decide:4294967296≤2 ^ 64) (Nat.pow_le_pow_right (by decide) (by omega))))
   simp[hi,this]
 show IntKind.i64.wrap ((BitVec.ofInt 64 (a:Int)&&& ~~~BitVec.ofInt 64 (b:Int)).toNat:Int)=_
 rw[key,IntKind.wrap_i64]
 omega
theorem zdo (a p:Nat):(bits .and .i64 ((a:Int) / 2 ^ p) 1==1)=a.testBit p:=by
 have h1:(BitVec.ofInt 64 1).toNat=2 ^ 1 - 1:=by decide
 have h2:((a:Int) / 2 ^ p)=((a / 2 ^ p:Nat):Int):=by simp
 have key:bits .and .i64 ((a / 2 ^ p:Nat):Int) 1=((a / 2 ^ p % 2:Nat):Int):=by
  show IntKind.i64.wrap ((BitVec.ofInt 64 ((a / 2 ^ p:Nat):Int)&&&BitVec.ofInt 64 1).toNat:Nat)=_
  rw[BitVec.toNat_and,h1,Nat.and_two_pow_sub_one_eq_mod,BitVec.ofInt_natCast,BitVec.toNat_ofNat,IntKind.wrap_i64]
  omega
 rw[h2,key,Nat.testBit_eq_decide_div_mod_eq]
 rcases Nat.mod_two_eq_zero_or_one (a / 2 ^ p) with e | e<;>rw[e]<;>rfl
theorem yH {p:Nat} (hp:p≤5):2 ^ p≤32∧1≤2 ^ p:=by
 have:p=0∨p=1∨p=2∨p=3∨p=4∨p=5:=by omega
 rcases this with rfl | rfl | rfl | rfl | rfl | rfl<;>decide
def gC (n:Int) (f:Nat→Int):List Value:=[.int .i64 n,.int .i64 (f 0),.int .i64 (f 1),.int .i64 (f 2),.int .i64 (f 3),.int .i64 (f 4)]
def gV (n:Int) (f:Nat→Int):Value:=.agg #[.int .i64 n,.int .i64 (f 0),.int .i64 (f 1),.int .i64 (f 2),.int .i64 (f 3),.int .i64 (f 4)]
theorem five {p:Nat} (h:p<5):p=0∨p=1∨p=2∨p=3∨p=4:=by omega
theorem zgM {n:Int} {f:Nat→Int} {p:Nat} (hp:p<5):(gC n f)[1+p]? =some (.int .i64 (f p)):=by
 rcases five hp with rfl | rfl | rfl | rfl | rfl<;>rfl
theorem Row.six {w:World} {g:Nat} {e:TypeId} {n:Int} {f:Nat→Int} (h:Row w g e (gC n f)):
  w.cell? ⟨g,0,none⟩=some (.int .i64 n)∧w.cell? ⟨g,1,none⟩=some (.int .i64 (f 0))∧w.cell? ⟨g,2,none⟩=some (.int .i64 (f 1))∧w.cell? ⟨g,3,none⟩=some (.int .i64 (f 2))∧w.cell? ⟨g,4,none⟩=some (.int .i64 (f 3))∧w.cell? ⟨g,5,none⟩=some (.int .i64 (f 4)):=
 ⟨h.cell rfl,h.cell rfl,h.cell rfl,h.cell rfl,h.cell rfl,h.cell rfl⟩
theorem Row.graph (w:World) (n:Int) (f:Nat→Int):Row (w.alloc (.cells #[.int .i64 n,.int .i64 (f 0),.int .i64 (f 1),.int .i64 (f 2),.int .i64 (f 3),.int .i64 (f 4)] 114)) w.heap.size 114 (gC n f):=zh w (gC n f) _
theorem Row.hear {w:World} {g:Nat} {e:TypeId} {n:Int} {f:Nat→Int} (h:Row w g e (gC n f)) {p:Nat} (hp:p<5):w.cell? ⟨g,1+p,none⟩=some (.int .i64 (f p)):=h.cell (zgM hp)
theorem qE (b:Nat) {p:Nat} (hp:p<5) (W:World):
  (Instr.indexAt 70 (.pointer (some ⟨b,1,none⟩)) (.int .i64 p)).run Tryz.prog W=.ok (.pointer (some ⟨b,1+p,none⟩)) W:=by
 obtain ⟨i,hi,hz1,hz2,hz3⟩:=info_parts zD
 have hA:=Tryz.underlying70
 have hE:Tryz.prog.elem 70=3:=by simp[Program.elem,hA]
 have hL:Tryz.prog.arrayLen 70=5:=by simp[Program.arrayLen,hA]
 rw[run_indexAt_array W _ _ _ _ (by rw[hE,hL];exact hA),hL,hE,if_pos (by omega)]
 simp[sizeOf,typeInfo,hi,hz2,Result.andThen,Addr.add]
structure GOK (n:Nat) (h:Nat→Nat):Prop where
 pos:1≤n
 le:n≤5
 lt:∀p,p<n→h p<2 ^ n
 own:∀p,p<n→(h p).testBit p=true
 zero:∀p,n≤p→p<5→h p=0
theorem GOK.small {n:Nat} {h:Nat→Nat} (H:GOK n h) {p:Nat} (hp:p<5):h p<32:=by
 by_cases hn:p<n
 ·exact Nat.lt_of_lt_of_le (H.lt p hn) (yH H.le).1
 ·rw[H.zero p (by omega) hp];decide
abbrev hV (n:Nat) (h:Nat→Nat):Value:=gV n fun p=>(h p:Int)
theorem xW (w:World) {n:Nat} (hn:n≤5):Calls Tryz.prog 142 #[.int .i64 n] w (QuietP w (.int .i64 ((2 ^ n:Nat):Int))):=by
 go_enter Tryz.func142,Tryz.ntmps142
 go_wp2
 go_loopw [3,4] (fun o i wr=>∃k z:Nat,k≤n∧i=.int .i64 k∧o=.int .i64 z∧Hid (z=2 ^ k)∧QW w wr) (fun _ i _=>n - (intOf i).toNat)
 case atStart=>exact ⟨0,1,Nat.zero_le _,rfl,rfl,zhd rfl,.refl _⟩
 case round=>
  obtain ⟨k,z,hk,rfl,rfl,HZ,hQ⟩:=hrel
  have hz:z≤32:=by rw[HZ.out];exact (yH (by omega)).1
  by_cases hlt:k<n
  ·go_wp2
   go_roundw
   case rel=>exact ⟨k+1,z * 2,by omega,by go_num,by go_num,zhd (by rw[HZ.out,Nat.pow_succ]),hQ⟩
   case measure=>simp[intOf];omega
  ·obtain rfl:k=n:=by omega
   go_wp2
   go_ret
   exact .fin (by rw[HZ.out];rfl) hQ
theorem zaX (w:World) {n:Nat} (hn:n≤5):Calls Tryz.prog 161 #[.int .i64 n] w (QuietP w (.int .i64 ((2 ^ n:Nat) - 1:Int))):=by
 have K:=zhd ((xW w hn).mono fun _ _ h=>h.take)
 have hz:=yH hn
 obtain ⟨z,hzz⟩:∃z,z=2 ^ n:=⟨_,rfl⟩
 rw[←hzz]at K hz ⊢
 clear hzz
 obtain ⟨hz0,hz1⟩:=hz
 go_enter Tryz.func161,Tryz.ntmps161
 go_wp2_with fail
 refine K.out.mono ?_
 rintro _ w1 ⟨_,rfl,hq1,rfl⟩
 go_wp2
 go_ret
 exact .fin rfl hq1
theorem qP (w:World) {a p:Nat} (ha:a<4294967296) (hp:p≤5):Calls Tryz.prog 128 #[.int .i64 a,.int .i64 p] w (QuietP w (.bool (a.testBit p))):=by
 have K:=zhd ((xW w hp).mono fun _ _ h=>h.take)
 have hz:=yH hp
 rw[Nat.testBit_eq_decide_div_mod_eq]
 obtain ⟨z,hzz⟩:∃z,z=2 ^ p:=⟨_,rfl⟩
 rw[←hzz]at K hz ⊢
 clear hzz
 obtain ⟨hz0,hz1⟩:=hz
 have e1:Int.tdiv (a:Int) (z:Int)=((a / z:Nat):Int):=by simp
 have e2:Int.tmod ((a / z:Nat):Int) 2=((a / z % 2:Nat):Int):=by rw[Int.tmod_eq_emod_of_nonneg (Int.natCast_nonneg _)];simp
 have hle:a / z≤a:=Nat.div_le_self _ _
 obtain ⟨y,hy⟩:∃y,y=a / z:=⟨_,rfl⟩
 rw[←hy]at e1 e2 hle ⊢
 clear hy
 have hz3:(z:Int)≠0:=by omega
 go_enter Tryz.func128,Tryz.ntmps128
 go_wp2_with fail
 refine K.out.mono ?_
 rintro _ w1 ⟨_,rfl,hq1,rfl⟩
 go_wp2
 go_ret
 exact .fin (by simp[e1,e2];rw[Bool.eq_iff_iff];simp;omega) hq1
end Go.Proofs.YtfjlhjkjjbiliaaGreat
