/- Part of the proof that the laws answer true for every input. -/
import Derived.WalkKit
import Derived.WalkLawsBesides
import Derived.WalkSpells
import Derived.Lib.Hide
import Derived.Deep.QuietTactic
import Derived.BigQuiet
import Derived.Maps.OwnSet
import Derived.Laws.AppendOwnNone
import Derived.Test.YtjpakklplhabdaaGreatProg
set_option linter.unusedSimpArgs false
set_option linter.unnecessarySimpa false
set_option linter.unusedVariables false
set_option maxRecDepth 100000
set_option maxHeartbeats 40000000
namespace Go.Proofs.YtjpakklplhabdaaGreat
theorem zsa {α : Type _} (l : List α) (i : Nat) (a : α) : l.toArray.setIfInBounds i a = (l.set i a).toArray := List.setIfInBounds_toArray l i a
theorem zsz {α : Type _} {a b : α} {l : List α} : (a :: l).set 0 b = b :: l := List.set_cons_zero
theorem zhd {p : Prop} (h : p) : Go.RowKit.Hid p := Go.Lib.hid h
theorem zss {α : Type _} {a b : α} {l : List α} {n : Nat} : (a :: l).set (n + 1) b = a :: l.set n b := List.set_cons_succ
end Go.Proofs.YtjpakklplhabdaaGreat
namespace Go.Proofs.YtjpakklplhabdaaGreat
open Go.RowKit
def WF (x:Int):Prop:= -9223372036854775808≤x∧x≤9223372036854775807
theorem WF.lit {x:Int} (h:WF x):(Lit.int .i64 x).wf=true:=by
 unfold WF at h
 simp[Lit.wf,IntKind.min,IntKind.max,IntKind.signed,IntKind.bits];omega
theorem WF.of_lit {x:Int} (h:(Lit.int .i64 x).wf=true):WF x:=by
 simp[Lit.wf,IntKind.min,IntKind.max,IntKind.signed,IntKind.bits]at h
 unfold WF;omega
theorem WF.small {x:Int} (h: -1000000000≤x∧x≤1000000000):WF x:=by unfold WF;omega
def nth (l:List Int) (k:Nat):Int:=l.getD k 0
theorem yq {l:List Int} {k:Nat} (h:k<l.length):nth l k=l[k]:=by simp[nth,h]
theorem Zv {l:List Int} {k:Nat} (h:k<l.length):nth l k∈l:=by rw[yq h];exact List.getElem_mem h
theorem YT {l:List Int} {k:Nat} (h:k<l.length):l.take (k+1)=l.take k++[nth l k]:=by rw[yq h];exact (List.take_append_getElem h).symm
theorem get?_nth {l:List Int} {k:Nat} (h:k<l.length):l[k]? =some (nth l k):=by rw[yq h];exact List.getElem?_eq_getElem h
def adr (a:Option Addr) (j:Nat):Addr:=match a with | some a=>⟨a.block,a.off+j,none⟩ | none=>⟨0,j,none⟩
def Ad (S:Nat→Prop) (w:World) (a:Option Addr) (n cap:Nat):Prop:=
 (n=0∧cap=0)∨∃b off,a=some ⟨b,off,none⟩∧b<w.heap.size∧S b
structure Agree (S:Nat→Prop) (w w':World):Prop where
 size:w.heap.size≤w'.heap.size
 block:∀b,S b→b<w.heap.size→w'.heap[b]? =w.heap[b]?
theorem Agree.refl (S:Nat→Prop) (w:World):Agree S w w:=⟨Nat.le_refl _,fun _ _ _=>rfl⟩
theorem Agree.trans {S:Nat→Prop} {a b c:World} (h:Agree S a b) (k:Agree S b c):Agree S a c:=
 ⟨Nat.le_trans h.size k.size,fun i hi hl=>(k.block i hi (Nat.lt_of_lt_of_le hl h.size)).trans (h.block i hi hl)⟩
theorem Agree.of_below {S:Nat→Prop} {B:Nat} {w w':World} (h:Below B w w') (hS:∀b,S b→b<w.heap.size→b<B):Agree S w w':=
 ⟨h.size,fun b hb hl=>h.block b (hS b hb hl)⟩
theorem Agree.of_ext {S:Nat→Prop} {w w':World} (h:Below w.heap.size w w'):Agree S w w':=.of_below h fun _ _ hl=>hl
theorem Agree.of_grown {S:Nat→Prop} {w w':World} {row:Option Nat} (h:w.grownBy w' row) (hS:∀b,S b→row≠some b):Agree S w w':=
 ⟨h.size,fun b hb hl=>h.block b hl (fun e=>hS b hb e.symm)⟩
theorem Agree.mono {S S':Nat→Prop} {w w':World} (h:Agree S w w') (hS:∀b,S' b→S b):Agree S' w w':=⟨h.size,fun b hb hl=>h.block b (hS b hb) hl⟩
theorem Ad.agree {S:Nat→Prop} {w w':World} {a:Option Addr} {n cap:Nat} (h:Ad S w a n cap) (hw:Agree S w w'):Ad S w' a n cap:=by
 rcases h with h | ⟨b,off,rfl,hb,hs⟩
 ·exact .inl h
 ·exact .inr ⟨b,off,rfl,Nat.lt_of_lt_of_le hb hw.size,hs⟩
theorem Ad.mono {S S':Nat→Prop} {w:World} {a:Option Addr} {n cap:Nat} (h:Ad S w a n cap) (hS:∀b,S b→S' b):Ad S' w a n cap:=by
 rcases h with h | ⟨b,off,rfl,hb,hs⟩
 ·exact .inl h
 ·exact .inr ⟨b,off,rfl,hb,hS b hs⟩
theorem Ad.cell {S:Nat→Prop} {w w':World} {a:Option Addr} {n cap j:Nat} (h:Ad S w a n cap) (hw:Agree S w w') (hj:j<n):w'.cell? (adr a j)=w.cell? (adr a j):=by
 rcases h with ⟨rfl,_⟩ | ⟨b,off,rfl,hb,hs⟩
 ·omega
 ·exact World.cell?_of_block (hw.block b hs hb)
theorem zZ {b off j:Nat}:adr (some ⟨b,off,none⟩) j=⟨b,off+j,none⟩:=rfl
theorem zz {P:Program} {S:Nat→Prop} {w:World} {T E:TypeId} {i:TypeInfo} (hT:P.underlying T=some (.slice E)) (hi:P.info? E=some i) (h1:i.size=1) {a:Option Addr} {n cap:Nat} (h:Ad S w a n cap):
  ∀k:Nat,k<n→∀W:World,(Instr.indexAt T (.slice a n cap) (.int .i64 k)).run P W=.ok (.pointer (some (adr a k))) W:=by
 intro k hk W
 rcases h with ⟨rfl,_⟩ | ⟨b,off,rfl,_,_⟩
 ·omega
 ·have hE:P.elem T=E:=by simp[Program.elem,hT]
  rw[run_indexAt_slice W T _ n cap .i64 k (by rw[hE];exact hT),if_pos (by omega),hE]
  simp[sizeOf,typeInfo,hi,h1,Result.andThen,adr,Addr.add]
def Ints (S:Nat→Prop) (w:World) (v:Value) (l:List Int):Prop:=
 ∃a cap,v=.slice a l.length cap∧Ad S w a l.length cap∧l.length≤cap∧cap≤maxLen∧
  (∀j,j<l.length→w.cell? (adr a j)=some (.int .i64 (nth l j)))∧∀x∈l,WF x
theorem Ints.agree {S:Nat→Prop} {w w':World} {v:Value} {l:List Int} (h:Ints S w v l) (hw:Agree S w w'):Ints S w' v l:=by
 obtain ⟨a,cap,rfl,ha,h1,h2,hc,hf⟩:=h
 exact ⟨a,cap,rfl,ha.agree hw,h1,h2,fun j hj=>(ha.cell hw hj).trans (hc j hj),hf⟩
theorem Ints.mono {S S':Nat→Prop} {w:World} {v:Value} {l:List Int} (h:Ints S w v l) (hS:∀b,S b→S' b):Ints S' w v l:=by
 obtain ⟨a,cap,rfl,ha,r⟩:=h
 exact ⟨a,cap,rfl,ha.mono hS,r⟩
theorem Ints.ext {S:Nat→Prop} {w w':World} {v:Value} {l:List Int} (h:Ints S w v l) (hw:Below w.heap.size w w'):Ints S w' v l:=h.agree (.of_ext hw)
theorem Ints.wf {S:Nat→Prop} {w:World} {v:Value} {l:List Int} (h:Ints S w v l):∀x∈l,WF x:=by
 obtain ⟨_,_,_,_,_,_,_,hf⟩:=h;exact hf
theorem Ints.len {S:Nat→Prop} {w:World} {v:Value} {l:List Int} (h:Ints S w v l):l.length≤maxLen:=by
 obtain ⟨_,_,_,_,h1,h2,_⟩:=h;exact Nat.le_trans h1 h2
theorem Ints.nil (S:Nat→Prop) (w:World):Ints S w (.slice none 0 0) []:=
 ⟨none,0,rfl,.inl ⟨rfl,rfl⟩,Nat.le_refl _,by simp[maxLen],fun j hj=>by simp at hj,by simp⟩
theorem zdB {S:Nat→Prop} {w wr:World} {a:Option Addr} {n cap:Nat} {f:Nat→Value} (ha:Ad S w a n cap) (hb:Below w.heap.size w wr) (hc:∀j,j<n→w.cell? (adr a j)=some (f j)):
  ∀j,j<n→wr.cell? (adr a j)=some (f j):=fun j hj=>(ha.cell (.of_ext hb) hj).trans (hc j hj)
theorem Ints.of_own {w:World} {base:Nat} {e:TypeId} {v:Value} {l:List Int} {n:Nat} (h:w.ownsRow base e 1 v n (l.map (Value.int .i64))) (hf:∀x∈l,WF x):Ints (fun b=>base≤b) w v l:=by
 have hn:l.length=n:=by have:=h.1;simpa using this
 subst hn
 have h0:=h
 rcases h.2 with ⟨rfl,hn0⟩ | ⟨g,cap,cur,rfl,hb,hg,hnc,hcm,_⟩
 ·have:l=[]:=by simpa using hn0
  subst this
  exact Ints.nil _ _
 ·refine ⟨_,cap,rfl,.inr ⟨g,0,rfl,(Array.getElem?_eq_some_iff.1 hg).1,hb⟩,hnc,hcm,fun j hj=>?_,hf⟩
  rw[zZ,Nat.zero_add,h0.cellAt j (by omega),List.getElem?_map,get?_nth hj]
  rfl
def Row (w:World) (g:Nat) (e:TypeId) (xs:List Value):Prop:=w.heap[g]? =some (.cells xs.toArray e (0,0))
section
variable {w:World} {g:Nat} {e:TypeId} {xs:List Value}
theorem Row.lt (h:Row w g e xs):g<w.heap.size:=(Array.getElem?_eq_some_iff.1 h).1
theorem Row.cell (h:Row w g e xs) {j:Nat} {u:Value} (hu:xs[j]? =some u):w.cell? ⟨g,j,none⟩=some u:=by
 rw[cell_of_row w g j _ e (0,0) h];simpa using hu
theorem Row.zc (h:Row w g e xs) (j:Nat) {u:Value} (hu:xs[j]? =some u):w.cell? ⟨g,j,none⟩=some u:=h.cell hu
theorem Row.ten {a0 a1 a2 a3 a4 a5 a6 a7 a8 a9:Value} (h:Row w g e [a0,a1,a2,a3,a4,a5,a6,a7,a8,a9]):w.cell? ⟨g,0,none⟩=some a0∧w.cell? ⟨g,1,none⟩=some a1∧w.cell? ⟨g,2,none⟩=some a2∧w.cell? ⟨g,3,none⟩=some a3∧w.cell? ⟨g,4,none⟩=some a4∧w.cell? ⟨g,5,none⟩=some a5∧w.cell? ⟨g,6,none⟩=some a6∧w.cell? ⟨g,7,none⟩=some a7∧w.cell? ⟨g,8,none⟩=some a8∧w.cell? ⟨g,9,none⟩=some a9:=⟨h.zc 0 rfl,h.zc 1 rfl,h.zc 2 rfl,h.zc 3 rfl,h.zc 4 rfl,h.zc 5 rfl,h.zc 6 rfl,h.zc 7 rfl,h.zc 8 rfl,h.zc 9 rfl⟩
theorem Row.free (h:Row w g e xs) (j:Nat):w.frozen? ⟨g,j,none⟩=false:=frozen_of_row w g j _ e h
theorem Row.set (h:Row w g e xs) (j:Nat) (u:Value):Row (w.setCell ⟨g,j,none⟩ u) g e (xs.set j u):=by
 have:=heap_setCell_same w g j _ e u h
 simpa[Row] using this
theorem Row.agree {S:Nat→Prop} {w':World} (h:Row w g e xs) (hw:Agree S w w') (hS:S g):Row w' g e xs:=(hw.block g hS h.lt).trans h
theorem Row.ext {w':World} (h:Row w g e xs) (hw:Below w.heap.size w w'):Row w' g e xs:=h.agree (S:=fun _=>True) (.of_ext hw) trivial
theorem Row.grown {w':World} {row:Option Nat} (h:Row w g e xs) (hw:w.grownBy w' row) (hne:row≠some g):Row w' g e xs:=h.agree (S:=fun b=>b=g) (.of_grown hw fun b hb=>hb▸hne) rfl
theorem Row.alloc (h:Row w g e xs) (o:Obj):Row (w.alloc o) g e xs:=h.grown (World.grownBy_alloc w o none) (by simp)
theorem Row.made (w:World) (z:Value) (n:Nat) (e:TypeId):Row (w.alloc (.cells (madeCells #[z] n) e)) w.heap.size e (List.replicate n z):=by
 unfold Row
 rw[heap_alloc_new,←toList_madeCells_one]
theorem Row.ints {l:List Int} (h:Row w g e (l.map (Value.int .i64))) (hl:l.length≤maxLen) (hf:∀x∈l,WF x):Ints (fun b=>b=g) w (.slice (some ⟨g,0,none⟩) l.length l.length) l:=
 ⟨_,_,rfl,.inr ⟨g,0,rfl,h.lt,rfl⟩,Nat.le_refl _,hl,fun j hj=>by rw[zZ,Nat.zero_add];exact h.cell (by rw[List.getElem?_map,get?_nth hj];rfl),hf⟩
end
theorem Row.of_own {w:World} {base g n size:Nat} {e:TypeId} {xs:List Value} (h:w.ownsRow base e size (.slice (some ⟨g,0,none⟩) n n) n xs):Row w g e xs∧base≤g:=by
 rcases h.2 with ⟨h',_⟩ | ⟨g',cap',cur,h',hb,hg,hnc,hcm,hcs,htake⟩
 ·simp at h'
 ·simp only[Value.slice.injEq,Option.some.injEq,Addr.mk.injEq,and_true,true_and]at h'
  obtain ⟨rfl,rfl⟩:=h'
  refine ⟨?_,hb⟩
  rw[List.take_of_length_le (by simp[hcs])]at htake
  unfold Row
  rw[hg,←htake]
theorem zj (w:World) (g j:Nat) (u:Value):w.grownBy (w.setCell ⟨g,j,none⟩ u) (some g):=
 ⟨rfl,rfl,rfl,by simp,fun k _ hk=>heap_setCell_other w ⟨g,j,none⟩ k u (fun e=>hk (by simp[e]))⟩
theorem zO {S:Nat→Prop} {w w':World} {base:Nat} {e:TypeId} {size:Nat} {v:Value} {n:Nat} {xs:List Value} (h:w.ownsRow base e size v n xs) (hw:Agree S w w') (hS:∀k,v.ownBlock=some k→S k):w'.ownsRow base e size v n xs:=by
 refine ⟨h.1,?_⟩
 rcases h.2 with hn | ⟨g,cap,cur,rfl,hb,hgg,rest⟩
 ·exact .inl hn
 ·exact .inr ⟨g,cap,cur,rfl,hb,(hw.block g (hS g rfl) (Array.getElem?_eq_some_iff.1 hgg).1).trans hgg,rest⟩
theorem qn {w w':World} {base:Nat} {e:TypeId} {size:Nat} {v:Value} {n:Nat} {xs:List Value} (h:w.ownsRow base e size v n xs) (hw:Below w.heap.size w w'):w'.ownsRow base e size v n xs:=
 zO (S:=fun _=>True) h (.of_ext hw) fun _ _=>trivial
theorem yi {P:Program} (w:World) (base:Nat) (t ty e:TypeId) (i:TypeInfo) (z:Value) (size bytes:Nat) (ht:P.underlying t=some (.slice e)) (hi:P.info? e=some i) (hz:i.zero=some z)
  (hsize:i.size=size) (hby:i.bytes=bytes) (hzs:z.cells.size=size) (hsz:0<size)
  (v:Value) (n:Nat) (xs:List Value) (hown:w.ownsRow base e size v n xs)
  (a:Addr) (m c:Nat) (news:List Value) (hl:news.length=m * size) (hnews:∀j u,news[j]? =some u→w.cell? (a.add j)=some u) (h1:∀u∈news,u.oneCell'=true)
  (h63:n+m≤maxLen) (hbytes:(n+m) * bytes≤140737488355328) (hbase:base≤w.heap.size):
  ∃v' w',(Builtin.append_ #[t,t] ty #[v,.slice (some a) m c]).run P w=.ok v' w'∧w'.ownsRow base e size v' (n+m) (xs++news)∧w.grownBy w' v.ownBlock∧
   (∀k,v'.ownBlock=some k→v.ownBlock=some k∨w.heap.size≤k):=by
 obtain ⟨v',w',hr,h2,h3,_⟩:=run_append_own (P:=P) w base t ty e i z size bytes ht hi hz hsize hby hzs hsz v n xs hown a m c news hl hnews h1 h63 hbytes hbase
 refine ⟨v',w',hr,h2,h3,?_⟩
 have key:∀V W,(Builtin.append_ #[t,t] ty #[v,.slice (some a) m c]).run P w=.ok V W→v'=V:=by
  intro V W h;rw[hr]at h;injection h
 intro k hk
 have hmax:n+m≤9223372036854775807:=by simp only[maxLen]at h63;omega
 rcases hown.2 with ⟨rfl,rfl⟩ | ⟨g,cap,cur,rfl,hbg,hg,hnc,hcm,hcs,htake⟩
 ·have hx:xs=[]:=List.eq_nil_of_length_eq_zero (by simpa using hown.1)
  subst hx
  obtain ⟨v2,w2,hr2,h22,_⟩:=run_append_own (P:=P) w w.heap.size t ty e i z size bytes ht hi hz hsize hby hzs hsz (.slice none 0 0) 0 [] (World.ownsRow_nil _ _ _ _) a m c news hl hnews h1 h63 hbytes (Nat.le_refl _)
  have:=key _ _ hr2
  subst this
  exact .inr (h22.lt k hk).1
 ·by_cases hroom:n+m≤cap
  ·subst hsize
   have hfit:n * i.size+news.length≤cur.size:=by rw[hl,hcs,←Nat.add_mul];exact Nat.mul_le_mul_right _ hroom
   have hr2:=run_append_room (P:=P) w t ty e i ht hi g n cap cur hg a m c news hl hnews h1 hroom hfit
   have:=key _ _ hr2
   subst this
   exact .inl hk
  ·subst hsize
   subst hby
   have holds:∀j u,xs[j]? =some u→w.cell? ((⟨g,0,none⟩:Addr).add j)=some u:=hown.cells (g:=g) rfl
   have hr2:=run_append_grow (P:=P) w t ty e i z ht hi hz ⟨g,0,none⟩ n cap xs hown.1 holds a m c news hl hnews (by omega) (by omega) (growslice_fits (by omega) hbytes)
   have:=key _ _ hr2
   subst this
   simp[Value.ownBlock]at hk
   exact .inr (by omega)
theorem qy {P:Program} {w:World} {ops:Array Oper} {rest:List Oper} {o:Oper} {a:Act} {Q:Exit→Act→World→Prop} (hgd:o.guard=none) (s x:Operand) (t:TypeId)
  (ho:o.op=.call {callee:=.builtin .append,args:=#[s,x],argTypes:=#[t,t]}) (e:TypeId) (z:Value) (bytes:Nat) (ht:P.underlying t=some (.slice e))
  (hinfo:(P.info? e).map (fun i=>(i.zero,i.size,i.bytes))=some (some z,1,bytes)) (hz1:z.cells.size=1) (base:Nat) (v:Value) (n:Nat) (xs:List Value) (hs:a.eval s=v) (hown:w.ownsRow base e 1 v n xs)
  (S:Nat→Prop) (ad:Option Addr) (m c:Nat) (news:List Value) (hx:a.eval x=.slice ad m c) (had:Ad S w ad m c) (hl:news.length=m) (hcell:∀j,j<m→w.cell? (adr ad j)=some (news.getD j undef)) (h1:∀u∈news,u.oneCell'=true)
  (hbytes:(n+m) * bytes≤140737488355328) (hn:n+m≤9223372036854775807) (hbase:base≤w.heap.size)
  (h:∀v' w',w'.ownsRow base e 1 v' (n+m) (xs++news)→Below base w w'→(∀S:Nat→Prop,(∀k,v.ownBlock=some k→¬S k)→Agree S w w')→(∀k,v'.ownBlock=some k→v.ownBlock=some k∨w.heap.size≤k)→wpList P ops Q rest (a.put o.dst v') w'):
  wpList P ops Q (o::rest) a w:=by
 obtain ⟨i,hi,hz,hz2,hz3⟩:=info_parts hinfo
 refine wpList_plain hgd fun K hK=>?_
 have hlt:=hown.lt
 have fin:∀x:Addr,ad=some x→(∀j u,news[j]? =some u→w.cell? (x.add j)=some u)→o.wp P a w K Q:=by
  intro x he hx2
  obtain ⟨v',w',hr,h2,h3,h4⟩:=yi (P:=P) w base t o.type e i z 1 bytes ht hi hz hz2 hz3 hz1 (by decide) v n xs hown x m c news (by omega) hx2 h1 (by unfold maxLen;omega) hbytes hbase
  rw[he]at hx
  unfold Oper.wp
  simp[execOp,ho,resolve,invoke,builtin,hs,hx,hr,Result.andThen]
  exact hK _ _ (h v' w' h2 ((Below.refl _ _).grown h3 hbase (fun k hk=>(hlt k hk).1)) (fun S hS=>.of_grown h3 (fun k hk e1=>hS k e1 hk)) h4)
 rcases had with ⟨rfl,rfl⟩ | ⟨b,off,rfl,hb,hS⟩
 ·have hn0:news=[]:=List.eq_nil_of_length_eq_zero hl
  cases ad with
  | some x=>exact fin x rfl (fun j u hj=>by rw[hn0]at hj;simp at hj)
  | none=>
   have hrun:=run_append_owned_none (P:=P) w base t o.type e i 1 ht hi v n xs hown
   unfold Oper.wp
   simp[execOp,ho,resolve,invoke,builtin,hs,hx,hrun,Result.andThen]
   exact hK _ _ (h v w (by rw[hn0];simpa using hown) (.refl _ _) (fun S _=>.refl _ _) (fun k hk=>.inl hk))
 ·refine fin _ rfl (fun j u hj=>?_)
  have hjm:j<m:=by rw[←hl];exact (List.getElem?_eq_some_iff.1 hj).1
  have:=hcell j hjm
  rw[zZ]at this
  rw[Addr.add_lit,this,List.getD_eq_getElem?_getD,hj]
  rfl
theorem Zg {w:World} {base:Nat} {e:TypeId} {size:Nat} {v:Value} {n:Nat} {xs:List Value} (h:w.ownsRow base e size v n xs) (hn:0<n):∃g cap,v=.slice (some ⟨g,0,none⟩) n cap:=by
 rcases h.2 with ⟨_,h0⟩ | ⟨g,cap,cur,rfl,_⟩
 ·omega
 ·exact ⟨g,cap,rfl⟩
theorem yc {P:Program} {w:World} {ops:Array Oper} {rest:List Oper} {o:Oper} {a:Act} {Q:Exit→Act→World→Prop} (hgd:o.guard=none) (s x:Operand) (t:TypeId)
  (ho:o.op=.call {callee:=.builtin .append,args:=#[s,x],argTypes:=#[t,t]}) (e:TypeId) (z:Value) (bytes:Nat) (ht:P.underlying t=some (.slice e))
  (hinfo:(P.info? e).map (fun i=>(i.zero,i.size,i.bytes))=some (some z,1,bytes)) (hz1:z.cells.size=1) (base:Nat) (v:Value) (n:Nat) (xs:List Value) (hs:a.eval s=v) (hown:w.ownsRow base e 1 v n xs)
  (u:Value) (hx:a.eval x=.slice (some ⟨w.heap.size,0,none⟩) 1 1) (h1:u.oneCell'=true) (hbytes:(n+1) * bytes≤140737488355328) (hn:n<9223372036854775807) (hbase:base≤w.heap.size)
  (h:∀g' c' w',w'.ownsRow base e 1 (.slice (some ⟨g',0,none⟩) (n+1) c') (n+1) (xs++[u])→Below base w w'→(∀S:Nat→Prop,(∀k,v.ownBlock=some k→¬S k)→Agree S w w')→(v.ownBlock=some g'∨w.heap.size≤g')→wpList P ops Q rest (a.put o.dst (.slice (some ⟨g',0,none⟩) (n+1) c')) w'):
  wpList P ops Q (o::rest) a (w.alloc (.cells #[u] e)):=by
 have ha:w.grownBy (w.alloc (.cells #[u] e)) none:=World.grownBy_alloc _ _ _
 refine qy hgd s x t ho e z bytes ht hinfo hz1 base v n xs hs (hown.alloc _) (fun _=>True) (some ⟨w.heap.size,0,none⟩) 1 1 [u] hx (.inr ⟨_,_,rfl,by simp,trivial⟩) rfl ?_ ?_ hbytes (by omega) (by simp;omega) ?_
 ·intro j hj
  obtain rfl:j=0:=by omega
  rw[zZ,Nat.zero_add,World.cell?_alloc_new]
  rfl
 ·intro y hy;simp at hy;subst hy;exact h1
 ·intro v' w' ho' hb' hg' hk'
  obtain ⟨g',c',rfl⟩:=Zg ho' (by omega)
  exact h g' c' w' ho' (((Below.refl _ _).alloc hbase _).trans hb') (fun S hS=>(Agree.of_grown ha (by simp)).trans (hg' S hS)) ((hk' g' rfl).imp id (fun h=>by simp at h;omega))
def Post (w:World) (R:World→Value→Prop) (e:Ending) (w':World):Prop:=∃v,e=.returned v∧Below w.heap.size w w'∧R w' v
def QuietP (w:World) (v:Value) (e:Ending) (w':World):Prop:=e=.returned v∧∃n,w'=w.drewN n
theorem QuietP.same {w:World} {v:Value}:QuietP w v (.returned v) w:=⟨rfl,0,rfl⟩
theorem QuietP.of {w:World} {u v:Value} (h:u=v) (n:Nat):QuietP w v (.returned u) (w.drewN n):=⟨by rw[h],n,rfl⟩
theorem QuietP.post {w:World} {v:Value} {e:Ending} {w':World} (h:QuietP w v e w'):Post w (fun _ r=>r=v) e w':=by
 obtain ⟨rfl,n,rfl⟩:=h
 exact ⟨v,rfl,⟨rfl,rfl,rfl,Nat.le_refl _,fun _ _=>rfl⟩,rfl⟩
theorem zr {P:Program} {f:FuncId} {args:Array Value} {w:World} {n:Nat} {v:Value} (h:Calls P f args (w.drewN n) (QuietP (w.drewN n) v)):
  Calls P f args (w.drewN n) fun e w''=>e=.returned v∧∃m,w''=w.drewN m:=
 Calls.quiet_of (h.mono fun _ _ h=>h)
theorem Post.mk {w w':World} {R:World→Value→Prop} {v:Value} (hb:Below w.heap.size w w') (hr:R w' v):Post w R (.returned v) w':=⟨v,rfl,hb,hr⟩
theorem Post.same {w:World} {R:World→Value→Prop} {v:Value} (hr:R w v):Post w R (.returned v) w:=⟨v,rfl,.refl _ _,hr⟩
theorem zv {a b:Bool} (h:a=b):Value.bool a=Value.bool b:=by rw[h]
theorem zi {a b:Int} (h:a=b):Value.int .i64 a=Value.int .i64 b:=by rw[h]
theorem zq (S:Nat→Prop) (w:World) (n:Nat):Agree S w (w.drewN n):=⟨Nat.le_refl _,fun _ _ _=>rfl⟩
theorem Ints.drewN {S:Nat→Prop} {w:World} {v:Value} {l:List Int} (h:Ints S w v l) (n:Nat):Ints S (w.drewN n) v l:=h.agree (zq S w n)
theorem za {a b c:World} (h:Below a.heap.size a b) (k:Below b.heap.size b c):Below a.heap.size a c:=h.trans (k.mono h.size)
theorem zh (B:Nat) (w:World) (n:Nat):Below B w (w.drewN n):=⟨rfl,rfl,rfl,Nat.le_refl _,fun _ _=>rfl⟩
theorem zx {a b:World} (h:Below a.heap.size a b) (n:Nat):Below a.heap.size a (b.drewN n):=h.trans (zh _ _ _)
end Go.Proofs.YtjpakklplhabdaaGreat
