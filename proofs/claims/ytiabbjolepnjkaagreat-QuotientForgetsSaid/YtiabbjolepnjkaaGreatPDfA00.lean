/- Part of the proof that the laws answer true for every input. -/
import Derived.WalkKit
import Derived.WalkLawsBesides
import Derived.WalkSpells
import Derived.Lib.Hide
import Derived.Deep.QuietTactic
import Derived.BigQuiet
import Derived.Maps.OwnSet
import Derived.Laws.AppendOwnNone
import Derived.Test.YtiabbjolepnjkaaGreatProg
import Derived.OrdersHeld
import Derived.Deep.RegionHeld
import Derived.Laws.OwnMore
set_option linter.unusedSimpArgs false
set_option linter.unnecessarySimpa false
set_option linter.unusedVariables false
set_option maxRecDepth 100000
set_option maxHeartbeats 40000000
namespace Go.Proofs.YtiabbjolepnjkaaGreat
theorem zsa {α : Type _} (l : List α) (i : Nat) (a : α) : l.toArray.setIfInBounds i a = (l.set i a).toArray := List.setIfInBounds_toArray l i a
theorem zsz {α : Type _} {a b : α} {l : List α} : (a :: l).set 0 b = b :: l := List.set_cons_zero
theorem zhd {p : Prop} (h : p) : Go.RowKit.Hid p := Go.Lib.hid h
theorem zss {α : Type _} {a b : α} {l : List α} {n : Nat} : (a :: l).set (n + 1) b = a :: l.set n b := List.set_cons_succ
theorem zn {α : Sort _} (a : α) : ∃ x, x = a := ⟨a, rfl⟩
instance : Coe Int Go.Value := ⟨fun n => .int .i64 n⟩
instance : Coe Nat Go.Value := ⟨fun n => .int .i64 (n : Int)⟩
end Go.Proofs.YtiabbjolepnjkaaGreat
namespace Go.Proofs.YtiabbjolepnjkaaGreat
open Go.RowKit
def WF (x:Int):Prop:= -9223372036854775808≤x∧x≤9223372036854775807
theorem WF.lit {x:Int} (h:WF x):(Lit.int .i64 x).wf=true:=by
 unfold WF at h;simp[Lit.wf,IntKind.min,IntKind.max,IntKind.signed,IntKind.bits];omega
theorem WF.of_lit {x:Int} (h:(Lit.int .i64 x).wf=true):WF x:=by
 simp[Lit.wf,IntKind.min,IntKind.max,IntKind.signed,IntKind.bits]at h;unfold WF;omega
theorem WF.small {x:Int} (h: -1000000000≤x∧x≤1000000000):WF x:=by unfold WF;omega
def nth (l:List Int) (k:Nat):Int:=l.getD k 0
theorem yM {l:List Int} {k:Nat} (h:k<l.length):nth l k=l[k]:=by simp[nth,h]
theorem xN {l:List Int} {k:Nat} (h:k<l.length):nth l k∈l:=by rw[yM h];exact List.getElem_mem h
theorem Z2 {l:List Int} {k:Nat} (h:k<l.length):l.drop k=nth l k::l.drop (k+1):=by rw[yM h];exact List.drop_eq_getElem_cons h
theorem qO {l:List Int} {k:Nat} (h:k<l.length):l.take (k+1)=l.take k++[nth l k]:=by rw[yM h];exact (List.take_append_getElem h).symm
theorem get?_nth {l:List Int} {k:Nat} (h:k<l.length):l[k]? =some (nth l k):=by rw[yM h];exact List.getElem?_eq_getElem h
def adr (a:Option Addr) (j:Nat):Addr:=match a with | some a=>⟨a.block,a.off+j,none⟩ | none=>⟨0,j,none⟩
def Ad (S:Nat→Prop) (w:World) (a:Option Addr) (n cap:Nat):Prop:=
 (n=0∧cap=0)∨∃b off,a=some ⟨b,off,none⟩∧b<w.heap.size∧S b
structure Agree (S:Nat→Prop) (w w':World):Prop where
 size:w.heap.size≤w'.heap.size
 block:∀b,S b→b<w.heap.size→w'.heap[b]? =w.heap[b]?
theorem Agree.refl (S:Nat→Prop) (w:World):Agree S w w:=⟨Nat.le_refl _,fun _ _ _=>rfl⟩
theorem Agree.trans {S:Nat→Prop} {a b c:World} (h:Agree S a b) (k:Agree S b c):Agree S a c:=
 ⟨Nat.le_trans h.size k.size,fun i hi hl=>(k.block i hi (Nat.lt_of_lt_of_le hl h.size)).trans (h.block i hi hl)⟩
theorem Agree.of_below {S:Nat→Prop} {B:Nat} {w w':World} (h:Below B w w') (hS:∀b,S b→b<w.heap.size→b<B):Agree S w w':=
 ⟨h.size,fun b hb hl=>h.block b (hS b hb hl)⟩
theorem Agree.of_ext {S:Nat→Prop} {w w':World} (h:Below w.heap.size w w'):Agree S w w':=.of_below h fun _ _ hl=>hl
theorem Agree.of_grown {S:Nat→Prop} {w w':World} {row:Option Nat} (h:w.grownBy w' row) (hS:∀b,S b→row≠some b):Agree S w w':=
 ⟨h.size,fun b hb hl=>h.block b hl (fun e=>hS b hb e.symm)⟩
theorem Agree.mono {S S':Nat→Prop} {w w':World} (h:Agree S w w') (hS:∀b,S' b→S b):Agree S' w w':=⟨h.size,fun b hb hl=>h.block b (hS b hb) hl⟩
theorem Ad.agree {S:Nat→Prop} {w w':World} {a:Option Addr} {n cap:Nat} (h:Ad S w a n cap) (hw:Agree S w w'):Ad S w' a n cap:=by
 rcases h with h | ⟨b,off,rfl,hb,hs⟩
 ·exact .inl h
 ·exact .inr ⟨b,off,rfl,Nat.lt_of_lt_of_le hb hw.size,hs⟩
theorem Ad.mono {S S':Nat→Prop} {w:World} {a:Option Addr} {n cap:Nat} (h:Ad S w a n cap) (hS:∀b,S b→S' b):Ad S' w a n cap:=by
 rcases h with h | ⟨b,off,rfl,hb,hs⟩
 ·exact .inl h
 ·exact .inr ⟨b,off,rfl,hb,hS b hs⟩
theorem Ad.cell {S:Nat→Prop} {w w':World} {a:Option Addr} {n cap j:Nat} (h:Ad S w a n cap) (hw:Agree S w w') (hj:j<n):w'.cell? (adr a j)=w.cell? (adr a j):=by
 rcases h with ⟨rfl,_⟩ | ⟨b,off,rfl,hb,hs⟩
 ·omega
 ·exact World.cell?_of_block (hw.block b hs hb)
theorem yi {b off j:Nat}:adr (some ⟨b,off,none⟩) j=⟨b,off+j,none⟩:=rfl
theorem zL {P:Program} {S:Nat→Prop} {w:World} {T E:TypeId} {i:TypeInfo} (hT:P.underlying T=some (.slice E)) (hi:P.info? E=some i) (h1:i.size=1) {a:Option Addr} {n cap:Nat} (h:Ad S w a n cap):
  ∀k:Nat,k<n→∀W:World,(Instr.indexAt T (.slice a n cap) (.int .i64 k)).run P W=.ok (.pointer (some (adr a k))) W:=by
 intro k hk W;rcases h with ⟨rfl,_⟩ | ⟨b,off,rfl,_,_⟩
 ·omega
 ·have hE:P.elem T=E:=by simp[Program.elem,hT]
  rw[run_indexAt_slice W T _ n cap .i64 k (by rw[hE];exact hT),if_pos (by omega),hE];simp[sizeOf,typeInfo,hi,h1,Result.andThen,adr,Addr.add]
def Ints (S:Nat→Prop) (w:World) (v:Value) (l:List Int):Prop:=
 ∃a cap,v=.slice a l.length cap∧Ad S w a l.length cap∧l.length≤cap∧cap≤maxLen∧
  (∀j,j<l.length→w.cell? (adr a j)=some (.int .i64 (nth l j)))∧∀x∈l,WF x
theorem Ints.agree {S:Nat→Prop} {w w':World} {v:Value} {l:List Int} (h:Ints S w v l) (hw:Agree S w w'):Ints S w' v l:=by
 obtain ⟨a,cap,rfl,ha,h1,h2,hc,hf⟩:=h;exact ⟨a,cap,rfl,ha.agree hw,h1,h2,fun j hj=>(ha.cell hw hj).trans (hc j hj),hf⟩
theorem Ints.mono {S S':Nat→Prop} {w:World} {v:Value} {l:List Int} (h:Ints S w v l) (hS:∀b,S b→S' b):Ints S' w v l:=by
 obtain ⟨a,cap,rfl,ha,r⟩:=h;exact ⟨a,cap,rfl,ha.mono hS,r⟩
theorem Ints.ext {S:Nat→Prop} {w w':World} {v:Value} {l:List Int} (h:Ints S w v l) (hw:Below w.heap.size w w'):Ints S w' v l:=h.agree (.of_ext hw)
theorem Ints.wf {S:Nat→Prop} {w:World} {v:Value} {l:List Int} (h:Ints S w v l):∀x∈l,WF x:=by
 obtain ⟨_,_,_,_,_,_,_,hf⟩:=h;exact hf
theorem Ints.len {S:Nat→Prop} {w:World} {v:Value} {l:List Int} (h:Ints S w v l):l.length≤maxLen:=by
 obtain ⟨_,_,_,_,h1,h2,_⟩:=h;exact Nat.le_trans h1 h2
theorem Ints.nil (S:Nat→Prop) (w:World):Ints S w (.slice none 0 0) []:=
 ⟨none,0,rfl,.inl ⟨rfl,rfl⟩,Nat.le_refl _,by simp[maxLen],fun j hj=>by simp at hj,by simp⟩
theorem Yb {S:Nat→Prop} {w wr:World} {a:Option Addr} {n cap:Nat} {f:Nat→Value} (ha:Ad S w a n cap) (hb:Below w.heap.size w wr) (hc:∀j,j<n→w.cell? (adr a j)=some (f j)):
  ∀j,j<n→wr.cell? (adr a j)=some (f j):=fun j hj=>(ha.cell (.of_ext hb) hj).trans (hc j hj)
theorem Ints.of_own {w:World} {base:Nat} {e:TypeId} {v:Value} {l:List Int} {n:Nat} (h:w.ownsRow base e 1 v n (l.map (Value.int .i64))) (hf:∀x∈l,WF x):Ints (fun b=>base≤b) w v l:=by
 have hn:l.length=n:=by have:=h.1;simpa using this
 subst hn;have h0:=h;rcases h.2 with ⟨rfl,hn0⟩ | ⟨g,cap,cur,rfl,hb,hg,hnc,hcm,_⟩
 ·have:l=[]:=by simpa using hn0
  subst this;exact Ints.nil _ _
 ·refine ⟨_,cap,rfl,.inr ⟨g,0,rfl,(Array.getElem?_eq_some_iff.1 hg).1,hb⟩,hnc,hcm,fun j hj=>?_,hf⟩;rw[yi,Nat.zero_add,h0.cellAt j (by omega),List.getElem?_map,get?_nth hj];rfl
def Row (w:World) (g:Nat) (e:TypeId) (xs:List Value):Prop:=w.heap[g]? =some (.cells xs.toArray e (0,0))
section
variable {w:World} {g:Nat} {e:TypeId} {xs:List Value}
theorem Row.lt (h:Row w g e xs):g<w.heap.size:=(Array.getElem?_eq_some_iff.1 h).1
theorem Row.cell (h:Row w g e xs) {j:Nat} {u:Value} (hu:xs[j]? =some u):w.cell? ⟨g,j,none⟩=some u:=by
 rw[cell_of_row w g j _ e (0,0) h];simpa using hu
theorem Row.zc (h:Row w g e xs) (j:Nat) {u:Value} (hu:xs[j]? =some u):w.cell? ⟨g,j,none⟩=some u:=h.cell hu
theorem Row.ten {a0 a1 a2 a3 a4 a5 a6 a7 a8 a9:Value} (h:Row w g e [a0,a1,a2,a3,a4,a5,a6,a7,a8,a9]):w.cell? ⟨g,0,none⟩=some a0∧w.cell? ⟨g,1,none⟩=some a1∧w.cell? ⟨g,2,none⟩=some a2∧w.cell? ⟨g,3,none⟩=some a3∧w.cell? ⟨g,4,none⟩=some a4∧w.cell? ⟨g,5,none⟩=some a5∧w.cell? ⟨g,6,none⟩=some a6∧w.cell? ⟨g,7,none⟩=some a7∧w.cell? ⟨g,8,none⟩=some a8∧w.cell? ⟨g,9,none⟩=some a9:=⟨h.zc 0 rfl,h.zc 1 rfl,h.zc 2 rfl,h.zc 3 rfl,h.zc 4 rfl,h.zc 5 rfl,h.zc 6 rfl,h.zc 7 rfl,h.zc 8 rfl,h.zc 9 rfl⟩
theorem Row.free (h:Row w g e xs) (j:Nat):w.frozen? ⟨g,j,none⟩=false:=frozen_of_row w g j _ e h
theorem Row.set (h:Row w g e xs) (j:Nat) (u:Value):Row (w.setCell ⟨g,j,none⟩ u) g e (xs.set j u):=by
 have:=heap_setCell_same w g j _ e u h;simpa[Row] using this
theorem Row.agree {S:Nat→Prop} {w':World} (h:Row w g e xs) (hw:Agree S w w') (hS:S g):Row w' g e xs:=(hw.block g hS h.lt).trans h
theorem Row.ext {w':World} (h:Row w g e xs) (hw:Below w.heap.size w w'):Row w' g e xs:=h.agree (S:=fun _=>True) (.of_ext hw) trivial
theorem Row.grown {w':World} {row:Option Nat} (h:Row w g e xs) (hw:w.grownBy w' row) (hne:row≠some g):Row w' g e xs:=h.agree (S:=fun b=>b=g) (.of_grown hw fun b hb=>hb▸hne) rfl
theorem Row.alloc (h:Row w g e xs) (o:Obj):Row (w.alloc o) g e xs:=h.grown (World.grownBy_alloc w o none) (by simp)
theorem Row.made (w:World) (z:Value) (n:Nat) (e:TypeId):Row (w.alloc (.cells (madeCells #[z] n) e)) w.heap.size e (List.replicate n z):=by
 unfold Row;rw[heap_alloc_new,←toList_madeCells_one]
theorem Row.ints {l:List Int} (h:Row w g e (l.map (Value.int .i64))) (hl:l.length≤maxLen) (hf:∀x∈l,WF x):Ints (fun b=>b=g) w (.slice (some ⟨g,0,none⟩) l.length l.length) l:=
 ⟨_,_,rfl,.inr ⟨g,0,rfl,h.lt,rfl⟩,Nat.le_refl _,hl,fun j hj=>by rw[yi,Nat.zero_add];exact h.cell (by rw[List.getElem?_map,get?_nth hj];rfl),hf⟩
end
theorem Row.of_own {w:World} {base g n size:Nat} {e:TypeId} {xs:List Value} (h:w.ownsRow base e size (.slice (some ⟨g,0,none⟩) n n) n xs):Row w g e xs∧base≤g:=by
 rcases h.2 with ⟨h',_⟩ | ⟨g',cap',cur,h',hb,hg,hnc,hcm,hcs,htake⟩
 ·simp at h'
 ·simp only[Value.slice.injEq,Option.some.injEq,Addr.mk.injEq,and_true,true_and]at h';obtain ⟨rfl,rfl⟩:=h';refine ⟨?_,hb⟩;rw[List.take_of_length_le (by simp[hcs])]at htake;unfold Row;rw[hg,←htake]
theorem zj (w:World) (g j:Nat) (u:Value):w.grownBy (w.setCell ⟨g,j,none⟩ u) (some g):=
 ⟨rfl,rfl,rfl,by simp,fun k _ hk=>heap_setCell_other w ⟨g,j,none⟩ k u (fun e=>hk (by simp[e]))⟩
theorem zJ {S:Nat→Prop} {w w':World} {base:Nat} {e:TypeId} {size:Nat} {v:Value} {n:Nat} {xs:List Value} (h:w.ownsRow base e size v n xs) (hw:Agree S w w') (hS:∀k,v.ownBlock=some k→S k):w'.ownsRow base e size v n xs:=by
 refine ⟨h.1,?_⟩;rcases h.2 with hn | ⟨g,cap,cur,rfl,hb,hgg,rest⟩
 ·exact .inl hn
 ·exact .inr ⟨g,cap,cur,rfl,hb,(hw.block g (hS g rfl) (Array.getElem?_eq_some_iff.1 hgg).1).trans hgg,rest⟩
theorem yd {w w':World} {base:Nat} {e:TypeId} {size:Nat} {v:Value} {n:Nat} {xs:List Value} (h:w.ownsRow base e size v n xs) (hw:Below w.heap.size w w'):w'.ownsRow base e size v n xs:=
 zJ (S:=fun _=>True) h (.of_ext hw) fun _ _=>trivial
theorem yr {P:Program} (w:World) (base:Nat) (t ty e:TypeId) (i:TypeInfo) (z:Value) (size bytes:Nat) (ht:P.underlying t=some (.slice e)) (hi:P.info? e=some i) (hz:i.zero=some z)
  (hsize:i.size=size) (hby:i.bytes=bytes) (hzs:z.cells.size=size) (hsz:0<size)
  (v:Value) (n:Nat) (xs:List Value) (hown:w.ownsRow base e size v n xs)
  (a:Addr) (m c:Nat) (news:List Value) (hl:news.length=m * size) (hnews:∀j u,news[j]? =some u→w.cell? (a.add j)=some u) (h1:∀u∈news,u.oneCell'=true)
  (h63:n+m≤maxLen) (hbytes:(n+m) * bytes≤140737488355328) (hbase:base≤w.heap.size):
  ∃v' w',(Builtin.append_ #[t,t] ty #[v,.slice (some a) m c]).run P w=.ok v' w'∧w'.ownsRow base e size v' (n+m) (xs++news)∧w.grownBy w' v.ownBlock∧
   (∀k,v'.ownBlock=some k→v.ownBlock=some k∨w.heap.size≤k):=by
 obtain ⟨v',w',hr,h2,h3,_⟩:=run_append_own (P:=P) w base t ty e i z size bytes ht hi hz hsize hby hzs hsz v n xs hown a m c news hl hnews h1 h63 hbytes hbase;refine ⟨v',w',hr,h2,h3,?_⟩;have key:∀V W,(Builtin.append_ #[t,t] ty #[v,.slice (some a) m c]).run P w=.ok V W→v'=V:=by
  intro V W h;rw[hr]at h;injection h
 intro k hk;have hmax:n+m≤9223372036854775807:=by simp only[maxLen]at h63;omega
 rcases hown.2 with ⟨rfl,rfl⟩ | ⟨g,cap,cur,rfl,hbg,hg,hnc,hcm,hcs,htake⟩
 ·have hx:xs=[]:=List.eq_nil_of_length_eq_zero (by simpa using hown.1);subst hx;obtain ⟨v2,w2,hr2,h22,_⟩:=run_append_own (P:=P) w w.heap.size t ty e i z size bytes ht hi hz hsize hby hzs hsz (.slice none 0 0) 0 [] (World.ownsRow_nil _ _ _ _) a m c news hl hnews h1 h63 hbytes (Nat.le_refl _);have:=key _ _ hr2;subst this;exact .inr (h22.lt k hk).1
 ·by_cases hroom:n+m≤cap
  ·subst hsize;have hfit:n * i.size+news.length≤cur.size:=by rw[hl,hcs,←Nat.add_mul];exact Nat.mul_le_mul_right _ hroom
   have hr2:=run_append_room (P:=P) w t ty e i ht hi g n cap cur hg a m c news hl hnews h1 hroom hfit;have:=key _ _ hr2;subst this;exact .inl hk
  ·subst hsize;subst hby
   have holds:∀j u,xs[j]? =some u→w.cell? ((⟨g,0,none⟩:Addr).add j)=some u:=hown.cells (g:=g) rfl;have hr2:=run_append_grow (P:=P) w t ty e i z ht hi hz ⟨g,0,none⟩ n cap xs hown.1 holds a m c news hl hnews (by omega) (by omega) (growslice_fits (by omega) hbytes);have:=key _ _ hr2;subst this;simp[Value.ownBlock]at hk;exact .inr (by omega)
theorem xQ {P:Program} {w:World} {ops:Array Oper} {rest:List Oper} {o:Oper} {a:Act} {Q:Exit→Act→World→Prop} (hgd:o.guard=none) (s x:Operand) (t:TypeId)
  (ho:o.op=.call {callee:=.builtin .append,args:=#[s,x],argTypes:=#[t,t]}) (e:TypeId) (z:Value) (bytes:Nat) (ht:P.underlying t=some (.slice e))
  (hinfo:(P.info? e).map (fun i=>(i.zero,i.size,i.bytes))=some (some z,1,bytes)) (hz1:z.cells.size=1) (base:Nat) (v:Value) (n:Nat) (xs:List Value) (hs:a.eval s=v) (hown:w.ownsRow base e 1 v n xs)
  (S:Nat→Prop) (ad:Option Addr) (m c:Nat) (news:List Value) (hx:a.eval x=.slice ad m c) (had:Ad S w ad m c) (hl:news.length=m) (hcell:∀j,j<m→w.cell? (adr ad j)=some (news.getD j undef)) (h1:∀u∈news,u.oneCell'=true)
  (hbytes:(n+m) * bytes≤140737488355328) (hn:n+m≤9223372036854775807) (hbase:base≤w.heap.size)
  (h:∀v' w',w'.ownsRow base e 1 v' (n+m) (xs++news)→Below base w w'→(∀S:Nat→Prop,(∀k,v.ownBlock=some k→¬S k)→Agree S w w')→(∀k,v'.ownBlock=some k→v.ownBlock=some k∨w.heap.size≤k)→wpList P ops Q rest (a.put o.dst v') w'):
  wpList P ops Q (o::rest) a w:=by
 obtain ⟨i,hi,hz,hz2,hz3⟩:=info_parts hinfo;refine wpList_plain hgd fun K hK=>?_;have hlt:=hown.lt;have fin:∀x:Addr,ad=some x→(∀j u,news[j]? =some u→w.cell? (x.add j)=some u)→o.wp P a w K Q:=by
  intro x he hx2;obtain ⟨v',w',hr,h2,h3,h4⟩:=yr (P:=P) w base t o.type e i z 1 bytes ht hi hz hz2 hz3 hz1 (by decide) v n xs hown x m c news (by omega) hx2 h1 (by unfold maxLen;omega) hbytes hbase;rw[he]at hx;unfold Oper.wp;simp[execOp,ho,resolve,invoke,builtin,hs,hx,hr,Result.andThen];exact hK _ _ (h v' w' h2 ((Below.refl _ _).grown h3 hbase (fun k hk=>(hlt k hk).1)) (fun S hS=>.of_grown h3 (fun k hk e1=>hS k e1 hk)) h4)
 rcases had with ⟨rfl,rfl⟩ | ⟨b,off,rfl,hb,hS⟩
 ·have hn0:news=[]:=List.eq_nil_of_length_eq_zero hl;cases ad with
  | some x=>exact fin x rfl (fun j u hj=>by rw[hn0]at hj;simp at hj)
  | none=>
   have hrun:=run_append_owned_none (P:=P) w base t o.type e i 1 ht hi v n xs hown;unfold Oper.wp;simp[execOp,ho,resolve,invoke,builtin,hs,hx,hrun,Result.andThen];exact hK _ _ (h v w (by rw[hn0];simpa using hown) (.refl _ _) (fun S _=>.refl _ _) (fun k hk=>.inl hk))
 ·refine fin _ rfl (fun j u hj=>?_);have hjm:j<m:=by rw[←hl];exact (List.getElem?_eq_some_iff.1 hj).1
  have:=hcell j hjm;rw[yi]at this;rw[Addr.add_lit,this,List.getD_eq_getElem?_getD,hj];rfl
theorem Zk {w:World} {base:Nat} {e:TypeId} {size:Nat} {v:Value} {n:Nat} {xs:List Value} (h:w.ownsRow base e size v n xs) (hn:0<n):∃g cap,v=.slice (some ⟨g,0,none⟩) n cap:=by
 rcases h.2 with ⟨_,h0⟩ | ⟨g,cap,cur,rfl,_⟩
 ·omega
 ·exact ⟨g,cap,rfl⟩
theorem zQ {P:Program} {w:World} {ops:Array Oper} {rest:List Oper} {o:Oper} {a:Act} {Q:Exit→Act→World→Prop} (hgd:o.guard=none) (s x:Operand) (t:TypeId)
  (ho:o.op=.call {callee:=.builtin .append,args:=#[s,x],argTypes:=#[t,t]}) (e:TypeId) (z:Value) (bytes:Nat) (ht:P.underlying t=some (.slice e))
  (hinfo:(P.info? e).map (fun i=>(i.zero,i.size,i.bytes))=some (some z,1,bytes)) (hz1:z.cells.size=1) (base:Nat) (v:Value) (n:Nat) (xs:List Value) (hs:a.eval s=v) (hown:w.ownsRow base e 1 v n xs)
  (u:Value) (hx:a.eval x=.slice (some ⟨w.heap.size,0,none⟩) 1 1) (h1:u.oneCell'=true) (hbytes:(n+1) * bytes≤140737488355328) (hn:n<9223372036854775807) (hbase:base≤w.heap.size)
  (h:∀g' c' w',w'.ownsRow base e 1 (.slice (some ⟨g',0,none⟩) (n+1) c') (n+1) (xs++[u])→Below base w w'→(∀S:Nat→Prop,(∀k,v.ownBlock=some k→¬S k)→Agree S w w')→(v.ownBlock=some g'∨w.heap.size≤g')→wpList P ops Q rest (a.put o.dst (.slice (some ⟨g',0,none⟩) (n+1) c')) w'):
  wpList P ops Q (o::rest) a (w.alloc (.cells #[u] e)):=by
 have ha:w.grownBy (w.alloc (.cells #[u] e)) none:=World.grownBy_alloc _ _ _;refine xQ hgd s x t ho e z bytes ht hinfo hz1 base v n xs hs (hown.alloc _) (fun _=>True) (some ⟨w.heap.size,0,none⟩) 1 1 [u] hx (.inr ⟨_,_,rfl,by simp,trivial⟩) rfl ?_ ?_ hbytes (by omega) (by simp;omega) ?_
 ·intro j hj;obtain rfl:j=0:=by omega
  rw[yi,Nat.zero_add,World.cell?_alloc_new];rfl
 ·intro y hy;simp at hy;subst hy;exact h1
 ·intro v' w' ho' hb' hg' hk';obtain ⟨g',c',rfl⟩:=Zk ho' (by omega);exact h g' c' w' ho' (((Below.refl _ _).alloc hbase _).trans hb') (fun S hS=>(Agree.of_grown ha (by simp)).trans (hg' S hS)) ((hk' g' rfl).imp id (fun h=>by simp at h;omega))
def Post (w:World) (R:World→Value→Prop) (e:Ending) (w':World):Prop:=∃v,e=.returned v∧Below w.heap.size w w'∧R w' v
def QuietP (w:World) (v:Value) (e:Ending) (w':World):Prop:=e=.returned v∧∃n,w'=w.drewN n
theorem QuietP.same {w:World} {v:Value}:QuietP w v (.returned v) w:=⟨rfl,0,rfl⟩
theorem QuietP.of {w:World} {u v:Value} (h:u=v) (n:Nat):QuietP w v (.returned u) (w.drewN n):=⟨by rw[h],n,rfl⟩
theorem QuietP.post {w:World} {v:Value} {e:Ending} {w':World} (h:QuietP w v e w'):Post w (fun _ r=>r=v) e w':=by
 obtain ⟨rfl,n,rfl⟩:=h;exact ⟨v,rfl,⟨rfl,rfl,rfl,Nat.le_refl _,fun _ _=>rfl⟩,rfl⟩
theorem zG {P:Program} {f:FuncId} {args:Array Value} {w:World} {n:Nat} {v:Value} (h:Calls P f args (w.drewN n) (QuietP (w.drewN n) v)):
  Calls P f args (w.drewN n) fun e w''=>e=.returned v∧∃m,w''=w.drewN m:=
 Calls.quiet_of (h.mono fun _ _ h=>h)
theorem Post.mk {w w':World} {R:World→Value→Prop} {v:Value} (hb:Below w.heap.size w w') (hr:R w' v):Post w R (.returned v) w':=⟨v,rfl,hb,hr⟩
theorem Post.same {w:World} {R:World→Value→Prop} {v:Value} (hr:R w v):Post w R (.returned v) w:=⟨v,rfl,.refl _ _,hr⟩
theorem zE {a b:Bool} (h:a=b):Value.bool a=Value.bool b:=by rw[h]
theorem zr {a b:Int} (h:a=b):Value.int .i64 a=Value.int .i64 b:=by rw[h]
theorem zC (S:Nat→Prop) (w:World) (n:Nat):Agree S w (w.drewN n):=⟨Nat.le_refl _,fun _ _ _=>rfl⟩
theorem Ints.drewN {S:Nat→Prop} {w:World} {v:Value} {l:List Int} (h:Ints S w v l) (n:Nat):Ints S (w.drewN n) v l:=h.agree (zC S w n)
theorem za {a b c:World} (h:Below a.heap.size a b) (k:Below b.heap.size b c):Below a.heap.size a c:=h.trans (k.mono h.size)
theorem zb (B:Nat) (w:World) (n:Nat):Below B w (w.drewN n):=⟨rfl,rfl,rfl,Nat.le_refl _,fun _ _=>rfl⟩
theorem zv {a b:World} (h:Below a.heap.size a b) (n:Nat):Below a.heap.size a (b.drewN n):=h.trans (zb _ _ _)
end Go.Proofs.YtiabbjolepnjkaaGreat
namespace Go.Proofs.YtiabbjolepnjkaaGreat
open Go.RowKit
def nthL (ll:List (List Int)) (k:Nat):List Int:=ll.getD k []
def nthV (vs:List Value) (k:Nat):Value:=vs.getD k undef
theorem ya {l:List (List Int)} {k:Nat} (h:k<l.length):nthL l k=l[k]:=by simp[nthL,h]
theorem yh {l:List (List Int)} {k:Nat} (h:k<l.length):nthL l k∈l:=by rw[ya h];exact List.getElem_mem h
theorem yW {l:List (List Int)} {k:Nat} (h:k<l.length):l.take (k+1)=l.take k++[nthL l k]:=by rw[ya h];exact (List.take_append_getElem h).symm
theorem za8 {l:List Value} {k:Nat} (h:k<l.length):l[k]? =some (nthV l k):=by simp[nthV,h]
def Lists (S:Nat→Prop) (w:World) (v:Value) (ll:List (List Int)):Prop:=
 ∃a cap,v=.slice a ll.length cap∧Ad S w a ll.length cap∧ll.length≤cap∧cap≤maxLen∧
  ∀j,j<ll.length→∃u,w.cell? (adr a j)=some u∧Ints S w u (nthL ll j)
theorem Lists.agree {S:Nat→Prop} {w w':World} {v:Value} {l:List (List Int)} (h:Lists S w v l) (hw:Agree S w w'):Lists S w' v l:=by
 obtain ⟨a,cap,rfl,ha,h1,h2,hc⟩:=h;refine ⟨a,cap,rfl,ha.agree hw,h1,h2,fun j hj=>?_⟩;obtain ⟨u,hu,hi⟩:=hc j hj;exact ⟨u,(ha.cell hw hj).trans hu,hi.agree hw⟩
theorem Lists.mono {S S':Nat→Prop} {w:World} {v:Value} {l:List (List Int)} (h:Lists S w v l) (hS:∀b,S b→S' b):Lists S' w v l:=by
 obtain ⟨a,cap,rfl,ha,h1,h2,hc⟩:=h;refine ⟨a,cap,rfl,ha.mono hS,h1,h2,fun j hj=>?_⟩;obtain ⟨u,hu,hi⟩:=hc j hj;exact ⟨u,hu,hi.mono hS⟩
theorem Lists.ext {S:Nat→Prop} {w w':World} {v:Value} {l:List (List Int)} (h:Lists S w v l) (hw:Below w.heap.size w w'):Lists S w' v l:=h.agree (.of_ext hw)
theorem Lists.nil (S:Nat→Prop) (w:World):Lists S w (.slice none 0 0) []:=
 ⟨none,0,rfl,.inl ⟨rfl,rfl⟩,Nat.le_refl _,by simp[maxLen],fun j hj=>by simp at hj⟩
structure OwnRows (e er:TypeId) (base:Nat) (w:World) (v:Value) (vs:List Value) (ll:List (List Int)):Prop where
 row:w.ownsRow base e 1 v ll.length vs
 rows:∀j,j<ll.length→w.ownsRow base er 1 (nthV vs j) (nthL ll j).length ((nthL ll j).map (Value.int .i64))
 apart:∀i j,i<ll.length→j<ll.length→i≠j→∀k,(nthV vs i).ownBlock=some k→(nthV vs j).ownBlock≠some k
 out:∀i,i<ll.length→∀k,(nthV vs i).ownBlock=some k→v.ownBlock≠some k
section
variable {e er:TypeId} {base:Nat} {w:World} {v:Value} {vs:List Value} {ll:List (List Int)}
theorem OwnRows.len (h:OwnRows e er base w v vs ll):vs.length=ll.length:=by have:=h.row.1;simpa using this
theorem OwnRows.ext {w':World} (h:OwnRows e er base w v vs ll) (hw:Below w.heap.size w w'):OwnRows e er base w' v vs ll:=
 ⟨yd h.row hw,fun j hj=>yd (h.rows j hj) hw,h.apart,h.out⟩
theorem OwnRows.lists (h:OwnRows e er base w v vs ll) (hf:∀l∈ll,∀x∈l,WF x):Lists (fun b=>base≤b) w v ll:=by
 have hl:=h.len;rcases h.row.2 with ⟨rfl,hn0⟩ | ⟨g,cap,cur,rfl,hb,hg,hnc,hcm,_⟩
 ·have:ll=[]:=by simpa using hn0
  subst this;exact Lists.nil _ _
 ·refine ⟨_,cap,rfl,.inr ⟨g,0,rfl,(Array.getElem?_eq_some_iff.1 hg).1,hb⟩,hnc,hcm,fun j hj=>⟨nthV vs j,?_,?_⟩⟩
  ·rw[yi,Nat.zero_add,h.row.cellAt j (by omega),za8 (by omega)]
  ·exact Ints.of_own (h.rows j hj) (hf _ (yh hj))
theorem OwnRows.push {w':World} {v':Value} (h:OwnRows e er base w v vs ll) (hr:w'.ownsRow base e 1 v' (ll.length+1) (vs++[.slice none 0 0]))
  (hg:∀S:Nat→Prop,(∀k,v.ownBlock=some k→¬S k)→Agree S w w') (hv:∀k,v'.ownBlock=some k→v.ownBlock=some k∨w.heap.size≤k):
  OwnRows e er base w' v' (vs++[.slice none 0 0]) (ll++[[]]):=by
 have hl:=h.len;have ev:∀j,j<ll.length→nthV (vs++[.slice none 0 0]) j=nthV vs j:=fun j hj=>by simp[nthV,List.getElem?_append_left (show j<vs.length by omega)]
 have ev2:nthV (vs++[.slice none 0 0]) ll.length=.slice none 0 0:=by simp[nthV,←hl]
 have el:∀j,j<ll.length→nthL (ll++[[]]) j=nthL ll j:=fun j hj=>by simp[nthL,List.getElem?_append_left hj]
 have el2:nthL (ll++[[]]) ll.length=[]:=by simp[nthL]
 refine ⟨by simpa using hr,fun j hj=>?_,fun i j hi hj hij k hk=>?_,fun i hi k hk e1=>?_⟩
 ·simp at hj;by_cases hj':j<ll.length
  ·rw[ev j hj',el j hj'];exact zJ (S:=fun b=>v.ownBlock≠some b) (h.rows j hj') (hg _ (fun k hk=>by simp[hk])) (fun k hk=>h.out j hj' k hk)
  ·obtain rfl:j=ll.length:=by omega
   rw[ev2,el2];exact World.ownsRow_nil _ _ _ _
 ·simp at hi hj;by_cases hi':i<ll.length
  ·by_cases hj':j<ll.length
   ·rw[ev i hi']at hk;rw[ev j hj'];exact h.apart i j hi' hj' hij k hk
   ·obtain rfl:j=ll.length:=by omega
    rw[ev2];simp[Value.ownBlock]
  ·obtain rfl:i=ll.length:=by omega
   rw[ev2]at hk;simp[Value.ownBlock]at hk
 ·simp at hi;by_cases hi':i<ll.length
  ·rw[ev i hi']at hk;rcases hv k e1 with h2 | h2
   ·exact h.out i hi' k hk h2
   ·have:=((h.rows i hi').lt k hk).2;omega
  ·obtain rfl:i=ll.length:=by omega
   rw[ev2]at hk;simp[Value.ownBlock]at hk
theorem OwnRows.keep {w':World} {g cap x N:Nat} (h:OwnRows e er base w (.slice (some ⟨g,0,none⟩) N cap) vs ll) (hN:N=ll.length) (hx:x<ll.length)
  (hg:∀S:Nat→Prop,(∀k,(nthV vs x).ownBlock=some k→¬S k)→Agree S w w'):w'.cell? ⟨g,x,none⟩=some (nthV vs x)∧w'.frozen? ⟨g,x,none⟩=false:=by
 subst hN;have hl:=h.len;have hrow:w'.ownsRow base e 1 (.slice (some ⟨g,0,none⟩) ll.length cap) ll.length vs:=
  zJ (S:=fun b=>b=g) h.row (hg _ (fun k hk e1=>h.out x hx k hk (by rw[e1];rfl))) (fun k hk=>by simp[Value.ownBlock]at hk;exact hk.symm)
 exact ⟨by rw[hrow.cellAt x (by omega),za8 (by omega)],hrow.frozenAt x⟩
theorem OwnRows.cell {g cap x N:Nat} (h:OwnRows e er base w (.slice (some ⟨g,0,none⟩) N cap) vs ll) (hN:N=ll.length) (hx:x<ll.length):w.cell? ⟨g,x,none⟩=some (nthV vs x):=
 (h.keep hN hx (fun S _=>.refl _ _)).1
theorem OwnRows.app {w':World} {u':Value} {g cap x N:Nat} {y:Int} (h:OwnRows e er base w (.slice (some ⟨g,0,none⟩) N cap) vs ll) (hN:N=ll.length) (hx:x<ll.length)
  (hr:w'.ownsRow base er 1 u' ((nthL ll x).length+1) ((nthL ll x).map (Value.int .i64)++[.int .i64 y]))
  (hg:∀S:Nat→Prop,(∀k,(nthV vs x).ownBlock=some k→¬S k)→Agree S w w') (hv:∀k,u'.ownBlock=some k→(nthV vs x).ownBlock=some k∨w.heap.size≤k):
  OwnRows e er base (w'.setCell ⟨g,x,none⟩ u') (.slice (some ⟨g,0,none⟩) N cap) (vs.set x u') (ll.set x (nthL ll x++[y])):=by
 subst hN;have hl:=h.len;have hgl:g<w.heap.size:=(h.row.lt g rfl).2;have ev:∀j,j≠x→nthV (vs.set x u') j=nthV vs j:=fun j hj=>by simp[nthV,List.getElem?_set_ne (fun e:x=j=>hj e.symm)]
 have ev2:nthV (vs.set x u') x=u':=by simp[nthV,show x<vs.length by omega]
 have el:∀j,j≠x→nthL (ll.set x (nthL ll x++[y])) j=nthL ll j:=fun j hj=>by simp[nthL,List.getElem?_set_ne (fun e:x=j=>hj e.symm)]
 have el2:nthL (ll.set x (nthL ll x++[y])) x=nthL ll x++[y]:=by simp[nthL,hx]
 have hne:∀k,u'.ownBlock=some k→k≠g:=by
  intro k hk e1;subst e1;rcases hv k hk with h2 | h2
  ·exact h.out x hx k h2 rfl
  ·omega
 have hrow:w'.ownsRow base e 1 (.slice (some ⟨g,0,none⟩) ll.length cap) ll.length vs:=
  zJ (S:=fun b=>b=g) h.row (hg _ (fun k hk e1=>h.out x hx k hk (by rw[e1];rfl))) (fun k hk=>by simp[Value.ownBlock]at hk;exact hk.symm)
 have hst:=hrow.stored x u';have keep:∀{t:TypeId} {q:Value} {n:Nat} {zs:List Value},w'.ownsRow base t 1 q n zs→(∀k,q.ownBlock=some k→k≠g)→(w'.setCell ⟨g,x,none⟩ u').ownsRow base t 1 q n zs:=fun ho hk=>
  zJ (S:=fun b=>b≠g) ho (.of_grown hst.2 (fun b hb e1=>hb (by cases e1;rfl))) (fun k hk'=>hk k hk')
 refine ⟨by simpa using hst.1,fun j hj=>?_,fun i j hi hj hij k hk=>?_,fun i hi k hk=>?_⟩
 ·simp at hj;by_cases hjx:j=x
  ·subst hjx;rw[ev2,el2];refine keep ?_ hne;simpa using hr
  ·rw[ev j hjx,el j hjx];refine keep (zJ (S:=fun b=>(nthV vs x).ownBlock≠some b) (h.rows j hj) (hg _ (fun k hk=>by simp[hk])) (fun k hk=>h.apart j x hj hx hjx k hk)) (fun k hk e1=>?_);subst e1;exact h.out j hj k hk rfl
 ·simp at hi hj;by_cases hix:i=x
  ·subst hix;have hjx:j≠i:=fun e=>hij e.symm;rw[ev2]at hk;rw[ev j hjx];rcases hv k hk with h2 | h2
   ·exact h.apart i j hi hj hij k h2
   ·intro e1;have:=((h.rows j hj).lt k e1).2;omega
  ·rw[ev i hix]at hk;by_cases hjx:j=x
   ·subst hjx;rw[ev2];intro e1;rcases hv k e1 with h2 | h2
    ·exact h.apart i j hi hj hij k hk h2
    ·have:=((h.rows i hi).lt k hk).2;omega
   ·rw[ev j hjx];exact h.apart i j hi hj hij k hk
 ·simp at hi;by_cases hix:i=x
  ·subst hix;rw[ev2]at hk;intro e1;simp[Value.ownBlock]at e1;exact hne k hk e1.symm
  ·rw[ev i hix]at hk;exact h.out i hi k hk
end
structure OwnList (e:TypeId) (base:Nat) (w:World) (v:Value) (vs:List Value) (ll:List (List Int)):Prop where
 row:w.ownsRow base e 1 v ll.length vs
 rows:∀j,j<ll.length→Ints (fun b=>base≤b∧v.ownBlock≠some b) w (nthV vs j) (nthL ll j)
section
variable {e:TypeId} {base:Nat} {w:World} {v:Value} {vs:List Value} {ll:List (List Int)}
theorem OwnList.nil (e:TypeId) (base:Nat) (w:World):OwnList e base w (.slice none 0 0) [] []:=⟨World.ownsRow_nil _ _ _ _,fun j hj=>by simp at hj⟩
theorem OwnList.len (h:OwnList e base w v vs ll):vs.length=ll.length:=by have:=h.row.1;simpa using this
theorem OwnList.ext {w':World} (h:OwnList e base w v vs ll) (hw:Below w.heap.size w w'):OwnList e base w' v vs ll:=
 ⟨yd h.row hw,fun j hj=>(h.rows j hj).ext hw⟩
theorem OwnList.lists (h:OwnList e base w v vs ll):Lists (fun b=>base≤b) w v ll:=by
 have hl:=h.len;rcases h.row.2 with ⟨rfl,hn0⟩ | ⟨g,cap,cur,rfl,hb,hg,hnc,hcm,_⟩
 ·have:ll=[]:=by simpa using hn0
  subst this;exact Lists.nil _ _
 ·refine ⟨_,cap,rfl,.inr ⟨g,0,rfl,(Array.getElem?_eq_some_iff.1 hg).1,hb⟩,hnc,hcm,fun j hj=>⟨nthV vs j,?_,?_⟩⟩
  ·rw[yi,Nat.zero_add,h.row.cellAt j (by omega),za8 (by omega)]
  ·exact (h.rows j hj).mono fun b hb=>hb.1
theorem Ints.block {S:Nat→Prop} {w:World} {v:Value} {l:List Int} (h:Ints S w v l) (k:Nat):Ints (fun b=>S b∧b<w.heap.size) w v l:=by
 obtain ⟨a,cap,rfl,ha,r⟩:=h;refine ⟨a,cap,rfl,?_,r⟩;rcases ha with h | ⟨b,off,rfl,hb,hs⟩
 ·exact .inl h
 ·exact .inr ⟨b,off,rfl,hb,hs,hb⟩
theorem OwnList.push {w':World} {v' u:Value} {l:List Int} (h:OwnList e base w v vs ll) (hr:w'.ownsRow base e 1 v' (ll.length+1) (vs++[u]))
  (hg:∀S:Nat→Prop,(∀k,v.ownBlock=some k→¬S k)→Agree S w w') (hv:∀k,v'.ownBlock=some k→v.ownBlock=some k∨w.heap.size≤k)
  (hu:Ints (fun b=>base≤b∧v.ownBlock≠some b) w u l):OwnList e base w' v' (vs++[u]) (ll++[l]):=by
 have hl:=h.len;have move:∀{q:Value} {m:List Int},Ints (fun b=>base≤b∧v.ownBlock≠some b) w q m→Ints (fun b=>base≤b∧v'.ownBlock≠some b) w' q m:=by
  intro q m hq;refine ((hq.block 0).agree (hg _ (fun k hk hh=>hh.1.2 hk))).mono ?_;intro b hb;refine ⟨hb.1.1,fun e1=>?_⟩;rcases hv b e1 with h2 | h2
  ·exact hb.1.2 h2
  ·have:=hb.2;omega
 refine ⟨by simpa using hr,fun j hj=>?_⟩;simp at hj;by_cases hj':j<ll.length
 ·have ev:nthV (vs++[u]) j=nthV vs j:=by simp[nthV,List.getElem?_append_left (show j<vs.length by omega)]
  have el:nthL (ll++[l]) j=nthL ll j:=by simp[nthL,List.getElem?_append_left hj']
  rw[ev,el];exact move (h.rows j hj')
 ·obtain rfl:j=ll.length:=by omega
  have ev:nthV (vs++[u]) ll.length=u:=by simp[nthV,←hl]
  have el:nthL (ll++[l]) ll.length=l:=by simp[nthL]
  rw[ev,el];exact move hu
end
end Go.Proofs.YtiabbjolepnjkaaGreat
namespace Go.Proofs.YtiabbjolepnjkaaGreat
def firstE (f:Nat→Int):Nat→Int
 | 0=>0
 | n+1=>if firstE f n=0 then f n else firstE f n
theorem yG {f:Nat→Int}:∀{n:Nat},(∀k,k<n→f k=0)→firstE f n=0
 | 0,_=>rfl
 | n+1,h=>by
  unfold firstE;rw[if_pos (yG fun k hk=>h k (by omega))];exact h n (by omega)
theorem Z8 {f:Nat→Int} {k:Nat} (h:∀j,j<k→f j=0) (hk:f k≠0):∀{n:Nat},k<n→firstE f n=f k
 | 0,h0=>by omega
 | n+1,h0=>by
  unfold firstE;by_cases e:k=n
  ·subst e;rw[if_pos (yG h)]
  ·have:=Z8 h hk (n:=n) (by omega);rw[this,if_neg hk]
theorem yJ {f:Nat→Int} {n:Nat}:firstE f n=0↔∀k,k<n→f k=0:=by
 constructor
 ·induction n with
  | zero=>intro _ k hk;omega
  | succ n ih=>
   intro h k hk;unfold firstE at h;split at h
   ·rename_i h0;by_cases e:k=n
    ·subst e;exact h
    ·exact ih h0 k (by omega)
   ·rename_i h0;exact absurd h h0
 ·exact yG
def Zeros (f:Nat→Int) (k:Nat):Prop:=∀j,j<k→f j=0
theorem Zeros.zero (f:Nat→Int):Zeros f 0:=fun j hj=>by omega
theorem Zeros.next {f:Nat→Int} {k:Nat} (h:Zeros f k) (h0:f k=0):Zeros f (k+1):=fun j hj=>by
 by_cases e:j=k
 ·subst e;exact h0
 ·exact h j (by omega)
theorem Zeros.done {f:Nat→Int} {k n:Nat} (h:Zeros f k) (hk:n≤k):firstE f n=0:=yG fun j hj=>h j (by omega)
theorem Zeros.stop {f:Nat→Int} {k n:Nat} {x:Int} (h:Zeros f k) (hx:f k=x) (h0:x≠0) (hk:k<n):firstE f n=x:=by
 rw[Z8 h (by rw[hx];exact h0) hk,hx]
def allN (f:Nat→Bool):Nat→Bool
 | 0=>true
 | n+1=>allN f n&&f n
theorem qS {f:Nat→Bool}:∀{n:Nat},allN f n=true↔∀k,k<n→f k=true
 | 0=>⟨fun _ k hk=>by omega,fun _=>rfl⟩
 | n+1=>by
  unfold allN;rw[Bool.and_eq_true,qS];constructor
  ·rintro ⟨h,h1⟩ k hk;by_cases e:k=n
   ·subst e;exact h1
   ·exact h k (by omega)
  ·intro h;exact ⟨fun k hk=>h k (by omega),h n (by omega)⟩
def Alls (f:Nat→Bool) (k:Nat):Prop:=∀j,j<k→f j=true
theorem Alls.zero (f:Nat→Bool):Alls f 0:=fun j hj=>by omega
theorem Alls.next {f:Nat→Bool} {k:Nat} (h:Alls f k) (h0:f k=true):Alls f (k+1):=fun j hj=>by
 by_cases e:j=k
 ·subst e;exact h0
 ·exact h j (by omega)
theorem Alls.done {f:Nat→Bool} {k n:Nat} (h:Alls f k) (hk:n≤k):allN f n=true:=qS.2 fun j hj=>h j (by omega)
theorem Q0 {f:Nat→Bool} {k n:Nat} (h:f k=false) (hk:k<n):allN f n=false:=by
 cases e:allN f n with
 | false=>rfl
 | true=>rw[qS.1 e k hk]at h;cases h
def cmpI (a b:Int):Int:=if a<b then -1 else if b<a then 1 else 0
def lexN (a b:List Int) (n:Nat):Int:=firstE (fun i=>cmpI (nth a i) (nth b i)) n
def ordL (a b:List Int):Int:=if lexN a b (min a.length b.length)=0 then cmpI (a.length:Int) (b.length:Int) else lexN a b (min a.length b.length)
theorem qX {a b:Int}:cmpI a b=0↔a=b:=by unfold cmpI;constructor<;>intro h<;>(try subst h)<;>(try split at h)<;>(try split at h)<;>(try omega)<;>simp_all
theorem Xo {a b:List Int} {n:Nat}:lexN a b n=0↔∀i,i<n→nth a i=nth b i:=by
 unfold lexN;rw[yJ];exact ⟨fun h i hi=>qX.1 (h i hi),fun h i hi=>qX.2 (h i hi)⟩
theorem zfw {a b:List Int} (hl:a.length=b.length) (h:∀i,i<a.length→nth a i=nth b i):a=b:=by
 apply List.ext_getElem hl;intro i h1 h2;have:=h i h1
 rwa [yM h1,yM h2]at this
theorem Xn {a b:List Int}:ordL a b=0↔a=b:=by
 unfold ordL;constructor
 ·intro h;split at h
  ·rename_i h0;have hl:a.length=b.length:=by have:=qX.1 h;omega
   exact zfw hl fun i hi=>Xo.1 h0 i (by omega)
  ·rename_i h0;exact absurd h h0
 ·intro h;subst h;have:lexN a a (min a.length a.length)=0:=Xo.2 fun _ _=>rfl;rw[if_pos this];exact qX.2 rfl
def gAt (n:Int) (p:Nat) (x:Int):Int:=if n≤(p:Int) then (if x=0 then 0 else 3) else if x<0∨((2 ^ n.toNat:Nat):Int) - 1<x then 2 else if x.toNat.testBit p then 0 else 3
def checkG (l:List Int):Int:=if nth l 0<1∨5<nth l 0 then 2 else firstE (fun p=>gAt (nth l 0) p (nth l (p+1))) 5
def checkP (n s:Int):Int:=if n<1∨5<n then 1 else if s<0∨((2 ^ n.toNat:Nat):Int)≤s then 2 else 0
def checkR (l:List Int):Int:=if checkG l=0 then checkP (nth l 0) (nth l 6) else checkG l
abbrev CaseD:=List Int×List (List Int)×List (List Int)
def CaseD.inn (c:CaseD):List Int:=c.1
def CaseD.out (c:CaseD):List (List Int):=c.2.1
def CaseD.calm (c:CaseD):List (List Int):=c.2.2
def nthC (l:List CaseD) (k:Nat):CaseD:=l.getD k ([],[],[])
def vecE (v:List Int) (n most:Int):Int:=if (v.length:Int)=n then (if v.any (fun x=>decide (x<0)||decide (most≤x)) then 2 else 0) else 15
def unord (l:List (List Int)) (k:Nat):Bool:=decide (0<k)&&decide (0≤ordL (nthL l (k - 1)) (nthL l k))
def outE (n outs:Int) (l:List (List Int)) (k:Nat):Int:=if vecE (nthL l k) n outs=0 then (if unord l k then 14 else 0) else vecE (nthL l k) n outs
def calmE (o l:List (List Int)) (k:Nat):Int:=if decide (nthL l k∈o) then (if unord l k then 14 else 0) else 6
def vecsE (n outs:Int) (c:CaseD):Int:=
 if c.out.length<1∨1024<c.out.length then 5 else
  if firstE (outE n outs c.out) c.out.length=0 then firstE (calmE c.out c.calm) c.calm.length else firstE (outE n outs c.out) c.out.length
def caseE (n ins outs:Int) (l:List CaseD) (k:Nat):Int:=
 if vecE (nthC l k).inn n ins=0 then
  (if decide (0<k)&&decide (0≤ordL (nthC l (k - 1)).inn (nthC l k).inn) then 14 else vecsE n outs (nthC l k))
 else vecE (nthC l k).inn n ins
def checkT (n ins outs:Int) (l:List CaseD):Int:=
 if n<1∨5<n∨ins<1∨8<ins∨outs<1∨8<outs then 2 else if l.length<1∨1024<l.length then 5 else firstE (caseE n ins outs l) l.length
abbrev Moves:=List (List (List Int))
def nthM (st:Moves) (s:Nat):List (List Int):=st.getD s []
def moveE (n:Int) (ns:Nat) (l:List (List Int)) (i:Nat):Int:=
 if checkR (nthL l i)=0 then
  (if nth (nthL l i) 0≠n then 22 else if decide (0<i)&&decide (0≤lexN (nthL l (i - 1)) (nthL l i) 7) then 14 else if nth (nthL l i) 7<0∨(ns:Int)≤nth (nthL l i) 7 then 2 else 0)
 else checkR (nthL l i)
def stateE (n:Int) (st:Moves) (s:Nat):Int:=if (nthM st s).length=0 then 19 else firstE (moveE n st.length (nthM st s)) (nthM st s).length
def movesN (st:Moves):Nat:=st.foldl (fun n l=>n+l.length) 0
def inB (a b:Nat):Bool:=allN (fun p=> !a.testBit p||b.testBit p) 5
def growsB (st:Moves):Bool:=allN (fun s=>allN (fun i=>allN (fun k=>inB (nth (nthL (nthM st s) i) 6).toNat (nth (nthL (nthM st (nth (nthL (nthM st s) i) 7).toNat) k) 6).toNat) (nthM st (nth (nthL (nthM st s) i) 7).toNat).length) (nthM st s).length) st.length
def checkA (n:Int) (st:Moves):Int:=
 if n<1∨5<n then 2 else if st.length<1∨256<st.length∨4096<movesN st then 5 else
  if firstE (stateE n st) st.length=0 then (if growsB st then 0 else 21) else firstE (stateE n st) st.length
end Go.Proofs.YtiabbjolepnjkaaGreat
namespace Go.Proofs.YtiabbjolepnjkaaGreat
open Go.RowKit
theorem zI:(Tryz.prog.info? 3).map (fun i=>(i.zero,i.size,i.bytes))=some (some (.int .i64 0),1,8):=by kernel_rfl
theorem YZ {l1 l2:List Int} {k:Nat} (hk1:k<l1.length) (hk2:k<l2.length) (h:l1.take k=l2.take k) (e:nth l1 k=nth l2 k):l1.take (k+1)=l2.take (k+1):=by
 rw[qO hk1,qO hk2,h,e]
theorem QR {S S':Nat→Prop} {w:World} {v1 v2:Value} {l1 l2:List Int} (h1:Ints S w v1 l1) (h2:Ints S' w v2 l2):
  Calls Tryz.prog 27 #[v1,v2] w (QuietP w (.bool (decide (l1=l2)))):=by
 obtain ⟨a1,cap1,rfl,ha1,_,hm1,hc1,_⟩:=h1;obtain ⟨a2,cap2,rfl,ha2,_,_,hc2,_⟩:=h2;unfold maxLen at hm1;obtain ⟨i0,hi,hz0,hz1,hz2⟩:=info_parts zI;have hix1:=zL Tryz.underlying36 hi hz1 ha1;have hix2:=zL Tryz.underlying36 hi hz1 ha2;clear hi hz0 hz1 hz2;by_cases hlen:l1.length=l2.length
 ·have hne:((l1.length:Int) !=l2.length)=false:=by simp[hlen]
  have HL:=zhd hlen;clear hlen;go_enter Tryz.func27,Tryz.ntmps27;go_wp2;go_loopw [13] (fun i wr=>∃k:Nat,k≤l1.length∧i=.int .i64 k∧(∃m,wr=w.drewN m)∧l1.take k=l2.take k) (fun i _=>l1.length - (intOf i).toNat)
  case atStart=>exact ⟨0,by omega,rfl,⟨0,rfl⟩,rfl⟩
  case round=>
   obtain ⟨k,hk,rfl,⟨m,rfl⟩,hrel⟩:=hrel;have H:=zhd hrel;clear hrel;by_cases hlt:k<l1.length
   ·have hlt2:k<l2.length:=by have:=HL.out;omega
    have q1:=hix1 k hlt;have q2:=hix2 k hlt2;have p1:=hc1 k hlt;have p2:=hc2 k hlt2;clear hix1 hix2 hc1 hc2;by_cases he:nth l1 k=nth l2 k
    ·have he':(nth l1 k !=nth l2 k)=false:=by simp[he]
     have HE:=zhd he;clear he;go_wp2;go_quiet (fail);go_wp2;go_roundw
     case rel=>exact ⟨k+1,by omega,by go_num,⟨_,rfl⟩,YZ hlt hlt2 H.out HE.out⟩
     case measure=>simp[intOf];omega
    ·have he':(nth l1 k !=nth l2 k)=true:=by simp[he]
     go_wp2;go_quiet (fail);go_wp2;go_ret;rw[World.drewN_drewN];exact .of (zE (decide_eq_false (fun (e:l1=l2)=>he (by rw[e]))).symm) _
   ·go_wp2;go_ret;refine .of (zE ?_) _;have:=H.out;have h2:=HL.out;rw[List.take_of_length_le (by omega),List.take_of_length_le (by omega)]at this;exact (decide_eq_true this).symm
 ·have hne:((l1.length:Int) !=l2.length)=true:=by simp;omega
  go_enter Tryz.func27,Tryz.ntmps27;go_wp2;go_ret;exact .of (zE (decide_eq_false (fun (e:l1=l2)=>hlen (by rw[e]))).symm) 0
theorem ZH {S S':Nat→Prop} {w:World} {v1 v2:Value} {l1 l2:List Int} (h1:Ints S w v1 l1) (h2:Ints S' w v2 l2):
  Calls Tryz.prog 27 #[v1,v2] w (Post w fun _ r=>r=.bool (decide (l1=l2))):=(QR h1 h2).mono fun _ _ h=>h.post
end Go.Proofs.YtiabbjolepnjkaaGreat
namespace Go.Proofs.YtiabbjolepnjkaaGreat
section
variable {P:Program} {ops:Array Oper} {Q:Exit→Act→World→Prop} {md:Region.Mode} {S:World→Prop} {X:Nat→Bool}
def AnyE (P:Program) (md:Region.Mode) (ops:Array Oper) (Q:Exit→Act→World→Prop) (S:World→Prop) (X:Nat→Bool):Nat→Array Bool→Act→World→Prop
 | 0,listed,a,w=>Region.ready md ops listed=[]∧Q .normal a w
 | fuel+1,listed,a,w=>
  (Region.ready md ops listed=[]→Q .normal a w)∧
  ∀i∈Region.ready md ops listed,wpOp P ops Q i (fun a' w'=>(X i=false→S w')∧AnyE P md ops Q S X fuel (listed.setIfInBounds i true) a' w') a w
theorem ZM:∀(fuel:Nat) (listed:Array Bool) (a:Act) (w:World),AnyE P md ops Q S X fuel listed a w→wpAny P md ops Q fuel listed a w
 | 0,_,_,_,h=>h
 | fuel+1,_,_,_,h=>⟨h.1,fun i hi=>wpOp_mono (fun a' w' h'=>ZM fuel _ a' w' h'.2) (h.2 i hi)⟩
def waitFor (md:Region.Mode) (ops:Array Oper) (X:Nat→Bool) (i:Nat):Bool:=
 (List.range ops.size).all fun j=> !X j||(match ops[j]? with | some o=>o.after.any (fun e=>Region.binds md e&&e.on==i) | none=>true)
theorem zcG {i j:Nat} {oj:Oper} (h:waitFor md ops X i=true) (hj:ops[j]? =some oj) (hn:∀e∈oj.after,Region.binds md e=true→e.on≠i):X j=false:=by
 have hlt:j<ops.size:=(Array.getElem?_eq_some_iff.1 hj).1;have:=List.all_eq_true.1 h j (List.mem_range.2 hlt);rw[hj]at this;cases hx:X j with
 | false=>rfl
 | true=>
  rw[hx]at this;simp only[Bool.not_true,Bool.false_or]at this;rw[Array.any_eq_true]at this;obtain ⟨k,hk,he⟩:=this;simp only[Bool.and_eq_true,beq_iff_eq]at he;exact absurd he.2 (hn _ (Array.getElem_mem hk) he.1)
theorem zez {i:Nat} {oi:Oper} {v:Value} (hi:ops[i]? =some oi) (hsel:∀(j:Nat) (o:Oper) cs b,ops[j]? =some o→o.op≠.select cs b)
  (hX:waitFor md ops X i=true) (hQ:∀c a w,Q (.panic c) (a.put oi.dst v) w→Q (.panic c) a w):
  ∀(fuel:Nat) (listed:Array Bool) (a:Act) (w:World),
   (∀j oj,ops[j]? =some oj→j≠i→listed.getD j true=false→(∀e∈oj.after,Region.binds md e=true→e.on≠i)→oi.apart ops oj=true)→
   i∈Region.ready md ops listed→YieldsIf P ops S oi v a→S w→
   AnyE P md ops Q S X fuel (listed.setIfInBounds i true) (a.put oi.dst v) w→AnyE P md ops Q S X (fuel+1) listed a w:=by
 intro fuel;induction fuel with
 | zero=>
  intro listed a w _ hr hy hS H;refine ⟨fun h=>(by rw[h]at hr;cases hr),fun j hj=>?_⟩;by_cases hji:j=i
  ·subst hji;exact hy.wpOp hi hS ⟨fun _=>hS,H⟩
  ·have:=ready_mono hj hji;rw[H.1]at this;cases this
 | succ fuel ih=>
  intro listed a w hfree hr hy hS H;refine ⟨fun h=>(by rw[h]at hr;cases hr),fun j hj=>?_⟩;by_cases hji:j=i
  ·subst hji;exact hy.wpOp hi hS ⟨fun _=>hS,H⟩
  ·have h1:=H.2 j (ready_mono hj hji);obtain ⟨hjun,oj,hoj,hall⟩:=mem_ready.1 hj;have hnot:∀e∈oj.after,Region.binds md e=true→e.on≠i:=fun e he hb heq=>by
    have k1:=hall e he hb;have k0:=(mem_ready.1 hr).1;rw[heq]at k1;rcases Nat.lt_or_ge i listed.size with h' | h'
    ·simp[h']at k0 k1;rw[k0]at k1;cases k1
    ·simp[Array.getElem?_eq_none h']at k1
   have hxj:X j=false:=zcG hX hoj hnot;have h2:=wpOp_putIf hoj (hfree j oj hoj hji hjun hnot) (fun cs b=>hsel i oi cs b hi) (fun cs b=>hsel j oj cs b hoj) hQ hy h1;refine wpOp_mono (fun a' w' h3=>⟨fun _=>h3.2.1 hxj,ih (listed.setIfInBounds j true) a' w' (fun k ok hk hki hun hno=>?_) (ready_mono hr (Ne.symm hji)) h3.1 (h3.2.1 hxj) ?_⟩) h2
   ·refine hfree k ok hk hki ?_ hno;by_cases hjk:j=k
    ·subst hjk;exact hjun
    ·rw[getD_set_ne true hjk]at hun;exact hun
   ·rw[Array.setIfInBounds_comm _ _ hji];exact h3.2.2
theorem X0 {i:Nat} {oi:Oper} {v:Value} {fuel:Nat} {listed:Array Bool} {a:Act} {w:World} (hi:ops[i]? =some oi) (hs:Region.noSelect ops=true)
  (hf:(Region.free md ops listed i&&((Region.ready md ops listed).contains i&&waitFor md ops X i))=true)
  (hQ:∀c a w,Q (.panic c) (a.put oi.dst v) w→Q (.panic c) a w) (hy:YieldsIf P ops S oi v a) (hS:S w)
  (h:AnyE P md ops Q S X fuel (listed.setIfInBounds i true) (a.put oi.dst v) w):AnyE P md ops Q S X (fuel+1) listed a w:=by
 simp only[Bool.and_eq_true]at hf;exact zez hi (Region.noSelect_spec hs) hf.2.2 hQ fuel listed a w (Region.free_spec hi hf.1) (by simpa using hf.2.1) hy hS h
theorem zgP {i:Nat} {o:Oper} {fuel:Nat} {listed:Array Bool} {a:Act} {w:World} (ho:ops[i]? =some o) (hr:Region.ready md ops listed=[i])
  (h:∀K':Act→World→Prop,Shut (∀a w,(X i=false→S w)→((X i=false→S w)→AnyE P md ops Q S X fuel (listed.setIfInBounds i true) a w)→K' a w)→if Region.wanted o (yielded ops a.tmps)=true then Oper.wp P o a w K' Q else K' (a.put o.dst undef) w):
  AnyE P md ops Q S X (fuel+1) listed a w:=by
 refine ⟨fun h0=>(by rw[hr]at h0;cases h0),fun j hj=>?_⟩;rw[hr]at hj;obtain rfl:j=i:=by simpa using hj
 exact wpOp_step ho fun K' hK=>h K' fun a w h1 h2=>hK a w ⟨h1,h2 h1⟩
theorem anyE_take {l:List Oper} (i:Nat) {oi:Oper} {v:Value} {fuel:Nat} {listed:Array Bool} {a:Act} {w:World} (hi:l[i]? =some oi)
  (hf:(Region.noSelect l.toArray&&(Region.free md l.toArray listed i&&((Region.ready md l.toArray listed).contains i&&waitFor md l.toArray X i)))=true)
  (hQ:∀c a w,Q (.panic c) (a.put oi.dst v) w→Q (.panic c) a w) (hw:Region.wanted oi (yielded l.toArray a.tmps)=true) (hy:∀w,S w→(execOp a.eval oi).run P w=.ok (.value v) w) (hS:S w)
  (h:AnyE P md l.toArray Q S X fuel (listed.setIfInBounds i true) (a.put oi.dst v) w):AnyE P md l.toArray Q S X (fuel+1) listed a w:=by
 simp only[Bool.and_eq_true]at hf;exact X0 (by simpa using hi) hf.1 (by simp only[Bool.and_eq_true];exact hf.2) hQ (.inl ⟨hw,hy⟩) hS h
theorem zt {P:Program} {Q:Exit→Act→World→Prop} {md:Region.Mode} {S:World→Prop} {X:Nat→Bool} {l:List Oper} (i:Nat) {oi:Oper} {v:Value} {fuel:Nat} {listed:Array Bool} {a a':Act} {w:World} (hS:S w) (h:AnyE P md l.toArray Q S X fuel (listed.setIfInBounds i true) a' w)
  (hi:l[i]? =some oi:=by rfl) (hf:(Region.noSelect l.toArray&&(Region.free md l.toArray listed i&&((Region.ready md l.toArray listed).contains i&&waitFor md l.toArray X i)))=true:=by kernel_rfl)
  (hQ:∀c a w,Q (.panic c) (a.put oi.dst v) w→Q (.panic c) a w:=by exact fun _ _ _ h=>h) (hw:Region.wanted oi (yielded l.toArray a.tmps)=true:=by rfl)
  (hy:∀w,S w→(execOp a.eval oi).run P w=.ok (.value v) w:=by (intro w hSw;(try dsimp only at hSw);go_simp;try with_reducible rfl))
  (ha:a.put oi.dst v=a':=by (try simp only[Act.put,zsa,zsz,zss]);exact rfl):AnyE P md l.toArray Q S X (fuel+1) listed a w:=by
 subst ha;exact anyE_take i hi hf hQ hw hy hS h
theorem anyE_one {l:List Oper} (i:Nat) {o:Oper} {fuel:Nat} {listed:Array Bool} {a:Act} {w:World} (ho:l[i]? =some o) (hr:Region.ready md l.toArray listed=[i])
  (h:∀K':Act→World→Prop,Shut (∀a w,(X i=false→S w)→((X i=false→S w)→AnyE P md l.toArray Q S X fuel (listed.setIfInBounds i true) a w)→K' a w)→if Region.wanted o (yielded l.toArray a.tmps)=true then Oper.wp P o a w K' Q else K' (a.put o.dst undef) w):
  AnyE P md l.toArray Q S X (fuel+1) listed a w:=zgP (by simpa using ho) hr h
theorem zo {P:Program} {Q:Exit→Act→World→Prop} {md:Region.Mode} {S:World→Prop} {X:Nat→Bool} {l:List Oper} (i:Nat) {o:Oper} {fuel:Nat} {listed:Array Bool} {a:Act} {w:World}
  (h:∀K':Act→World→Prop,Shut (∀a w,(X i=false→S w)→((X i=false→S w)→AnyE P md l.toArray Q S X fuel (listed.setIfInBounds i true) a w)→K' a w)→if Region.wanted o (yielded l.toArray a.tmps)=true then Oper.wp P o a w K' Q else K' (a.put o.dst undef) w) (ho:l[i]? =some o:=by rfl) (hr:Region.ready md l.toArray listed=[i]:=by kernel_rfl):
  AnyE P md l.toArray Q S X (fuel+1) listed a w:=anyE_one i ho hr h
theorem zk {P:Program} {ops:Array Oper} {Q:Exit→Act→World→Prop} {md:Region.Mode} {S:World→Prop} {X:Nat→Bool} {b:Bool} {fuel:Nat} {L:Array Bool} {K':Act→World→Prop} {a a':Act} {w:World} (hK:Shut (∀a w,(b=false→S w)→((b=false→S w)→AnyE P md ops Q S X fuel L a w)→K' a w)) (hs:S w) (h:S w→AnyE P md ops Q S X fuel L a' w) (hb:b=false:=by rfl)
  (ha:a=a':=by (try simp only[Act.put,zsa,zsz,zss]);exact rfl):K' a w:=by
 subst ha;exact hK.out a w (fun _=>hs) (fun hh=>h (hh hb))
theorem Qq {l:List Oper} (i j:Nat) {oi oj:Oper} {fuel:Nat} {listed:Array Bool} {a:Act} {w:World} (hi:l[i]? =some oi) (hj:l[j]? =some oj) (hr:Region.ready md l.toArray listed=[i,j])
  (h1:∀K':Act→World→Prop,Shut (∀a w,(X i=false→S w)→((X i=false→S w)→AnyE P md l.toArray Q S X fuel (listed.setIfInBounds i true) a w)→K' a w)→if Region.wanted oi (yielded l.toArray a.tmps)=true then Oper.wp P oi a w K' Q else K' (a.put oi.dst undef) w)
  (h2:∀K':Act→World→Prop,Shut (∀a w,(X j=false→S w)→((X j=false→S w)→AnyE P md l.toArray Q S X fuel (listed.setIfInBounds j true) a w)→K' a w)→if Region.wanted oj (yielded l.toArray a.tmps)=true then Oper.wp P oj a w K' Q else K' (a.put oj.dst undef) w):
  AnyE P md l.toArray Q S X (fuel+1) listed a w:=by
 refine ⟨fun h0=>(by rw[hr]at h0;cases h0),fun k hk=>?_⟩;rw[hr]at hk;have:k=i∨k=j:=by simpa using hk
 rcases this with rfl | rfl
 ·exact wpOp_step (by simpa using hi) fun K' hK=>h1 K' fun a w q1 q2=>hK a w ⟨q1,q2 q1⟩
 ·exact wpOp_step (by simpa using hj) fun K' hK=>h2 K' fun a w q1 q2=>hK a w ⟨q1,q2 q1⟩
theorem zz {listed:Array Bool} {a:Act} {w:World} (hr:Region.ready md ops listed=[]) (h:Q .normal a w):
  ∀fuel,AnyE P md ops Q S X fuel listed a w
 | 0=>⟨hr,h⟩
 | _+1=>⟨fun _=>h,by rw[hr];simp⟩
theorem zF (S:World→Prop) (X:Nat→Bool) {id:Nat} {a:Act} {w:World} (hm:P.follows .mixedOrders=true) (hS:S w.drew)
  (h:S w.drew→AnyE P .any ops Q S X ops.size (Array.replicate ops.size false) a w.drew):(Code.region id ops true).wp P Q a w:=
 wp_region_any hm (ZM _ _ _ _ (h hS))
end
end Go.Proofs.YtiabbjolepnjkaaGreat
