/- Part of the proof that the laws answer true for every input. -/
import Derived.Test.YtiabbjolepnjkaaGreatPDfA00
import Derived.Deep.DrawnRows
set_option linter.unusedSimpArgs false
set_option linter.unnecessarySimpa false
set_option linter.unusedVariables false
set_option maxRecDepth 100000
set_option maxHeartbeats 40000000
namespace Go.Proofs.YtiabbjolepnjkaaGreat
open Go.RowKit
attribute [local go_sem ↓] Go.wp_at_zero Go.wp_at_succ
theorem ze (w:World) (o:Obj):Below w.heap.size w (w.alloc o):=(Below.refl _ _).alloc (Nat.le_refl _) _
theorem zh {a w:World} (h:Below a.heap.size a w) (o:Obj):Below a.heap.size a (w.alloc o):=h.alloc h.size _
theorem zi (w:World) (xs:List Value) (e:TypeId):Row (w.alloc (.cells xs.toArray e)) w.heap.size e xs:=by
 unfold Row;rw[heap_alloc_new]
theorem zb1 (w:World) (xs:List Value) (e:TypeId):Below w.heap.size w (w.alloc (.cells xs.toArray e))∧Row (w.alloc (.cells xs.toArray e)) w.heap.size e xs:=⟨ze w _,zi w xs e⟩
theorem zb2 (w:World) (xs ys:List Value) (e f:TypeId):Below w.heap.size w ((w.alloc (.cells xs.toArray e)).alloc (.cells ys.toArray f))∧Row ((w.alloc (.cells xs.toArray e)).alloc (.cells ys.toArray f)) w.heap.size e xs∧Row ((w.alloc (.cells xs.toArray e)).alloc (.cells ys.toArray f)) (w.heap.size+1) f ys:=by
 have R1:=zi (w.alloc (.cells xs.toArray e)) ys f;rw[World.size_alloc]at R1;exact ⟨zh (ze w _) _,(zi w xs e).alloc _,R1⟩
theorem zW:(Tryz.prog.info? 36).map (fun i=>(i.zero,i.size,i.bytes))=some (some (.slice none 0 0),1,24):=by kernel_rfl
theorem Lists.at {S:Nat→Prop} {w wr:World} {a:Option Addr} {cap:Nat} {ll:List (List Int)} (h:Lists S w (.slice a ll.length cap) ll) (hb:Below w.heap.size w wr) {k:Nat} (hk:k<ll.length):
  ∃u,wr.cell? (adr a k)=some u∧Ints S wr u (nthL ll k):=by
 obtain ⟨a',cap',e,ha,_,_,hc⟩:=h;simp only[Value.slice.injEq,true_and]at e;obtain ⟨rfl,rfl⟩:=e;obtain ⟨u,hu,hi⟩:=hc k hk;exact ⟨u,(ha.cell (.of_ext hb) hk).trans hu,hi.ext hb⟩
theorem Lists.form {S:Nat→Prop} {w:World} {v:Value} {ll:List (List Int)} (h:Lists S w v ll):∃a cap,v=.slice a ll.length cap∧Ad S w a ll.length cap∧ll.length≤cap∧cap≤maxLen:=by
 obtain ⟨a,cap,rfl,ha,h1,h2,_⟩:=h;exact ⟨a,cap,rfl,ha,h1,h2⟩
theorem Ints.form {S:Nat→Prop} {w:World} {v:Value} {l:List Int} (h:Ints S w v l):∃a cap,v=.slice a l.length cap∧Ad S w a l.length cap∧l.length≤cap∧cap≤maxLen:=by
 obtain ⟨a,cap,rfl,ha,h1,h2,_⟩:=h;exact ⟨a,cap,rfl,ha,h1,h2⟩
theorem Post.imp {w w':World} {R R':World→Value→Prop} {e:Ending} (h:Post w R e w') (hi:∀w' r,R w' r→R' w' r):Post w R' e w':=by
 obtain ⟨r,rfl,hb,hr⟩:=h;exact ⟨r,rfl,hb,hi _ _ hr⟩
abbrev TT:Nat→Prop:=fun _=>True
theorem Row.get {w:World} {g:Nat} {e:TypeId} {xs ys:List Value} (h:Row w g e xs) (he:xs=ys):Row w g e ys:=he▸h
theorem YH {S:Nat→Prop} {w w':World} {p:Addr} {u:Value} (h:w.cell? p=some u) (hw:Agree S w w') (hS:S p.block):w'.cell? p=some u:=
 (World.cell?_of_block (hw.block p.block hS (World.block_lt_of_cell? w p h))).trans h
theorem Agree.alloc {S:Nat→Prop} {w w':World} (h:Agree S w w') (o:Obj):Agree S w (w'.alloc o):=h.trans ⟨by simp,fun k _ hk=>heap_alloc_old w' o hk⟩
theorem zgE {S:Nat→Prop} {w:World} {a:Option Addr} {n cap:Nat} {x:Int} {l:List Int} (h:Ints S w (.slice a n cap) (x::l)) {wr:World} (hb:Below w.heap.size w wr):wr.cell? (adr a 0)=some (.int .i64 x):=by
 obtain ⟨a0,cap0,e,had,hl,hm,hc,hf⟩:=h;simp only[List.length_cons,Value.slice.injEq]at e;obtain ⟨rfl,rfl,rfl⟩:=e;exact (had.cell (.of_ext hb) (by simp)).trans (hc 0 (by simp))
theorem zi5 {S:Nat→Prop} {w:World} {a:Option Addr} {n cap:Nat} {l:List Int} (h:Ints S w (.slice a n cap) l):Ad S w a l.length cap:=by
 obtain ⟨a0,cap0,e,had,hl,hm,hc,hf⟩:=h;simp only[Value.slice.injEq]at e;obtain ⟨rfl,rfl,rfl⟩:=e;exact had
theorem zm {w w':World} {p:Addr} {u:Value} (h:w.cell? p=some u) (hb:Below w.heap.size w w'):w'.cell? p=some u:=(hb.cell (World.block_lt_of_cell? w _ h)).trans h
theorem yv {S:Nat→Prop} {w W:World} {a:Option Addr} {n cap:Nat} {l:List Int} (h:Ints S w (.slice a n cap) l) (hb:Below w.heap.size w W):∀j,j<l.length→W.cell? (adr a j)=some ((l.map (Value.int .i64)).getD j undef):=by
 obtain ⟨a0,cap0,e,had,hl,hm,hc,hf⟩:=h;simp only[Value.slice.injEq]at e;obtain ⟨rfl,rfl,rfl⟩:=e;intro j hj;rw[(had.cell (.of_ext hb) hj).trans (hc j hj)];simp[yM hj,hj]
theorem Y0 (l:List Int):∀u∈l.map (Value.int .i64),u.oneCell'=true:=by
 intro u hu;obtain ⟨x,_,rfl⟩:=List.mem_map.1 hu;rfl
theorem Row.owns {w:World} {g base:Nat} {e:TypeId} {xs:List Value} (h:Row w g e xs) (hb:base≤g) (hl:xs.length≤maxLen):w.ownsRow base e 1 (.slice (some ⟨g,0,none⟩) xs.length xs.length) xs.length xs:=
 ⟨by simp,.inr ⟨g,xs.length,xs.toArray,rfl,hb,h,Nat.le_refl _,hl,by simp,by simp⟩⟩
theorem Lists.block {S:Nat→Prop} {w:World} {v:Value} {ll:List (List Int)} (h:Lists S w v ll):Lists (fun b=>S b∧b<w.heap.size) w v ll:=by
 obtain ⟨a,cap,rfl,ha,h1,h2,hc⟩:=h;refine ⟨a,cap,rfl,?_,h1,h2,fun j hj=>?_⟩
 ·rcases ha with h | ⟨b,off,rfl,hb,hs⟩
  ·exact .inl h
  ·exact .inr ⟨b,off,rfl,hb,hs,hb⟩
 ·obtain ⟨u,hu,hi⟩:=hc j hj;exact ⟨u,hu,hi.block 0⟩
theorem zhL (w:World) (B:Nat) (hB:B=w.heap.size) (l:List Int) (e:TypeId) (hl:l.length≤65536) (hf:∀x∈l, -1000000000≤x∧x≤1000000000):
  Ints (fun b=>b=B) (w.alloc (.cells (l.map (Value.int .i64)).toArray e)) (.slice (some ⟨B,0,none⟩) l.length l.length) l:=by
 subst hB;exact Row.ints (e:=e) (heap_alloc_new w _) (by unfold maxLen;omega) fun x hx=>WF.small (hf x hx)
theorem zie {g cp n:Nat} (k:Nat) (hk:k<n) (W:World):(Instr.indexAt 146 (.slice (some ⟨g,0,none⟩) n cp) (.int .i64 k)).run Tryz.prog W=.ok (.pointer (some ⟨g,k,none⟩)) W:=by
 obtain ⟨i,hi,_,h1,_⟩:=info_parts zW;have hE:Tryz.prog.elem 146=36:=by simp[Program.elem,Tryz.underlying146]
 rw[run_indexAt_slice W 146 _ n cp .i64 k (by rw[hE];exact Tryz.underlying146),if_pos (by omega),hE];simp[sizeOf,typeInfo,hi,h1,Result.andThen,Addr.add];exact fun h=>h.symm
theorem XF {P:Program} {ops:Array Oper} {o:Oper} {a:Act} {w:World} {K:Act→World→Prop} {Q:Exit→Act→World→Prop} {E:Prop} (hgd:o.guard=none) (s x:Operand) (t:TypeId)
  (ho:o.op=.call {callee:=.builtin .append,args:=#[s,x],argTypes:=#[t,t]}) (e:TypeId) (z:Value) (bytes:Nat) (ht:P.underlying t=some (.slice e))
  (hinfo:(P.info? e).map (fun i=>(i.zero,i.size,i.bytes))=some (some z,1,bytes)) (hz1:z.cells.size=1) (base:Nat) (v:Value) (n:Nat) (xs:List Value) (hs:a.eval s=v) (hown:w.ownsRow base e 1 v n xs)
  (S:Nat→Prop) (ad:Option Addr) (m c:Nat) (news:List Value) (hx:a.eval x=.slice ad m c) (had:Ad S w ad m c) (hl:news.length=m) (hcell:∀j,j<m→w.cell? (adr ad j)=some (news.getD j undef)) (h1:∀u∈news,u.oneCell'=true)
  (hbytes:(n+m) * bytes≤140737488355328) (hn:n+m≤9223372036854775807) (hbase:base≤w.heap.size)
  (h:∀v' w',w'.ownsRow base e 1 v' (n+m) (xs++news)→Below base w w'→(∀S:Nat→Prop,(∀k,v.ownBlock=some k→¬S k)→Agree S w w')→(∀k,v'.ownBlock=some k→v.ownBlock=some k∨w.heap.size≤k)→K (a.put o.dst v') w'):
  if Region.wanted o (yielded ops a.tmps)=true then Oper.wp P o a w K Q else E:=by
 have hw:Region.wanted o (yielded ops a.tmps)=true:=by simp[Region.wanted,hgd]
 rw[if_pos hw];obtain ⟨i,hi,hz,hz2,hz3⟩:=info_parts hinfo;have hlt:=hown.lt;have fin:∀x:Addr,ad=some x→(∀j u,news[j]? =some u→w.cell? (x.add j)=some u)→o.wp P a w K Q:=by
  intro x he hx2;obtain ⟨v',w',hr,h2,h3,h4⟩:=yr (P:=P) w base t o.type e i z 1 bytes ht hi hz hz2 hz3 hz1 (by decide) v n xs hown x m c news (by omega) hx2 h1 (by unfold maxLen;omega) hbytes hbase;rw[he]at hx;unfold Oper.wp;simp[execOp,ho,resolve,invoke,builtin,hs,hx,hr,Result.andThen];exact h v' w' h2 ((Below.refl _ _).grown h3 hbase (fun k hk=>(hlt k hk).1)) (fun S hS=>.of_grown h3 (fun k hk e1=>hS k e1 hk)) h4
 rcases had with ⟨rfl,rfl⟩ | ⟨b,off,rfl,hb,hS⟩
 ·have hn0:news=[]:=List.eq_nil_of_length_eq_zero hl;cases ad with
  | some x=>exact fin x rfl (fun j u hj=>by rw[hn0]at hj;simp at hj)
  | none=>
   have hrun:=run_append_owned_none (P:=P) w base t o.type e i 1 ht hi v n xs hown;unfold Oper.wp;simp[execOp,ho,resolve,invoke,builtin,hs,hx,hrun,Result.andThen];exact h v w (by rw[hn0];simpa using hown) (.refl _ _) (fun S _=>.refl _ _) (fun k hk=>.inl hk)
 ·refine fin _ rfl (fun j u hj=>?_);have hjm:j<m:=by rw[←hl];exact (List.getElem?_eq_some_iff.1 hj).1
  have:=hcell j hjm;rw[yi]at this;rw[Addr.add_lit,this,List.getD_eq_getElem?_getD,hj];rfl
end Go.Proofs.YtiabbjolepnjkaaGreat
namespace Go.Proofs.YtiabbjolepnjkaaGreat
open Go.RowKit
structure Kd (α:Type) where
 size:Nat
 rd:(Nat→Prop)→World→List Value→α→Prop
 agree:∀{S w w' cs x},rd S w cs x→Agree S w w'→rd S w' cs x
 mono:∀{S S' w cs x},rd S w cs x→(∀b,S b→S' b)→rd S' w cs x
 block:∀{S w cs x},rd S w cs x→rd (fun b=>S b∧b<w.heap.size) w cs x
 len:∀{S w cs x},rd S w cs x→cs.length=size
 one:∀{S w cs x},rd S w cs x→∀u∈cs,u.oneCell'=true
def Sl {α:Type} (K:Kd α) (S:Nat→Prop) (w:World) (v:Value) (l:List α):Prop:=
 ∃a cap,v=.slice a l.length cap∧Ad S w a l.length cap∧l.length≤cap∧(cap≤maxLen∧l.length≤140737488355328)∧
  ∀j (h:j<l.length),∃cs:List Value,(∀i,i<K.size→w.cell? (adr a (j * K.size+i))=cs[i]?)∧K.rd S w cs l[j]
section
variable {α:Type} {K:Kd α} {S S':Nat→Prop} {w w':World} {v:Value} {l:List α}
theorem Sl.agree (h:Sl K S w v l) (hw:Agree S w w'):Sl K S w' v l:=by
 obtain ⟨a,cap,rfl,ha,h1,h2,hc⟩:=h;refine ⟨a,cap,rfl,ha.agree hw,h1,h2,fun j hj=>?_⟩;obtain ⟨cs,h3,h4⟩:=hc j hj;refine ⟨cs,fun i hi=>?_,K.agree h4 hw⟩;rw[←h3 i hi];rcases ha with ⟨h0,_⟩ | ⟨b,off,rfl,hb,hs⟩
 ·omega
 ·exact World.cell?_of_block (hw.block b hs hb)
theorem Sl.mono (h:Sl K S w v l) (hS:∀b,S b→S' b):Sl K S' w v l:=by
 obtain ⟨a,cap,rfl,ha,h1,h2,hc⟩:=h;refine ⟨a,cap,rfl,ha.mono hS,h1,h2,fun j hj=>?_⟩;obtain ⟨cs,h3,h4⟩:=hc j hj;exact ⟨cs,h3,K.mono h4 hS⟩
theorem Sl.block (h:Sl K S w v l):Sl K (fun b=>S b∧b<w.heap.size) w v l:=by
 obtain ⟨a,cap,rfl,ha,h1,h2,hc⟩:=h;refine ⟨a,cap,rfl,?_,h1,h2,fun j hj=>?_⟩
 ·rcases ha with h | ⟨b,off,rfl,hb,hs⟩
  ·exact .inl h
  ·exact .inr ⟨b,off,rfl,hb,hs,hb⟩
 ·obtain ⟨cs,h3,h4⟩:=hc j hj;exact ⟨cs,h3,K.block h4⟩
theorem Sl.ext (h:Sl K S w v l) (hw:Below w.heap.size w w'):Sl K S w' v l:=h.agree (.of_ext hw)
theorem Sl.all (h:Sl K S w v l):Sl K (fun _=>True) w v l:=h.mono fun _ _=>trivial
theorem Sl.nil (K:Kd α) (S:Nat→Prop) (w:World):Sl K S w (.slice none 0 0) []:=
 ⟨none,0,rfl,.inl ⟨rfl,rfl⟩,Nat.le_refl _,by simp[maxLen],fun j hj=>by simp at hj⟩
theorem Sl.form (h:Sl K S w v l):∃a cap,v=.slice a l.length cap∧Ad S w a l.length cap∧l.length≤cap∧cap≤maxLen:=by
 obtain ⟨a,cap,e,ha,h1,h2,_⟩:=h;exact ⟨a,cap,e,ha,h1,h2.1⟩
theorem Sl.few (h:Sl K S w v l):l.length≤140737488355328:=by
 obtain ⟨_,_,_,_,_,h2,_⟩:=h;exact h2.2
theorem Sl.len (h:Sl K S w v l):l.length≤maxLen:=by
 obtain ⟨_,_,_,_,h1,h2,_⟩:=h;exact Nat.le_trans h1 h2.1
theorem Sl.at {a:Option Addr} {n cap:Nat} (h:Sl K S w (.slice a n cap) l) {j:Nat} (hj:j<l.length):
  ∃cs:List Value,(∀i,i<K.size→w.cell? (adr a (j * K.size+i))=cs[i]?)∧K.rd S w cs l[j]∧cs.length=K.size:=by
 obtain ⟨a',cap',e,ha,h1,h2,hc⟩:=h;simp only[Value.slice.injEq]at e;obtain ⟨rfl,_,_⟩:=e;obtain ⟨cs,h3,h4⟩:=hc j hj;exact ⟨cs,h3,h4,K.len h4⟩
theorem Sl.ad {a:Option Addr} {n cap:Nat} (h:Sl K S w (.slice a n cap) l):Ad S w a l.length cap∧n=l.length:=by
 obtain ⟨a',cap',e,ha,h1,h2,hc⟩:=h;simp only[Value.slice.injEq]at e;obtain ⟨rfl,rfl,rfl⟩:=e;exact ⟨ha,rfl⟩
end
theorem zM {P:Program} {S:Nat→Prop} {w:World} {T E:TypeId} {i:TypeInfo} (hT:P.underlying T=some (.slice E)) (hi:P.info? E=some i) {z:Nat} (h1:i.size=z) {a:Option Addr} {n cap:Nat} (h:Ad S w a n cap):
  ∀k:Nat,k<n→∀W:World,(Instr.indexAt T (.slice a n cap) (.int .i64 k)).run P W=.ok (.pointer (some (adr a (k * z)))) W:=by
 intro k hk W;rcases h with ⟨rfl,_⟩ | ⟨b,off,rfl,_,_⟩
 ·omega
 ·have hE:P.elem T=E:=by simp[Program.elem,hT]
  rw[run_indexAt_slice W T _ n cap .i64 k (by rw[hE];exact hT),if_pos (by omega),hE];simp[sizeOf,typeInfo,hi,h1,Result.andThen,adr,Addr.add]
theorem zid {l:List Int} {i:Nat} (h:i<l.length):(l.map (Value.int .i64))[i]? =some (.int .i64 (nth l i)):=by
 rw[List.getElem?_map,get?_nth h];rfl
def kFlat (n:Nat):Kd (List Int) where
 size:=n
 rd _ _ cs l:=l.length=n∧cs=l.map (Value.int .i64)∧∀x∈l,WF x
 agree h _:=h
 mono h _:=h
 block h:=h
 len h:=by rw[h.2.1,List.length_map];exact h.1
 one h u hu:=by
  rw[h.2.1]at hu;obtain ⟨x,_,rfl⟩:=List.mem_map.1 hu;rfl
theorem zeR (n:Nat):(kFlat n).size=n:=rfl
theorem Sl.num {n:Nat} {S:Nat→Prop} {w:World} {a:Option Addr} {m cap:Nat} {l:List (List Int)} (h:Sl (kFlat n) S w (.slice a m cap) l) {k:Nat} (hk:k<l.length):
  (nthL l k).length=n∧(∀x∈nthL l k,WF x)∧∀i,i<n→w.cell? (adr a (k * n+i))=some (.int .i64 (nth (nthL l k) i)):=by
 obtain ⟨cs,h1,⟨h2,rfl,h3⟩,_⟩:=h.at hk;rw[ya hk];refine ⟨h2,h3,fun i hi=>?_⟩;rw[zeR]at h1;rw[h1 i hi,zid (by omega)]
def kSl {α:Type} (K:Kd α):Kd (List α) where
 size:=1
 rd S w cs l:=∃v,cs=[v]∧Sl K S w v l
 agree h hw:=by obtain ⟨v,e,h⟩:=h;exact ⟨v,e,h.agree hw⟩
 mono h hS:=by obtain ⟨v,e,h⟩:=h;exact ⟨v,e,h.mono hS⟩
 block h:=by obtain ⟨v,e,h⟩:=h;exact ⟨v,e,h.block⟩
 len h:=by obtain ⟨v,rfl,_⟩:=h;rfl
 one h u hu:=by
  obtain ⟨v,rfl,h⟩:=h;obtain ⟨a,cap,rfl,_⟩:=h.form;obtain rfl:=List.mem_singleton.1 hu;rfl
theorem Sl.row {α:Type} {K:Kd α} {S:Nat→Prop} {w:World} {a:Option Addr} {m cap:Nat} {l:List (List α)} (h:Sl (kSl K) S w (.slice a m cap) l) {k:Nat} (hk:k<l.length):
  ∃v,w.cell? (adr a k)=some v∧Sl K S w v l[k]:=by
 obtain ⟨cs,h1,⟨v,rfl,h2⟩,_⟩:=h.at hk;refine ⟨v,?_,h2⟩;have:=h1 0 (by show 0<1;omega);simpa[kSl] using this
def kCase:Kd CaseD where
 size:=3
 rd S w cs c:=∃v1 v2 v3,cs=[v1,v2,v3]∧Ints S w v1 c.inn∧Lists S w v2 c.out∧Lists S w v3 c.calm
 agree h hw:=by obtain ⟨v1,v2,v3,e,h1,h2,h3⟩:=h;exact ⟨v1,v2,v3,e,h1.agree hw,h2.agree hw,h3.agree hw⟩
 mono h hS:=by obtain ⟨v1,v2,v3,e,h1,h2,h3⟩:=h;exact ⟨v1,v2,v3,e,h1.mono hS,h2.mono hS,h3.mono hS⟩
 block h:=by obtain ⟨v1,v2,v3,e,h1,h2,h3⟩:=h;exact ⟨v1,v2,v3,e,h1.block 0,h2.block,h3.block⟩
 len h:=by obtain ⟨v1,v2,v3,rfl,_⟩:=h;rfl
 one h u hu:=by
  obtain ⟨v1,v2,v3,rfl,h1,h2,h3⟩:=h;obtain ⟨a1,c1,rfl,_⟩:=h1.form;obtain ⟨a2,c2,rfl,_⟩:=h2.form;obtain ⟨a3,c3,rfl,_⟩:=h3.form;simp at hu;rcases hu with rfl | rfl | rfl<;>rfl
theorem Sl.case {S:Nat→Prop} {w:World} {a:Option Addr} {m cap:Nat} {l:List CaseD} (h:Sl kCase S w (.slice a m cap) l) {k:Nat} (hk:k<l.length):
  ∃v1 v2 v3,w.cell? (adr a (k * 3))=some v1∧w.cell? ⟨(adr a (k * 3)).block,(adr a (k * 3)).off+1,none⟩=some v2∧w.cell? ⟨(adr a (k * 3)).block,(adr a (k * 3)).off+2,none⟩=some v3∧
   Ints S w v1 (nthC l k).inn∧Lists S w v2 (nthC l k).out∧Lists S w v3 (nthC l k).calm:=by
 obtain ⟨cs,h1,⟨v1,v2,v3,rfl,i1,i2,i3⟩,_⟩:=h.at hk;have e:nthC l k=l[k]:=by simp[nthC,hk]
 rw[e];have q0:=h1 0 (by show 0<3;omega);have q1:=h1 1 (by show 1<3;omega);have q2:=h1 2 (by show 2<3;omega);have sz:kCase.size=3:=rfl;rw[sz]at q0 q1 q2;have ha:=h.ad.1;rcases ha with ⟨h0,_⟩ | ⟨b,off,rfl,_,_⟩
 ·omega
 ·refine ⟨v1,v2,v3,by simpa using q0,?_,?_,i1,i2,i3⟩
  ·simpa[adr,Nat.add_assoc] using q1
  ·simpa[adr,Nat.add_assoc] using q2
theorem zjK {l:List CaseD} {k:Nat} (h:k<l.length):nthC l k=l[k]:=by simp[nthC,h]
theorem Sl.nums {n:Nat} {S:Nat→Prop} {w:World} {a:Option Addr} {m cap:Nat} {l:List (List Int)} (h:Sl (kFlat n) S w (.slice a m cap) l) {k:Nat} (hk:k<l.length) (hn:0<n):
  (w.cell? (adr a (k * n))=some (.int .i64 (nth (nthL l k) 0)))∧∀i,i<n→w.cell? ⟨(adr a (k * n)).block,(adr a (k * n)).off+i,none⟩=some (.int .i64 (nth (nthL l k) i)):=by
 obtain ⟨h1,h2,h3⟩:=h.num hk;have ha:=h.ad.1;rcases ha with ⟨h0,_⟩ | ⟨b,off,rfl,_,_⟩
 ·omega
 ·refine ⟨by simpa using h3 0 hn,fun i hi=>?_⟩;have:=h3 i hi;simpa[adr,Nat.add_assoc] using this
theorem zjZ {l:List Int} (h:∀x∈l,WF x) (i:Nat):WF (nth l i):=by
 by_cases hi:i<l.length
 ·exact h _ (xN hi)
 ·have:nth l i=0:=by simp[nth,List.getElem?_eq_none (show l.length≤i by omega)]
  rw[this];exact WF.small (by omega)
end Go.Proofs.YtiabbjolepnjkaaGreat
namespace Go.Proofs.YtiabbjolepnjkaaGreat
open Go.RowKit
attribute [local go_sem ↓] Go.wp_at_zero Go.wp_at_succ
def QW (w w':World):Prop:=∃n,w'=w.drewN n
theorem QW.refl (w:World):QW w w:=⟨0,rfl⟩
theorem QW.drewN {a b:World} (h:QW a b) (n:Nat):QW a (b.drewN n):=by obtain ⟨k,rfl⟩:=h;exact ⟨_,World.drewN_drewN _ _ _⟩
theorem QW.trans {a b c:World} (h:QW a b) (k:QW b c):QW a c:=by obtain ⟨n,rfl⟩:=k;exact h.drewN n
theorem QW.ext {a b:World} (h:QW a b):Below a.heap.size a b:=by obtain ⟨n,rfl⟩:=h;exact zb _ _ _
theorem QuietP.fin {w w':World} {u v:Value} (h:u=v) (q:QW w w'):QuietP w v (.returned u) w':=⟨by rw[h],q⟩
theorem QuietP.take {w:World} {v:Value} {e:Ending} {w':World} (h:QuietP w v e w'):∃u,e=.returned u∧QW w w'∧u=v:=⟨v,h.1,h.2,rfl⟩
def without (a b:Nat):Nat:=a ^^^ (a&&&b)
theorem qE (a b i:Nat):(without a b).testBit i=(a.testBit i&& !b.testBit i):=by
 unfold without;rw[Nat.testBit_xor,Nat.testBit_and];cases a.testBit i<;>cases b.testBit i<;>rfl
theorem zeM {a b:Nat} (ha:a<4294967296):without a b<4294967296:=by
 have h1:a&&&b<2 ^ 32:=Nat.lt_of_le_of_lt Nat.and_le_left (by omega);exact Nat.xor_lt_two_pow (n:=32) (by omega) h1
theorem zfe {a b:Nat} (ha:a<4294967296) (hb:b<4294967296):bits .andNot .i64 (a:Int) (b:Int)=((without a b:Nat):Int):=by
 have hx:=zeM (b:=b) ha;have key:(BitVec.ofInt 64 (a:Int)&&& ~~~BitVec.ofInt 64 (b:Int)).toNat=without a b:=by
  have e1:BitVec.ofInt 64 (a:Int)=BitVec.ofNat 64 a:=BitVec.ofInt_natCast ..;have e2:BitVec.ofInt 64 (b:Int)=BitVec.ofNat 64 b:=BitVec.ofInt_natCast ..;apply Nat.eq_of_testBit_eq;intro i;rw[qE,e1,e2,BitVec.testBit_toNat,BitVec.getLsbD_and,BitVec.getLsbD_not,BitVec.getLsbD_ofNat,BitVec.getLsbD_ofNat];by_cases hi:i<64
  ·simp[hi]
  ·have:a.testBit i=false:=Nat.testBit_lt_two_pow (Nat.lt_of_lt_of_le ha (Nat.le_trans (by decide:4294967296≤2 ^ 64) (Nat.pow_le_pow_right (by decide) (by omega))));simp[hi,this]
 show IntKind.i64.wrap ((BitVec.ofInt 64 (a:Int)&&& ~~~BitVec.ofInt 64 (b:Int)).toNat:Int)=_;rw[key,IntKind.wrap_i64];omega
theorem zgj (a p:Nat):(bits .and .i64 ((a:Int) / 2 ^ p) 1==1)=a.testBit p:=by
 have h1:(BitVec.ofInt 64 1).toNat=2 ^ 1 - 1:=by decide
 have h2:((a:Int) / 2 ^ p)=((a / 2 ^ p:Nat):Int):=by simp
 have key:bits .and .i64 ((a / 2 ^ p:Nat):Int) 1=((a / 2 ^ p % 2:Nat):Int):=by
  show IntKind.i64.wrap ((BitVec.ofInt 64 ((a / 2 ^ p:Nat):Int)&&&BitVec.ofInt 64 1).toNat:Nat)=_;rw[BitVec.toNat_and,h1,Nat.and_two_pow_sub_one_eq_mod,BitVec.ofInt_natCast,BitVec.toNat_ofNat,IntKind.wrap_i64];omega
 rw[h2,key,Nat.testBit_eq_decide_div_mod_eq];rcases Nat.mod_two_eq_zero_or_one (a / 2 ^ p) with e | e<;>rw[e]<;>rfl
theorem xh {p:Nat} (hp:p≤5):2 ^ p≤32∧1≤2 ^ p:=by
 have:p=0∨p=1∨p=2∨p=3∨p=4∨p=5:=by omega
 rcases this with rfl | rfl | rfl | rfl | rfl | rfl<;>decide
def gC (n:Int) (f:Nat→Int):List Value:=[.int .i64 n,.int .i64 (f 0),.int .i64 (f 1),.int .i64 (f 2),.int .i64 (f 3),.int .i64 (f 4)]
def gV (n:Int) (f:Nat→Int):Value:=.agg #[n,f 0,f 1,f 2,f 3,f 4]
theorem five {p:Nat} (h:p<5):p=0∨p=1∨p=2∨p=3∨p=4:=by omega
theorem zkn {n:Int} {f:Nat→Int} {p:Nat} (hp:p<5):(gC n f)[1+p]? =some (.int .i64 (f p)):=by
 rcases five hp with rfl | rfl | rfl | rfl | rfl<;>rfl
theorem Row.six {w:World} {g:Nat} {e:TypeId} {n:Int} {f:Nat→Int} (h:Row w g e (gC n f)):
  w.cell? ⟨g,0,none⟩=some (.int .i64 n)∧w.cell? ⟨g,1,none⟩=some (.int .i64 (f 0))∧w.cell? ⟨g,2,none⟩=some (.int .i64 (f 1))∧w.cell? ⟨g,3,none⟩=some (.int .i64 (f 2))∧w.cell? ⟨g,4,none⟩=some (.int .i64 (f 3))∧w.cell? ⟨g,5,none⟩=some (.int .i64 (f 4)):=
 ⟨h.cell rfl,h.cell rfl,h.cell rfl,h.cell rfl,h.cell rfl,h.cell rfl⟩
theorem Row.graph (w:World) (n:Int) (f:Nat→Int):Row (w.alloc (.cells #[n,f 0,f 1,f 2,f 3,f 4] 151)) w.heap.size 151 (gC n f):=zi w (gC n f) _
theorem Row.hear {w:World} {g:Nat} {e:TypeId} {n:Int} {f:Nat→Int} (h:Row w g e (gC n f)) {p:Nat} (hp:p<5):w.cell? ⟨g,1+p,none⟩=some (.int .i64 (f p)):=h.cell (zkn hp)
theorem xu (b:Nat) {p:Nat} (hp:p<5) (W:World):
  (Instr.indexAt 63 (.pointer (some ⟨b,1,none⟩)) (.int .i64 p)).run Tryz.prog W=.ok (.pointer (some ⟨b,1+p,none⟩)) W:=by
 obtain ⟨i,hi,hz1,hz2,hz3⟩:=info_parts zI;have hA:=Tryz.underlying63;have hE:Tryz.prog.elem 63=3:=by simp[Program.elem,hA]
 have hL:Tryz.prog.arrayLen 63=5:=by simp[Program.arrayLen,hA]
 rw[run_indexAt_array W _ _ _ _ (by rw[hE,hL];exact hA),hL,hE,if_pos (by omega)];simp[sizeOf,typeInfo,hi,hz2,Result.andThen,Addr.add]
abbrev hV (n:Nat) (h:Nat→Nat):Value:=gV n fun p=>(h p:Int)
theorem ZV (w:World) {n:Nat} (hn:n≤5):Calls Tryz.prog 180 #[n] w (QuietP w (.int .i64 ((2 ^ n:Nat):Int))):=by
 go_enter Tryz.func180,Tryz.ntmps180;go_wp2;go_loopw [3,4] (fun o i wr=>∃k z:Nat,k≤n∧i=.int .i64 k∧o=.int .i64 z∧Hid (z=2 ^ k)∧QW w wr) (fun _ i _=>n - (intOf i).toNat)
 case atStart=>exact ⟨0,1,Nat.zero_le _,rfl,rfl,zhd rfl,.refl _⟩
 case round=>
  obtain ⟨k,z,hk,rfl,rfl,HZ,hQ⟩:=hrel;have hz:z≤32:=by rw[HZ.out];exact (xh (by omega)).1
  by_cases hlt:k<n
  ·go_wp2;go_roundw
   case rel=>exact ⟨k+1,z * 2,by omega,by go_num,by go_num,zhd (by rw[HZ.out,Nat.pow_succ]),hQ⟩
   case measure=>simp[intOf];omega
  ·obtain rfl:k=n:=by omega
   go_wp2;go_ret;exact .fin (by rw[HZ.out];rfl) hQ
theorem zdu (w:World) {n:Nat} (hn:n≤5):Calls Tryz.prog 198 #[n] w (QuietP w (.int .i64 ((2 ^ n:Nat) - 1:Int))):=by
 have K:=zhd ((ZV w hn).mono fun _ _ h=>h.take);have hz:=xh hn;obtain ⟨z,hzz⟩:=zn (2 ^ n);rw[←hzz]at K hz ⊢;clear hzz;obtain ⟨hz0,hz1⟩:=hz;go_enter Tryz.func198,Tryz.ntmps198;go_wp2_with fail;refine K.out.mono ?_;rintro _ w1 ⟨_,rfl,hq1,rfl⟩;go_wp2;go_ret;exact .fin rfl hq1
theorem Ze (w:World) {a p:Nat} (ha:a<4294967296) (hp:p≤5):Calls Tryz.prog 166 #[a,p] w (QuietP w (.bool (a.testBit p))):=by
 have K:=zhd ((ZV w hp).mono fun _ _ h=>h.take);have hz:=xh hp;rw[Nat.testBit_eq_decide_div_mod_eq];obtain ⟨z,hzz⟩:=zn (2 ^ p);rw[←hzz]at K hz ⊢;clear hzz;obtain ⟨hz0,hz1⟩:=hz;have e1:Int.tdiv (a:Int) (z:Int)=((a / z:Nat):Int):=by simp
 have e2:Int.tmod ((a / z:Nat):Int) 2=((a / z % 2:Nat):Int):=by rw[Int.tmod_eq_emod_of_nonneg (Int.natCast_nonneg _)];simp
 have hle:a / z≤a:=Nat.div_le_self _ _;obtain ⟨y,hy⟩:=zn (a / z);rw[←hy]at e1 e2 hle ⊢;clear hy;have hz3:(z:Int)≠0:=by omega
 go_enter Tryz.func166,Tryz.ntmps166;go_wp2_with fail;refine K.out.mono ?_;rintro _ w1 ⟨_,rfl,hq1,rfl⟩;go_wp2;go_ret;exact .fin (by simp[e1,e2];rw[Bool.eq_iff_iff];simp;omega) hq1
end Go.Proofs.YtiabbjolepnjkaaGreat
namespace Go.Proofs.YtiabbjolepnjkaaGreat
open Go.RowKit
theorem zhs (w:World) (n:Int):Calls Tryz.prog 199 #[n] w (QuietP w (.int .i64 (if n<1∨5<n then 1 else 0))):=by
 by_cases h1:n<1
 ·rw[if_pos (.inl h1)];go_enter Tryz.func199,Tryz.ntmps199;go_wp2;go_ret;exact .same
 by_cases h5:5<n
 ·rw[if_pos (.inr h5)];go_enter Tryz.func199,Tryz.ntmps199;go_wp2;go_ret;exact .same
 ·rw[if_neg (by omega)];go_enter Tryz.func199,Tryz.ntmps199;go_wp2;go_ret;exact .same
theorem zg3 (w:World) (n:Int):Calls Tryz.prog 202 #[n] w (QuietP w (.int .i64 (if n<1∨5<n then 1 else 0))):=by
 by_cases h1:n<1
 ·rw[if_pos (.inl h1)];go_enter Tryz.func202,Tryz.ntmps202;go_wp2;go_ret;exact .same
 by_cases h5:5<n
 ·rw[if_pos (.inr h5)];go_enter Tryz.func202,Tryz.ntmps202;go_wp2;go_ret;exact .same
 ·rw[if_neg (by omega)];go_enter Tryz.func202,Tryz.ntmps202;go_wp2;go_ret;exact .same
theorem zdM {a n:Nat}:(((a:Int) / 2 ^ n) !=0)=decide (2 ^ n≤a):=by
 have e:((a:Int) / 2 ^ n)=((a / 2 ^ n:Nat):Int):=by simp
 rw[e];have hp:0<2 ^ n:=Nat.pow_pos (by decide);by_cases h:2 ^ n≤a
 ·have h0:0<a / 2 ^ n:=Nat.div_pos h hp;rw[decide_eq_true h,bne_iff_ne];exact fun h1=>absurd (Int.natCast_eq_zero.1 h1) (by exact Nat.ne_of_gt h0)
 ·have h0:a / 2 ^ n=0:=Nat.div_eq_of_lt (by exact Nat.lt_of_not_le h);rw[decide_eq_false h,h0];rfl
theorem zki (w:World) (n s:Int):Calls Tryz.prog 190 #[n,s] w (QuietP w (.int .i64 (checkP n s))):=by
 have K:=zhd ((zhs w n).mono fun _ _ h=>h.take);by_cases hn:n<1∨5<n
 ·rw[show checkP n s=1 by unfold checkP;rw[if_pos hn]];rw[if_pos hn]at K;clear hn;go_enter Tryz.func190,Tryz.ntmps190;go_wp2_with fail;refine K.out.mono ?_;rintro _ w1 ⟨_,rfl,hq1,rfl⟩;go_wp2;go_ret;exact .fin rfl hq1
 rw[if_neg hn]at K;obtain ⟨m,rfl⟩:∃m:Nat,n=m:=⟨n.toNat,by omega⟩;have hm5:m≤5:=by omega
 have EC:checkP (m:Int) s=if s<0∨((2 ^ m:Nat):Int)≤s then 2 else 0:=by unfold checkP;rw[if_neg hn];rfl
 by_cases h0:s<0
 ·rw[EC,if_pos (.inl h0)];clear EC hn;go_enter Tryz.func190,Tryz.ntmps190;go_wp2_with fail;refine K.out.mono ?_;rintro _ w1 ⟨_,rfl,hq1,rfl⟩;go_wp2;go_ret;exact .fin rfl hq1
 obtain ⟨a,rfl⟩:∃a:Nat,s=a:=⟨s.toNat,by omega⟩;have KP:=zhd fun W=>((ZV W hm5).mono fun _ _ h=>h.take);obtain ⟨z,hz⟩:=zn (2 ^ m);rw[←hz]at EC KP;clear hz;by_cases hz:z≤a
 ·rw[EC,if_pos (by omega)];clear EC hn;go_enter Tryz.func190,Tryz.ntmps190;go_wp2_with fail;refine K.out.mono ?_;rintro _ w1 ⟨_,rfl,hq1,rfl⟩;go_wp2_with fail;refine (KP.out _).mono ?_;rintro _ w2 ⟨_,rfl,hq2,rfl⟩;go_wp2;go_ret;exact .fin rfl (hq1.trans hq2)
 ·rw[EC,if_neg (by omega)];clear EC hn;go_enter Tryz.func190,Tryz.ntmps190;go_wp2_with fail;refine K.out.mono ?_;rintro _ w1 ⟨_,rfl,hq1,rfl⟩;go_wp2_with fail;refine (KP.out _).mono ?_;rintro _ w2 ⟨_,rfl,hq2,rfl⟩;go_wp2;go_ret;exact .fin rfl (hq1.trans hq2)
theorem zjX (w:World) (n s:Int):Calls Tryz.prog 196 #[n,s] w (QuietP w (.int .i64 (checkP n s))):=by
 have K:=zhd ((zg3 w n).mono fun _ _ h=>h.take);by_cases hn:n<1∨5<n
 ·rw[show checkP n s=1 by unfold checkP;rw[if_pos hn]];rw[if_pos hn]at K;clear hn;go_enter Tryz.func196,Tryz.ntmps196;go_wp2_with fail;refine K.out.mono ?_;rintro _ w1 ⟨_,rfl,hq1,rfl⟩;go_wp2;go_ret;exact .fin rfl hq1
 rw[if_neg hn]at K;obtain ⟨m,rfl⟩:∃m:Nat,n=m:=⟨n.toNat,by omega⟩;have hm5:m≤5:=by omega
 have EC:checkP (m:Int) s=if s<0∨((2 ^ m:Nat):Int)≤s then 2 else 0:=by unfold checkP;rw[if_neg hn];rfl
 by_cases h0:s<0
 ·rw[EC,if_pos (.inl h0)];clear EC hn;go_enter Tryz.func196,Tryz.ntmps196;go_wp2_with fail;refine K.out.mono ?_;rintro _ w1 ⟨_,rfl,hq1,rfl⟩;go_wp2;go_ret;exact .fin rfl hq1
 obtain ⟨a,rfl⟩:∃a:Nat,s=a:=⟨s.toNat,by omega⟩;by_cases hz:2 ^ m≤a
 ·rw[EC,if_pos (by omega)];have d:=(zdM (a:=a) (n:=m)).trans (decide_eq_true hz);clear EC hn hz;go_enter Tryz.func196,Tryz.ntmps196;go_wp2_with fail;refine K.out.mono ?_;rintro _ w1 ⟨_,rfl,hq1,rfl⟩;go_wp2;go_ret;exact .fin rfl hq1
 ·rw[EC,if_neg (by omega)];have d:=(zdM (a:=a) (n:=m)).trans (decide_eq_false hz);clear EC hn hz;go_enter Tryz.func196,Tryz.ntmps196;go_wp2_with fail;refine K.out.mono ?_;rintro _ w1 ⟨_,rfl,hq1,rfl⟩;go_wp2;go_ret;exact .fin rfl hq1
theorem zko (w:World) (x:Int):Calls Tryz.prog 192 #[x] w (QuietP w (.bool false)):=by
 have e:(x !=x)=false:=by simp
 go_enter Tryz.func192,Tryz.ntmps192;go_wp2;go_ret;exact .same
theorem zhG (w:World) (x y:Int):Calls Tryz.prog 183 #[x,y] w (QuietP w (.int .i64 (cmpI x y))):=by
 have K:=zhd fun W z=>((zko W z).mono fun _ _ h=>h.take);unfold cmpI;by_cases h1:x<y
 ·rw[if_pos h1];go_enter Tryz.func183,Tryz.ntmps183;go_wp2_with fail;refine (K.out _ _).mono ?_;rintro _ w1 ⟨_,rfl,hq1,rfl⟩;go_wp2_with fail;refine (K.out _ _).mono ?_;rintro _ w2 ⟨_,rfl,hq2,rfl⟩;go_wp2;go_ret;exact .fin rfl (hq1.trans hq2)
 by_cases h2:y<x
 ·rw[if_neg h1,if_pos h2];go_enter Tryz.func183,Tryz.ntmps183;go_wp2_with fail;refine (K.out _ _).mono ?_;rintro _ w1 ⟨_,rfl,hq1,rfl⟩;go_wp2_with fail;refine (K.out _ _).mono ?_;rintro _ w2 ⟨_,rfl,hq2,rfl⟩;go_wp2;go_ret;exact .fin rfl (hq1.trans hq2)
 ·rw[if_neg h1,if_neg h2];go_enter Tryz.func183,Tryz.ntmps183;go_wp2_with fail;refine (K.out _ _).mono ?_;rintro _ w1 ⟨_,rfl,hq1,rfl⟩;go_wp2_with fail;refine (K.out _ _).mono ?_;rintro _ w2 ⟨_,rfl,hq2,rfl⟩;go_wp2;go_ret;exact .fin rfl (hq1.trans hq2)
theorem zix {S S':Nat→Prop} {w:World} {v1 v2:Value} {l1 l2:List Int} (h1:Ints S w v1 l1) (h2:Ints S' w v2 l2):
  ∃a1 c1 a2 c2,v1=.slice a1 l1.length c1∧v2=.slice a2 l2.length c2∧l1.length≤9223372036854775807∧l2.length≤9223372036854775807∧
   Hid (∀k:Nat,k<l1.length→∀W:World,(Instr.indexAt 36 (.slice a1 l1.length c1) (.int .i64 k)).run Tryz.prog W=.ok (.pointer (some (adr a1 k))) W)∧
   Hid (∀k:Nat,k<l2.length→∀W:World,(Instr.indexAt 36 (.slice a2 l2.length c2) (.int .i64 k)).run Tryz.prog W=.ok (.pointer (some (adr a2 k))) W)∧
   Hid (∀k,k<l1.length→w.cell? (adr a1 k)=some (.int .i64 (nth l1 k)))∧Hid (∀k,k<l2.length→w.cell? (adr a2 k)=some (.int .i64 (nth l2 k))):=by
 obtain ⟨a1,c1,rfl,ha1,hl1,hm1,hc1,_⟩:=h1;obtain ⟨a2,c2,rfl,ha2,hl2,hm2,hc2,_⟩:=h2;unfold maxLen at hm1 hm2;obtain ⟨i0,hi,hz0,hz1,hz2⟩:=info_parts zI;exact ⟨a1,c1,a2,c2,rfl,rfl,by omega,by omega,zhd (zL Tryz.underlying36 hi hz1 ha1),zhd (zL Tryz.underlying36 hi hz1 ha2),zhd hc1,zhd hc2⟩
theorem zjR {S:Nat→Prop} {w:World} {v1:Value} {l1:List Int} (h1:Ints S w v1 l1):
  ∃a1 c1,v1=.slice a1 l1.length c1∧l1.length≤9223372036854775807∧
   Hid (∀k:Nat,k<l1.length→∀W:World,(Instr.indexAt 36 (.slice a1 l1.length c1) (.int .i64 k)).run Tryz.prog W=.ok (.pointer (some (adr a1 k))) W)∧
   Hid (∀k,k<l1.length→w.cell? (adr a1 k)=some (.int .i64 (nth l1 k))):=by
 obtain ⟨a1,c1,rfl,ha1,hl1,hm1,hc1,_⟩:=h1;unfold maxLen at hm1;obtain ⟨i0,hi,hz0,hz1,hz2⟩:=info_parts zI;exact ⟨a1,c1,rfl,by omega,zhd (zL Tryz.underlying36 hi hz1 ha1),zhd hc1⟩
theorem zhw {a b:List Int} {k:Nat} (h:Zeros (fun i=>cmpI (nth a i) (nth b i)) k) (he:¬nth a k<nth b k) (he2:¬nth b k<nth a k):Zeros (fun i=>cmpI (nth a i) (nth b i)) (k+1):=
 h.next (by show cmpI _ _=0;unfold cmpI;rw[if_neg he,if_neg he2])
theorem zaY {a b:List Int} {k:Nat} {x:Int} (h:Zeros (fun i=>cmpI (nth a i) (nth b i)) k) (ha:k<a.length) (hb:k<b.length) (hx:cmpI (nth a k) (nth b k)=x) (h0:x≠0):ordL a b=x:=by
 have e:lexN a b (min a.length b.length)=x:=h.stop hx h0 (by omega);unfold ordL;rw[e,if_neg h0]
theorem Zm {a b:List Int} {k:Nat} (h:Zeros (fun i=>cmpI (nth a i) (nth b i)) k) (hk:a.length≤k∨b.length≤k):ordL a b=cmpI (a.length:Int) (b.length:Int):=by
 have e:lexN a b (min a.length b.length)=0:=h.done (by omega);unfold ordL;rw[if_pos e]
theorem Yz {a b:Int} (h:a<b):cmpI a b= -1:=by unfold cmpI;rw[if_pos h]
theorem YW {a b:Int} (h:b<a):cmpI a b=1:=by unfold cmpI;rw[if_neg (by omega),if_pos h]
theorem Q9 {a b:Int} (h:¬a<b) (h2:¬b<a):cmpI a b=0:=by unfold cmpI;rw[if_neg h,if_neg h2]
theorem xZ {S S':Nat→Prop} {w:World} {v1 v2:Value} {l1 l2:List Int} (h1:Ints S w v1 l1) (h2:Ints S' w v2 l2):
  Calls Tryz.prog 174 #[v1,v2] w (QuietP w (.int .i64 (ordL l1 l2))):=by
 obtain ⟨a1,c1,a2,c2,rfl,rfl,hm1,hm2,Q1,Q2,C1,C2⟩:=zix h1 h2;clear h1 h2;go_enter Tryz.func174,Tryz.ntmps174;go_wp2;go_loopw [5] (fun i wr=>∃k:Nat,(k≤l1.length∧k≤l2.length)∧i=.int .i64 k∧QW w wr∧Hid (Zeros (fun i=>cmpI (nth l1 i) (nth l2 i)) k)) (fun i _=>l1.length - (intOf i).toNat)
 case atStart=>exact ⟨0,⟨Nat.zero_le _,Nat.zero_le _⟩,rfl,.refl _,zhd (.zero _)⟩
 case round=>
  obtain ⟨k,⟨hk1,hk2⟩,rfl,⟨m,rfl⟩,HZ⟩:=hrel;by_cases hlt1:k<l1.length
  ·by_cases hlt2:k<l2.length
   ·have q1:=Q1.out k hlt1;have q2:=Q2.out k hlt2;have p1:=C1.out k hlt1;have p2:=C2.out k hlt2;obtain ⟨x,hx⟩:=zn (nth l1 k);obtain ⟨y,hy⟩:∃x,x=nth l2 k:=⟨_,rfl⟩;have HX:=zhd hx;have HY:=zhd hy;rw[←hx]at p1;rw[←hy]at p2;clear hx hy;by_cases hxy:x<y
    ·have HR:Hid (ordL l1 l2= -1):=zhd (zaY HZ.out hlt1 hlt2 (by rw[←HX.out,←HY.out];exact Yz hxy) (by decide));go_wp2;go_quiet (fail);go_wp2;go_ret;rw[World.drewN_drewN];exact .of (zr HR.out.symm) _
    by_cases hyx:y<x
    ·have HR:Hid (ordL l1 l2=1):=zhd (zaY HZ.out hlt1 hlt2 (by rw[←HX.out,←HY.out];exact YW hyx) (by decide));go_wp2;go_quiet (fail);go_wp2;go_quiet (fail);go_wp2;go_ret;exact .fin (zr HR.out.symm) ⟨_,by first | rfl | rw[World.drewN_drewN,World.drewN_drewN]⟩
    ·have HN:Hid (Zeros (fun i=>cmpI (nth l1 i) (nth l2 i)) (k+1)):=zhd (zhw HZ.out (by rw[←HX.out,←HY.out];exact hxy) (by rw[←HX.out,←HY.out];exact hyx));go_wp2;go_quiet (fail);go_wp2;go_quiet (fail);go_wp2;go_roundw
     case rel=>exact ⟨k+1,⟨by omega,by omega⟩,by go_num,⟨_,by first | rfl | rw[World.drewN_drewN,World.drewN_drewN]⟩,HN⟩
     case measure=>simp[intOf];omega
   ·have HR:Hid (ordL l1 l2=1):=zhd (by rw[Zm HZ.out (by omega)];exact YW (by omega));go_wp2;go_ret;exact .of (zr HR.out.symm) _
  ·by_cases hll:l1.length<l2.length
   ·have HR:Hid (ordL l1 l2= -1):=zhd (by rw[Zm HZ.out (by omega)];exact Yz (by omega));go_wp2;go_ret;exact .of (zr HR.out.symm) _
   ·have HR:Hid (ordL l1 l2=0):=zhd (by rw[Zm HZ.out (by omega)];exact Q9 (by omega) (by omega));go_wp2;go_ret;exact .of (zr HR.out.symm) _
theorem ziJ {S S':Nat→Prop} {w:World} {v1 v2:Value} {l1 l2:List Int} (h1:Ints S w v1 l1) (h2:Ints S' w v2 l2):
  Calls Tryz.prog 168 #[v1,v2] w (QuietP w (.int .i64 (ordL l1 l2))):=by
 obtain ⟨a1,c1,a2,c2,rfl,rfl,hm1,hm2,Q1,Q2,C1,C2⟩:=zix h1 h2;have K:=zhd fun W x y=>((zhG W x y).mono fun _ _ h=>h.take);clear h1 h2;go_enter Tryz.func168,Tryz.ntmps168;go_wp2;go_loopw [11] (fun i wr=>∃k:Nat,(k≤l1.length∧k≤l2.length)∧i=.int .i64 k∧QW w wr∧Hid (Zeros (fun i=>cmpI (nth l1 i) (nth l2 i)) k)) (fun i _=>l1.length - (intOf i).toNat)
 case atStart=>exact ⟨0,⟨Nat.zero_le _,Nat.zero_le _⟩,rfl,.refl _,zhd (.zero _)⟩
 case round=>
  obtain ⟨k,⟨hk1,hk2⟩,rfl,hQ,HZ⟩:=hrel;by_cases hlt1:k<l1.length
  ·have q1:=Q1.out k hlt1;have p1:=zm (C1.out k hlt1) hQ.ext;by_cases hlt2:k<l2.length
   ·have q2:=Q2.out k hlt2;have p2:=zm (C2.out k hlt2) hQ.ext;obtain ⟨x,hx⟩:=zn (nth l1 k);obtain ⟨y,hy⟩:∃x,x=nth l2 k:=⟨_,rfl⟩;have HX:=zhd hx;have HY:=zhd hy;rw[←hx]at p1;rw[←hy]at p2;clear hx hy;go_wp2_with fail;refine (K.out _ _ _).mono ?_;rintro _ w1 ⟨_,rfl,hq1,rfl⟩;obtain ⟨c,hc⟩:=zn (cmpI x y);rw[←hc];by_cases h0:c=0
    ·have HN:Hid (Zeros (fun i=>cmpI (nth l1 i) (nth l2 i)) (k+1)):=zhd (HZ.out.next (by show cmpI _ _=0;rw[←HX.out,←HY.out,←hc,h0]));subst h0;clear hc;go_wp2;go_roundw
     case rel=>exact ⟨k+1,⟨by omega,by omega⟩,by go_num,hQ.trans hq1,HN⟩
     case measure=>simp[intOf];omega
    ·have HR:Hid (ordL l1 l2=c):=zhd (zaY HZ.out hlt1 hlt2 (by rw[←HX.out,←HY.out,←hc]) h0);have e0:(c !=0)=true:=by simp[h0]
     clear hc h0;go_wp2;go_ret;exact .fin (zr HR.out.symm) (hQ.trans hq1)
   ·have HR:Hid (ordL l1 l2=1):=zhd (by rw[Zm HZ.out (by omega)];exact YW (by omega));go_wp2;go_ret;exact .fin (zr HR.out.symm) hQ
  ·by_cases hll:l1.length<l2.length
   ·have HR:Hid (ordL l1 l2= -1):=zhd (by rw[Zm HZ.out (by omega)];exact Yz (by omega));go_wp2;go_ret;exact .fin (zr HR.out.symm) hQ
   ·have HR:Hid (ordL l1 l2=0):=zhd (by rw[Zm HZ.out (by omega)];exact Q9 (by omega) (by omega));go_wp2;go_ret;exact .fin (zr HR.out.symm) hQ
def idxP {α:Type} (p:α→Bool) (l:List α):Int:=if l.any p=true then (l.findIdx p:Int) else -1
theorem zcA {α:Type} {p:α→Bool} {l:List α} (h:∀j (hj:j<l.length),p l[j]=false):idxP p l= -1:=by
 unfold idxP;rw[if_neg];intro e;obtain ⟨x,hx,hp⟩:=List.any_eq_true.1 e;obtain ⟨j,hj,rfl⟩:=List.getElem_of_mem hx;rw[h j hj]at hp;cases hp
theorem zd1 {α:Type} {p:α→Bool} {l:List α} {k:Nat} (hk:k<l.length) (h:∀j (hj:j<k),p (l[j]'(by omega))=false) (h2:p l[k]=true):idxP p l=k:=by
 unfold idxP;rw[if_pos (List.any_eq_true.2 ⟨l[k],List.getElem_mem hk,h2⟩)];congr 1
 exact (List.findIdx_eq hk).2 ⟨h2,fun j hj=>h j hj⟩
theorem zdN {α:Type} {p:α→Bool} {l:List α}:0≤idxP p l↔l.any p=true:=by
 unfold idxP;split
 ·rename_i h;exact ⟨fun _=>h,fun _=>by omega⟩
 ·rename_i h;exact ⟨fun h=>absurd h (by omega),fun e=>absurd e h⟩
theorem ziD {α:Type} {p:α→Bool} {l:List α} (h:∀j (hj:j<l.length),p l[j]=false):l.any p=false:=by
 cases e:l.any p with
 | false=>rfl
 | true=>
  obtain ⟨x,hx,hp⟩:=List.any_eq_true.1 e;obtain ⟨j,hj,rfl⟩:=List.getElem_of_mem hx;rw[h j hj]at hp;cases hp
theorem zdk {α:Type} {p:α→Bool} {l:List α} {k:Nat} (hk:k<l.length) (h:p l[k]=true):l.any p=true:=List.any_eq_true.2 ⟨_,List.getElem_mem hk,h⟩
theorem zcM {S:Nat→Prop} {w:World} {va:Value} {l:List Int} (ha:Ints S w va l) {g:Nat} {c0:Value} (p:Int→Bool)
  (eg:∀args w,(callFunc g args).run Tryz.prog w=.ok (.enter g args) w)
  (hp:∀W,QW w W→∀k,(hk:k<l.length)→Calls Tryz.prog g #[nth l k,c0] W (QuietP W (.bool (p l[k])))):
  Calls Tryz.prog 101 #[va,.func (.func g) #[] #[c0]] w (QuietP w (.int .i64 (idxP p l))):=by
 obtain ⟨a,cap,rfl,ad,l1,lm⟩:=ha.form;unfold maxLen at lm;obtain ⟨i0,hi,hz0,hz1,hz2⟩:=info_parts zI;have HQA:=zhd (zL Tryz.underlying36 hi hz1 ad);have HC:=zhd (show∀j,j<l.length→w.cell? (adr a j)=some (.int .i64 (nth l j)) from by obtain ⟨_,_,e,_,_,_,hc,_⟩:=ha;simp only[Value.slice.injEq]at e;obtain ⟨rfl,_,_⟩:=e;exact hc);have HP:=zhd (fun W hW k hk=>(hp W hW k hk).mono fun _ _ h=>h.take);clear hi hz0 hz1 hz2 ha hp;go_enter Tryz.func101,Tryz.ntmps101;go_wp2;go_loopw [8] (fun i wr=>∃k:Nat,k≤l.length∧i=.int .i64 k∧QW w wr∧Hid (∀j (hj:j<l.length),j<k→p l[j]=false)) (fun i _=>l.length - (intOf i).toNat)
 case atStart=>exact ⟨0,Nat.zero_le _,rfl,.refl _,zhd fun j _ hj=>absurd hj (by omega)⟩
 case round=>
  obtain ⟨k,hk,rfl,hQ,hB⟩:=hrel;by_cases hlt:k<l.length
  ·have q:=HQA.out k hlt;have cu:=Yb ad hQ.ext HC.out k hlt;obtain ⟨x,hx⟩:=zn (nth l k);rw[←hx]at cu;have KP:=zhd (HP.out wr hQ k hlt);rw[←hx]at KP;clear hx;obtain ⟨b,hb⟩:=zn (p l[k]);rw[←hb]at KP;have HBB:=zhd hb;clear hb;go_wp2_with fail;refine KP.out.mono ?_;rintro _ w2 ⟨_,rfl,hq2,rfl⟩;have hQ2:=hQ.trans hq2;clear KP hQ hq2 cu;cases b with
   | true=>
    have HR:=zhd (zd1 hlt (fun j hj=>hB.out j _ hj) HBB.out.symm);clear hB;go_wp2;go_ret;exact .fin (zr HR.out.symm) hQ2
   | false=>
    have HN:Hid (∀j (hj:j<l.length),j<k+1→p l[j]=false):=zhd fun j hl hj=>by
     by_cases e:j=k
     ·subst e;exact HBB.out.symm
     ·exact hB.out j hl (by omega)
    clear hB;go_wp2;go_roundw
    case rel=>exact ⟨k+1,by omega,by go_num,hQ2,HN⟩
    case measure=>simp[intOf];omega
  ·obtain rfl:k=l.length:=by omega
   have HR:=zhd (zcA fun j hj=>hB.out j hj hj);clear hB;go_wp2;go_ret;exact .fin (zr HR.out.symm) hQ
theorem XD {S:Nat→Prop} {w:World} {va:Value} {l:List Int} (ha:Ints S w va l) {g:Nat} {c0:Value} (p:Int→Bool)
  (eg:∀args w,(callFunc g args).run Tryz.prog w=.ok (.enter g args) w)
  (hp:∀W,QW w W→∀k,(hk:k<l.length)→Calls Tryz.prog g #[nth l k,c0] W (QuietP W (.bool (p l[k])))):
  Calls Tryz.prog 181 #[va,.func (.func g) #[] #[c0]] w (QuietP w (.bool (l.any p))):=by
 have K:=zhd ((zcM ha p eg hp).mono fun _ _ h=>h.take);have HI:=zhd (zdN (p:=p) (l:=l));obtain ⟨a,cap,rfl,_⟩:=ha.form;clear hp ha eg;obtain ⟨x,hx⟩:=zn (idxP p l);obtain ⟨b,hb⟩:=zn (l.any p);rw[←hx]at K HI;rw[←hb]at HI ⊢;clear hx hb;go_enter Tryz.func181,Tryz.ntmps181;go_wp2_with fail;refine K.out.mono ?_;rintro _ w2 ⟨_,rfl,hq2,rfl⟩;clear K;cases b with
 | true=>
  have h0:0≤x:=HI.out.2 rfl;go_wp2;go_ret;exact .fin (by simp[h0]) hq2
 | false=>
  have h0:¬0≤x:=fun h=>by cases HI.out.1 h
  go_wp2;go_ret;exact .fin (by simp[h0]) hq2
theorem zdC {S:Nat→Prop} {w:World} {va:Value} {l:List (List Int)} (ha:Lists S w va l) {g:Nat} {c0:Value} (p:List Int→Bool)
  (eg:∀args w,(callFunc g args).run Tryz.prog w=.ok (.enter g args) w)
  (hp:∀W,QW w W→∀k,(hk:k<l.length)→∀u,Ints S W u (nthL l k)→Calls Tryz.prog g #[u,c0] W (QuietP W (.bool (p l[k])))):
  Calls Tryz.prog 200 #[va,.func (.func g) #[] #[c0]] w (QuietP w (.int .i64 (idxP p l))):=by
 obtain ⟨a,cap,rfl,ad,l1,lm⟩:=ha.form;unfold maxLen at lm;obtain ⟨i0,hi,hz0,hz1,hz2⟩:=info_parts zW;have HQA:=zhd (zL Tryz.underlying146 hi hz1 ad);have HA:=zhd ha;have HP:=zhd (fun W hW k hk u hu=>(hp W hW k hk u hu).mono fun _ _ h=>h.take);clear hi hz0 hz1 hz2 ha hp;go_enter Tryz.func200,Tryz.ntmps200;go_wp2;go_loopw [8] (fun i wr=>∃k:Nat,k≤l.length∧i=.int .i64 k∧QW w wr∧Hid (∀j (hj:j<l.length),j<k→p l[j]=false)) (fun i _=>l.length - (intOf i).toNat)
 case atStart=>exact ⟨0,Nat.zero_le _,rfl,.refl _,zhd fun j _ hj=>absurd hj (by omega)⟩
 case round=>
  obtain ⟨k,hk,rfl,hQ,hB⟩:=hrel;by_cases hlt:k<l.length
  ·have q:=HQA.out k hlt;obtain ⟨u,cu,iu⟩:=HA.out.at hQ.ext hlt;have KP:=zhd (HP.out wr hQ k hlt u iu);clear iu;obtain ⟨b,hb⟩:=zn (p l[k]);rw[←hb]at KP;have HBB:=zhd hb;clear hb;go_wp2_with fail;refine KP.out.mono ?_;rintro _ w2 ⟨_,rfl,hq2,rfl⟩;have hQ2:=hQ.trans hq2;clear KP hQ hq2 cu;cases b with
   | true=>
    have HR:=zhd (zd1 hlt (fun j hj=>hB.out j _ hj) HBB.out.symm);clear hB;go_wp2;go_ret;exact .fin (zr HR.out.symm) hQ2
   | false=>
    have HN:Hid (∀j (hj:j<l.length),j<k+1→p l[j]=false):=zhd fun j hl hj=>by
     by_cases e:j=k
     ·subst e;exact HBB.out.symm
     ·exact hB.out j hl (by omega)
    clear hB;go_wp2;go_roundw
    case rel=>exact ⟨k+1,by omega,by go_num,hQ2,HN⟩
    case measure=>simp[intOf];omega
  ·obtain rfl:k=l.length:=by omega
   have HR:=zhd (zcA fun j hj=>hB.out j hj hj);clear hB;go_wp2;go_ret;exact .fin (zr HR.out.symm) hQ
theorem XH {S:Nat→Prop} {w:World} {va:Value} {l:List (List Int)} (ha:Lists S w va l) {g:Nat} {c0:Value} (p:List Int→Bool)
  (eg:∀args w,(callFunc g args).run Tryz.prog w=.ok (.enter g args) w)
  (hp:∀W,QW w W→∀k,(hk:k<l.length)→∀u,Ints S W u (nthL l k)→Calls Tryz.prog g #[u,c0] W (QuietP W (.bool (p l[k])))):
  Calls Tryz.prog 193 #[va,.func (.func g) #[] #[c0]] w (QuietP w (.bool (l.any p))):=by
 have K:=zhd ((zdC ha p eg hp).mono fun _ _ h=>h.take);have HI:=zhd (zdN (p:=p) (l:=l));obtain ⟨a,cap,rfl,_⟩:=ha.form;clear hp ha eg;obtain ⟨x,hx⟩:=zn (idxP p l);obtain ⟨b,hb⟩:=zn (l.any p);rw[←hx]at K HI;rw[←hb]at HI ⊢;clear hx hb;go_enter Tryz.func193,Tryz.ntmps193;go_wp2_with fail;refine K.out.mono ?_;rintro _ w2 ⟨_,rfl,hq2,rfl⟩;clear K;cases b with
 | true=>
  have h0:0≤x:=HI.out.2 rfl;go_wp2;go_ret;exact .fin (by simp[h0]) hq2
 | false=>
  have h0:¬0≤x:=fun h=>by cases HI.out.1 h
  go_wp2;go_ret;exact .fin (by simp[h0]) hq2
def badV (most x:Int):Bool:=decide (x<0)||decide (most≤x)
theorem zd2 {v:List Int} {n most:Int} (h:(v.length:Int)≠n):vecE v n most=15:=by unfold vecE;rw[if_neg h]
theorem zgM {v:List Int} {n most:Int} (h:(v.length:Int)=n):vecE v n most=if v.any (badV most) then 2 else 0:=by unfold vecE;rw[if_pos h];rfl
theorem zgS (w:World) (b:Nat) (x most:Int) (hc:w.cell? ⟨b,0,none⟩=some (.int .i64 most)):Calls Tryz.prog 182 #[x,.pointer (some ⟨b,0,none⟩)] w (QuietP w (.bool (badV most x))):=by
 unfold badV;by_cases h0:x<0
 ·rw[decide_eq_true h0,Bool.true_or];go_enter Tryz.func182,Tryz.ntmps182;go_wp2;go_ret;exact .same
 by_cases h1:most≤x
 ·rw[decide_eq_false h0,decide_eq_true h1,Bool.or_true];go_enter Tryz.func182,Tryz.ntmps182;go_wp2;go_ret;exact .same
 ·rw[decide_eq_false h0,decide_eq_false h1,Bool.or_false];go_enter Tryz.func182,Tryz.ntmps182;go_wp2;go_ret;exact .same
theorem Ym {S:Nat→Prop} {w:World} {v:Value} {l:List Int} (h:Ints S w v l) (n most:Int):
  Calls Tryz.prog 167 #[v,n,most] w (Post w fun _ r=>r=.int .i64 (vecE l n most)):=by
 have ex:=ze w (.cells #[most] 3);have R:Row (w.alloc (.cells #[most] 3)) w.heap.size 3 [most]:=zi w [most] _;have K:=zhd (XD (h.ext ex) (g:=182) (c0:=.pointer (some ⟨w.heap.size,0,none⟩)) (badV most) (by intro args w;rfl) fun W hW k hk=>by
  rw[←yM hk];exact zgS W _ _ most ((R.ext hW.ext).cell rfl))
 obtain ⟨a,c,rfl,_⟩:=h.form;clear h R;by_cases hl:(l.length:Int)=n
 ·rw[zgM hl];have e:((l.length:Int) !=n)=false:=by simp[hl]
  obtain ⟨b,hb⟩:=zn (l.any (badV most));rw[←hb]at K ⊢;clear hl hb;cases b with
  | true=>
   go_enter Tryz.func167,Tryz.ntmps167;go_wp2_with fail;refine (K.out.mono fun _ _ h=>h.take).mono ?_;rintro _ w2 ⟨_,rfl,hq2,rfl⟩;go_wp2;go_ret;exact .mk (za ex hq2.ext) rfl
  | false=>
   go_enter Tryz.func167,Tryz.ntmps167;go_wp2_with fail;refine (K.out.mono fun _ _ h=>h.take).mono ?_;rintro _ w2 ⟨_,rfl,hq2,rfl⟩;go_wp2;go_ret;exact .mk (za ex hq2.ext) rfl
 ·rw[zd2 hl];have e:((l.length:Int) !=n)=true:=by simpa using hl
  clear hl K;go_enter Tryz.func167,Tryz.ntmps167;go_wp2;go_ret;exact .mk ex rfl
theorem Xb {S:Nat→Prop} {w:World} {v:Value} {l:List Int} (h:Ints S w v l) (n most:Int):
  Calls Tryz.prog 173 #[v,n,most] w (QuietP w (.int .i64 (vecE l n most))):=by
 obtain ⟨a,c,rfl,hm,Q,C⟩:=zjR h;clear h;by_cases hl:(l.length:Int)=n
 ·rw[zgM hl];obtain ⟨r,hr⟩:∃r:Int,r=if l.any (badV most) then 2 else 0:=⟨_,rfl⟩;rw[←hr];have HRR:=zhd hr;have e:((l.length:Int) !=n)=false:=by simp[hl]
  have HN:=zhd hl;clear hl hr;go_enter Tryz.func173,Tryz.ntmps173;go_wp2;go_loopw [7] (fun i wr=>∃k:Nat,k≤l.length∧i=.int .i64 k∧QW w wr∧Hid (∀j (hj:j<l.length),j<k→badV most l[j]=false)) (fun i _=>l.length - (intOf i).toNat)
  case atStart=>exact ⟨0,Nat.zero_le _,rfl,.refl _,zhd fun j _ hj=>absurd hj (by omega)⟩
  case round=>
   obtain ⟨k,hk,rfl,hQ,hB⟩:=hrel;have hn1:(l.length:Int)≤n:=by have:=HN.out;omega
   have hn2:n≤(l.length:Int):=by have:=HN.out;omega
   by_cases hlt:k<l.length
   ·have q:=Q.out k hlt;have p:=zm (C.out k hlt) hQ.ext;obtain ⟨x,hx⟩:=zn (nth l k);rw[←hx]at p;have HX:Hid (badV most l[k]=badV most x):=zhd (by rw[hx,yM hlt]);clear hx;by_cases h0:x<0
    ·have HR:Hid (r=2):=zhd (by rw[HRR.out,zdk hlt (by rw[HX.out];simp[badV,h0])];rfl);go_wp2;go_ret;exact .fin (zr HR.out.symm) hQ
    by_cases h1:most≤x
    ·have HR:Hid (r=2):=zhd (by rw[HRR.out,zdk hlt (by rw[HX.out];simp[badV,h1])];rfl);go_wp2;go_ret;exact .fin (zr HR.out.symm) hQ
    ·have HN:Hid (∀j (hj:j<l.length),j<k+1→badV most l[j]=false):=zhd fun j hl hj=>by
      by_cases e:j=k
      ·subst e;rw[HX.out];simp[badV];omega
      ·exact hB.out j hl (by omega)
     go_wp2;go_roundw
     case rel=>exact ⟨k+1,by omega,by go_num,hQ,HN⟩
     case measure=>simp[intOf];omega
   ·obtain rfl:k=l.length:=by omega
    have HR:Hid (r=0):=zhd (by rw[HRR.out,ziD fun j hj=>hB.out j hj hj];rfl);go_wp2;go_ret;exact .fin (zr HR.out.symm) hQ
 ·rw[zd2 hl];have e:((l.length:Int) !=n)=true:=by simpa using hl
  clear hl;go_enter Tryz.func173,Tryz.ntmps173;go_wp2;go_ret;exact .same
theorem zjp {l:List (List Int)} {v:List Int}:l.any (fun x=>decide (ordL x v=0))=decide (v∈l):=by
 rw[Bool.eq_iff_iff,List.any_eq_true,decide_eq_true_eq];constructor
 ·rintro ⟨x,hx,h⟩;have:=Xn.1 (of_decide_eq_true h);exact this▸hx
 ·intro h;exact ⟨v,h,decide_eq_true (Xn.2 rfl)⟩
theorem zhn {l:List (List Int)} {v:List Int}:l.any (fun x=>decide (x=v))=decide (v∈l):=by
 rw[Bool.eq_iff_iff,List.any_eq_true,decide_eq_true_eq];constructor
 ·rintro ⟨x,hx,h⟩;have:=of_decide_eq_true h;exact this▸hx
 ·intro h;exact ⟨v,h,decide_eq_true rfl⟩
theorem ziC {S S':Nat→Prop} {w:World} {v u:Value} {l:List (List Int)} {x:List Int} (h:Lists S w v l) (hx:Ints S' w u x):
  Calls Tryz.prog 175 #[v,u] w (QuietP w (.bool (decide (x∈l)))):=by
 rw[←zjp];obtain ⟨a,cap,rfl,ad,l1,lm⟩:=h.form;unfold maxLen at lm;obtain ⟨i0,hi,hz0,hz1,hz2⟩:=info_parts zW;have HQA:=zhd (zL Tryz.underlying146 hi hz1 ad);have HA:=zhd h;have HX:=zhd hx;clear hi hz0 hz1 hz2 h hx;go_enter Tryz.func175,Tryz.ntmps175;go_wp2;go_loopw [5] (fun i wr=>∃k:Nat,k≤l.length∧i=.int .i64 k∧QW w wr∧Hid (∀j (hj:j<l.length),j<k→decide (ordL l[j] x=0)=false)) (fun i _=>l.length - (intOf i).toNat)
 case atStart=>exact ⟨0,Nat.zero_le _,rfl,.refl _,zhd fun j _ hj=>absurd hj (by omega)⟩
 case round=>
  obtain ⟨k,hk,rfl,hQ,hB⟩:=hrel;by_cases hlt:k<l.length
  ·have q:=HQA.out k hlt;obtain ⟨u1,cu,iu⟩:=HA.out.at hQ.ext hlt;rw[ya hlt]at iu;have KP:=zhd ((xZ iu (HX.out.ext hQ.ext)).mono fun _ _ h=>h.take);clear iu;obtain ⟨b,hb⟩:=zn (ordL l[k] x);rw[←hb]at KP;have HBB:=zhd hb;clear hb;go_wp2_with fail;refine KP.out.mono ?_;rintro _ w2 ⟨_,rfl,hq2,rfl⟩;have hQ2:=hQ.trans hq2;clear KP hQ hq2 cu;by_cases h0:b=0
   ·have HR:=zhd (zdk (p:=fun y=>decide (ordL y x=0)) hlt (by simp[←HBB.out,h0]));subst h0;clear hB;go_wp2;go_ret;exact .fin (zE HR.out.symm) hQ2
   ·have HN:Hid (∀j (hj:j<l.length),j<k+1→decide (ordL l[j] x=0)=false):=zhd fun j hl hj=>by
     by_cases e:j=k
     ·subst e;rw[←HBB.out];exact decide_eq_false h0
     ·exact hB.out j hl (by omega)
    have e0:(b==0)=false:=by simp[h0]
    clear hB h0;go_wp2;go_roundw
    case rel=>exact ⟨k+1,by omega,by go_num,hQ2,HN⟩
    case measure=>simp[intOf];omega
  ·obtain rfl:k=l.length:=by omega
   have HR:=zhd (ziD (p:=fun y=>decide (ordL y x=0)) fun j hj=>hB.out j hj hj);clear hB;go_wp2;go_ret;exact .fin (zE HR.out.symm) hQ
theorem zkb {S S':Nat→Prop} {w:World} {u v:Value} {x y:List Int} (hu:Ints S w u x) (hv:Ints S' w v y) {b:Nat} (hc:w.cell? ⟨b,0,none⟩=some v):Calls Tryz.prog 194 #[u,.pointer (some ⟨b,0,none⟩)] w (QuietP w (.bool (decide (x=y)))):=by
 have K:=zhd ((QR hu hv).mono fun _ _ h=>h.take);obtain ⟨a1,c1,rfl,_⟩:=hu.form;obtain ⟨a2,c2,rfl,_⟩:=hv.form;clear hu hv;go_enter Tryz.func194,Tryz.ntmps194;go_wp2_with fail;refine K.out.mono ?_;rintro _ w2 ⟨_,rfl,hq2,rfl⟩;go_wp2;go_ret;exact .fin rfl hq2
theorem ze5 {S S':Nat→Prop} {w:World} {v u:Value} {l:List (List Int)} {x:List Int} (h:Lists S w v l) (hx:Ints S' w u x):
  Calls Tryz.prog 185 #[v,u] w (Post w fun _ r=>r=.bool (decide (x∈l))):=by
 rw[←zhn];have ex:=ze w (.cells #[u] 36);have R:Row (w.alloc (.cells #[u] 36)) w.heap.size 36 [u]:=zi w [u] _;have hx1:=hx.ext ex;have K:=zhd ((XH (h.ext ex) (g:=194) (c0:=.pointer (some ⟨w.heap.size,0,none⟩)) (fun y=>decide (y=x)) (by intro args w;rfl) fun W hW k hk u1 hu1=>by
  rw[←ya hk];exact zkb hu1 (hx1.ext hW.ext) ((R.ext hW.ext).cell rfl)).mono fun _ _ h=>h.take)
 obtain ⟨a,c,rfl,_⟩:=h.form;obtain ⟨a2,c2,rfl,_⟩:=hx.form;clear h hx hx1 R;go_enter Tryz.func185,Tryz.ntmps185;go_wp2_with fail;refine K.out.mono ?_;rintro _ w2 ⟨_,rfl,hq2,rfl⟩;go_wp2;go_ret;exact .mk (za ex hq2.ext) rfl
theorem QZ {S:Nat→Prop} {w:World} {v:Value} {l:List (List Int)} (h:Lists S w v l) {k:Nat} (hk:k<l.length):
  Calls Tryz.prog 184 #[v,k] w (QuietP w (.bool (unord l k))):=by
 obtain ⟨a,cap,rfl,ad,l1,lm⟩:=h.form;unfold maxLen at lm;obtain ⟨i0,hi,hz0,hz1,hz2⟩:=info_parts zW;have HQA:=zhd (zL Tryz.underlying146 hi hz1 ad);clear hi hz0 hz1 hz2;by_cases h0:0<k
 ·obtain ⟨j,hj⟩:=zn (k - 1);have q1:=HQA.out j (by omega);have q2:=HQA.out k hk;obtain ⟨u1,cu1,iu1⟩:=h.at (.refl _ _) (show j<l.length by omega);obtain ⟨u2,cu2,iu2⟩:=h.at (.refl _ _) hk;have eu:unord l k=decide (0≤ordL (nthL l j) (nthL l k)):=by unfold unord;rw[←hj];simp[h0]
  rw[eu];have K:∀n,Calls Tryz.prog 168 #[u1,u2] (w.drewN n) (QuietP (w.drewN n) (.int .i64 (ordL (nthL l j) (nthL l k)))):=fun n=>ziJ (iu1.drewN n) (iu2.drewN n);obtain ⟨x,hx⟩:=zn (ordL (nthL l j) (nthL l k));rw[←hx]at K ⊢;have KH:=zhd K;have w1:IntKind.i64.wrap ((k:Int) - 1)=j:=by rw[IntKind.wrap_i64];omega
  have w2:decide ((0:Int)<(k:Int))=true:=decide_eq_true (by omega);have w3:decide (0<k)=true:=decide_eq_true h0;have w4:(0:Int)≤(j:Int):=by omega
  have w5:(j:Int)<(l.length:Int):=by omega
  have w6:(k:Int)<(l.length:Int):=by omega
  clear hj;clear hx eu h K iu1 iu2;by_cases hx0:0≤x
  ·rw[decide_eq_true hx0];go_enter Tryz.func184,Tryz.ntmps184;go_wp2;go_quiet ((go_at_call 168;exact zG (KH.out _)));go_wp2;go_ret;exact .of (by simp[hx0]) _
  ·rw[decide_eq_false hx0];go_enter Tryz.func184,Tryz.ntmps184;go_wp2;go_quiet ((go_at_call 168;exact zG (KH.out _)));go_wp2;go_ret;exact .of (by simp[hx0]) _
 ·obtain rfl:k=0:=by omega
  have eu:unord l 0=false:=by unfold unord;simp
  rw[eu];have hj0:decide ((0:Int)<((0:Nat):Int))=false:=by simp
  clear h eu;go_enter Tryz.func184,Tryz.ntmps184;go_wp2;go_quiet (fail);go_wp2;go_ret;exact .of rfl _
end Go.Proofs.YtiabbjolepnjkaaGreat
