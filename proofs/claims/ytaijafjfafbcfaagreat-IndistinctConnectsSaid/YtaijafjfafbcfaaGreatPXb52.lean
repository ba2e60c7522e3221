/- Part of the proof that the laws answer true for every input. -/
import Derived.Test.YtaijafjfafbcfaaGreatPXb02
import Derived.Test.YtaijafjfafbcfaaGreatPXb26
import Derived.WalkKit
import Derived.ProofKit
import Derived.OpenShut
import Derived.ShutString
import Derived.ChangeOld
import Derived.Below
import Derived.Lib.SmallJoins
import Derived.LaidMore
import Derived.SizedLaws
import Derived.Test.YtaijafjfafbcfaaGreatRows
set_option linter.unusedSimpArgs false
set_option linter.unnecessarySimpa false
set_option linter.unusedVariables false
set_option maxRecDepth 100000
set_option maxHeartbeats 40000000
namespace Go.Proofs.YtaijafjfafbcfaaGreat
open Go.ChangeShapes Go.WideShapes Go.ChangeAt Go.RowKit
theorem ownGodebug:ownKnob Tryz.prog.godebug=none:=by kernel_rfl
theorem laidOutAll:laidOutB Tryz.prog=true:=by kernel_rfl
theorem cellsR_int:Tryz.prog.cellsOf 3=1:=by kernel_rfl
theorem cellsR_ints:Tryz.prog.cellsOf 44=1:=by kernel_rfl
theorem cellsR_lists:Tryz.prog.cellsOf 79=1:=by kernel_rfl
theorem cellsR_five:Tryz.prog.cellsOf 115=5:=by kernel_rfl
theorem cellsR_graph:Tryz.prog.cellsOf 117=6:=by kernel_rfl
theorem cellsR_round:Tryz.prog.cellsOf 119=7:=by kernel_rfl
theorem cellsR_move:Tryz.prog.cellsOf 121=8:=by kernel_rfl
theorem cellsR_moves:Tryz.prog.cellsOf 114=1:=by kernel_rfl
theorem cellsR_states:Tryz.prog.cellsOf 25=1:=by kernel_rfl
theorem cellsR_case:Tryz.prog.cellsOf 123=3:=by kernel_rfl
theorem cellsR_cases:Tryz.prog.cellsOf 22=1:=by kernel_rfl
theorem cellsR_task:Tryz.prog.cellsOf 24=4:=by kernel_rfl
theorem cellsR_adv:Tryz.prog.cellsOf 27=2:=by kernel_rfl
theorem cellsR_prob:Tryz.prog.cellsOf 29=7:=by kernel_rfl
def Lim {H:Type} (t:TypeId) (d:DataW H):Prop:=∀n∈d.weights Tryz.prog t,n≤reachBytes
section
variable {H:Type} {enc:TypeId×Value→H} {W:World}
theorem lim_arg {ts:List TypeId} {ds:List (DataW H)} (h:(DataW.weightsEach Tryz.prog ts ds).all (·≤reachBytes)=true) {j:Nat} {t:TypeId} {d:DataW H} (ht:ts[j]? =some t) (hd:ds[j]? =some d):Lim t d:=fun n hn=>by
 have:=List.all_eq_true.1 h _ (DataW.weights_mem_each ht hd n hn)
 simpa using this
theorem lim_part {t:TypeId} {fs:Array Field} (hu:Tryz.prog.underlying t=some (.struct fs)) {parts:List (DataW H)} (h:Lim t (.agg parts)) {i:Nat} {f:Field} {d:DataW H} (hf:fs[i]? =some f) (hd:parts[i]? =some d):Lim f.type d:=fun n hn=>
 h n (by
  simp only[DataW.weights,hu]
  exact DataW.weights_mem_each (j:=i) (by simp[hf]) hd n hn)
theorem all_mem {e:TypeId} {l:List (DataW H)} {d:DataW H} (hd:d∈l) {n:Nat} (hn:n∈d.weights Tryz.prog e):n∈DataW.weightsAll Tryz.prog e l:=by
 induction l with
 | nil=>cases hd
 | cons x r ih=>
  simp only[DataW.weightsAll,List.mem_append]
  rcases List.mem_cons.1 hd with rfl | h
  ·exact .inl hn
  ·exact .inr (ih h)
theorem lim_slice {t e:TypeId} (hu:Tryz.prog.underlying t=some (.slice e)) {el sp:List (DataW H)} (h:Lim t (.slice el sp)):(el.length+sp.length) * Tryz.prog.bytesOf e≤reachBytes∧∀d∈el,Lim e d:=by
 unfold Lim at h
 simp only[DataW.weights,hu]at h
 exact ⟨h _ (List.mem_cons_self ..),fun d hd n hn=>h n (List.mem_cons_of_mem _ (List.mem_append.2 (.inl (all_mem hd hn))))⟩
theorem read_lt {t:TypeId} {v:Value} {d:DataW H} {p:List MemPlace}
  (h:DataW.Trod enc Tryz.prog W 0 (fun _=>true) true t v d p):∀x∈p,x.block<W.heap.size:=by
 obtain ⟨m,hm⟩:=h;exact DataW.trod_lt m _ _ _ hm
theorem spot_none {a:Addr} {u:Value} (c0:W.cell? a=some u):a.spot=none:=by
 unfold World.cell? at c0
 split at c0
 ·split at c0
  ·cases c0
  ·rename_i hs;simpa using hs
 ·cases c0
theorem add_zero' (a:Addr):a.add 0=a:=by simp[Addr.add]
theorem add_adr {a:Addr} (h:a.spot=none) (j:Nat):a.add j=adr (some a) j:=by
 unfold Addr.add adr
 split
 ·rename_i hj;subst hj;cases a;simp at h;simp[h]
 ·rfl
theorem add_adr2 {a:Addr} (h:a.spot=none) (k j:Nat):(a.add k).add j=adr (some a) (k+j):=by
 rw[add_adr h k,add_adr (a:=adr (some a) k) rfl j]
 simp[adr,Nat.add_assoc]
theorem choose_gen {α:Type} {Q:Nat→α→Prop}:∀n:Nat,(∀i,i<n→∃e,Q i e)→∃l:List α,l.length=n∧∀i (h:i<l.length),Q i l[i]:=by
 intro n
 induction n with
 | zero=>intro _;exact ⟨[],rfl,fun i hi=>by simp at hi⟩
 | succ n ih=>
  intro h
  obtain ⟨l,hl,hq⟩:=ih fun i hi=>h i (by omega)
  obtain ⟨e,he⟩:=h n (by omega)
  refine ⟨l++[e],by simp[hl],fun i hi=>?_⟩
  by_cases hin:i<l.length
  ·rw[List.getElem_append_left hin];exact hq i hin
  ·obtain rfl:i=l.length:=by simp at hi;omega
   rw[List.getElem_append_right (Nat.le_refl _)]
   simp
   rw[hl];exact he
theorem sl_of_trod {α:Type} {K:Kd α} {t e:TypeId} (ht:Tryz.prog.underlying t=some (.slice e)) (hz:Tryz.prog.cellsOf e=K.size) (hp:0<K.size) (hb:1≤Tryz.prog.bytesOf e)
  (hr:∀(m:Nat) (cs:List Value) (x:DataW H×List MemPlace),DataW.trod enc Tryz.prog W 0 (fun _=>true) true m e cs=some x→Lim e x.1→∃y,K.rd (fun _=>True) W cs y)
  {m:Nat} {cs:List Value} {x:DataW H×List MemPlace} (h:DataW.trod enc Tryz.prog W 0 (fun _=>true) true m t cs=some x) (hl:Lim t x.1):∃v l,cs=[v]∧Sl K (fun _=>True) W v l:=by
 rcases DataW.trod_slice ht h with ⟨e2,_⟩ | ⟨a,len,cap,elems,rest,m',rfl,e2,hx,_,hlc,hm,hel,hi,hsp,_⟩
 ·exact ⟨_,[],e2,Sl.nil K _ _⟩
 ·rw[hz]at hi hsp
  subst e2
  rw[hx]at hl
  obtain ⟨hw,hle⟩:=lim_slice ht hl
  have hlen:len≤140737488355328:=by
   have h1:(elems.map (·.1)).length+(rest.map (·.1)).length≤((elems.map (·.1)).length+(rest.map (·.1)).length) * Tryz.prog.bytesOf e:=Nat.le_mul_of_pos_right _ hb
   have h2:reachBytes=140737488351232:=rfl
   rw[h2]at hw
   simp only[List.length_map]at h1 hw
   omega
  by_cases hc0:cap=0
  ·have hl0:len=0:=by omega
   subst hc0 hl0
   exact ⟨_,[],rfl,some a,0,rfl,.inl ⟨rfl,rfl⟩,Nat.le_refl _,⟨by simp[maxLen],by simp⟩,fun j hj=>by simp at hj⟩
  ·have key0:∀{l:List (DataW H×List MemPlace)},0<l.length→(W.cells? 0 (a.add (0 * K.size)) K.size).bind (DataW.trod enc Tryz.prog W 0 (fun _=>true) true m' e)=l[0]?→∃u,W.cell? a=some u:=by
    intro l h0 hq
    rw[List.getElem?_eq_getElem h0]at hq
    cases hc:W.cells? 0 (a.add (0 * K.size)) K.size with
    | none=>rw[hc]at hq;cases hq
    | some cs'=>
     obtain ⟨_,hl3,hat⟩:=World.cells?_some hc
     have:=hat 0 hp
     rw[Nat.zero_mul,add_zero',add_zero',List.getElem?_eq_getElem (by omega)]at this
     exact ⟨_,this⟩
   have hcell0:∃u,W.cell? a=some u:=by
    by_cases hl0:len=0
    ·have h3:=(hsp rfl).2 0 (by omega)
     have hrl:=(hsp rfl).1
     rw[hl0]at h3
     exact key0 (by omega) h3
    ·exact key0 (by omega) (hi 0 (by omega))
   obtain ⟨u,hu⟩:=hcell0
   have hs:=spot_none hu
   have hbl:a.block<W.heap.size:=World.block_lt_of_cell? W _ hu
   obtain ⟨es,hes,hq⟩:=choose_gen (Q:=fun i y=>∃cs:List Value,(∀j,j<K.size→W.cell? (adr (some a) (i * K.size+j))=cs[j]?)∧K.rd (fun _=>True) W cs y) len (by
    intro i hil
    have h3:=hi i hil
    rw[List.getElem?_eq_getElem (by omega)]at h3
    cases hc:W.cells? 0 (a.add (i * K.size)) K.size with
    | none=>rw[hc]at h3;cases h3
    | some cs'=>
     rw[hc]at h3
     obtain ⟨_,hl3,hat⟩:=World.cells?_some hc
     obtain ⟨y,hy⟩:=hr m' cs' _ h3 (hle _ (List.mem_map.2 ⟨_,List.getElem_mem (by omega),rfl⟩))
     exact ⟨y,cs',fun j hj=>by rw[←add_adr2 hs];exact hat j hj,hy⟩)
   subst hes
   exact ⟨_,es,rfl,some a,cap,rfl,.inr ⟨a.block,a.off,by cases a;simp at hs;simp[hs],hbl,trivial⟩,hlc,⟨hm,hlen⟩,hq⟩
theorem ints_of_trod {m:Nat} {cs:List Value} {x:DataW H×List MemPlace} (hf:DataW.trod enc Tryz.prog W 0 (fun _=>true) true m 44 cs=some x):∃v l,cs=[v]∧Ints (fun _=>True) W v l:=by
 rcases open_ints Tryz.underlying44 Tryz.underlying3 (by kernel_rfl) hf with ⟨hcs,_⟩ | ⟨x,l,c,zs,hcs,_,hl,hm,hz,_,hcell,hwz⟩
 ·exact ⟨_,[],hcs,Ints.nil _ _⟩
 ·have hz':zs.length=c:=by simpa using hz
  have hlen:(zs.take l).length=l:=by simp;omega
  refine ⟨_,zs.take l,hcs,?_⟩
  have hw:∀y∈zs.take l,WF y:=fun y hy=>WF.of_lit (hwz y (List.mem_of_mem_take hy))
  by_cases h0:zs.length=0
  ·have hl0:l=0:=by omega
   have hc0:c=0:=by omega
   subst hl0 hc0
   exact ⟨some x,0,by simp,.inl ⟨by simp,rfl⟩,by simp,by simp[maxLen],fun j hj=>by simp at hj,hw⟩
  ·have c0:=hcell 0 (by omega)
   rw[add_zero']at c0
   have hx:=spot_none c0
   have hb:x.block<W.heap.size:=World.block_lt_of_cell? W _ c0
   refine ⟨some x,c,by rw[hlen],.inr ⟨x.block,x.off,by cases x;simp at hx;simp[hx],hb,trivial⟩,by omega,hm,fun j hj=>?_,hw⟩
   have:=hcell j (by omega)
   rw[add_adr hx]at this
   rw[this]
   congr 2
   rw[hlen]at hj
   simp[nth,hj]
theorem fld {t:TypeId} {fs:Array Field} (hu:Tryz.prog.underlying t=some (.struct fs)) {m:Nat} {cs:List Value} {x:DataW H×List MemPlace} (h:DataW.trod enc Tryz.prog W 0 (fun _=>true) true m t cs=some x) (hl:Lim t x.1):
  cs.length=Tryz.prog.cellsOf t∧∀(i:Nat) (f:Field),fs[i]? =some f→∃m' y,DataW.trod enc Tryz.prog W 0 (fun _=>true) true m' f.type ((cs.drop f.offset).take (Tryz.prog.cellsOf f.type))=some y∧Lim f.type y.1:=by
 obtain ⟨xs,n,rfl,hx,hlen,hxl,hg⟩:=DataW.trod_struct hu h
 refine ⟨hlen,fun i f hf=>?_⟩
 have hi:i<xs.length:=by
  rw[hxl]
  exact (Array.getElem?_eq_some_iff.1 hf).1
 have h1:=hg i f hf
 rw[List.getElem?_eq_getElem hi]at h1
 rw[hx]at hl
 exact ⟨n,xs[i],h1,lim_part hu hl hf (by rw[List.getElem?_map,List.getElem?_eq_getElem hi];rfl)⟩
def Flt (enc:TypeId×Value→H) (W:World) (t:TypeId) (n:Nat):Prop:=
 ∀(m:Nat) (cs:List Value) (x:DataW H×List MemPlace),DataW.trod enc Tryz.prog W 0 (fun _=>true) true m t cs=some x→∃l:List Int,l.length=n∧cs=l.map (Value.int .i64)∧∀y∈l,WF y
theorem flt_int:Flt enc W 3 1:=fun m cs x h=>by
 obtain ⟨z,e0,_,w0⟩:=DataW.trod_int Tryz.underlying3 h
 exact ⟨[z],rfl,e0,fun y hy=>by rw[List.mem_singleton.1 hy];exact WF.of_lit w0⟩
theorem flt_grow {cs:List Value} {s n:Nat} {l l2:List Int} (hl:l.length=s) (h1:cs.take s=l.map (Value.int .i64)) (w1:∀y∈l,WF y) (hl2:l2.length=n) (h2:(cs.drop s).take n=l2.map (Value.int .i64)) (w2:∀y∈l2,WF y):
  ∃l:List Int,l.length=s+n∧cs.take (s+n)=l.map (Value.int .i64)∧∀y∈l,WF y:=
 ⟨l++l2,by simp[hl,hl2],by rw[List.take_add,h1,h2,List.map_append],fun y hy=>(List.mem_append.1 hy).elim (w1 y) (w2 y)⟩
theorem flt_array {t e:TypeId} {n:Nat} (hu:Tryz.prog.underlying t=some (.array n e)) (hc:Tryz.prog.cellsOf t=n) (he:Tryz.prog.cellsOf e=1) (hf:Flt enc W e 1):Flt enc W t n:=fun m cs x h=>by
 obtain ⟨xs,m',rfl,hx,hlen,hxl,hg⟩:=DataW.trod_array hu h
 have key:∀k,k≤n→∃l:List Int,l.length=k∧cs.take k=l.map (Value.int .i64)∧∀y∈l,WF y:=by
  intro k
  induction k with
  | zero=>intro _;exact ⟨[],rfl,by simp,fun y hy=>by cases hy⟩
  | succ k ih=>
   intro hk
   obtain ⟨l,hl,h1,w1⟩:=ih (by omega)
   have h2:=hg k (by omega)
   rw[he,Nat.mul_one,List.getElem?_eq_getElem (by omega)]at h2
   obtain ⟨l2,hl2,h3,w2⟩:=hf _ _ _ h2
   exact flt_grow hl h1 w1 hl2 h3 w2
 obtain ⟨l,hl,h1,w⟩:=key n (Nat.le_refl _)
 rw[List.take_of_length_le (by omega)]at h1
 exact ⟨l,hl,h1,w⟩
theorem flt_struct {t:TypeId} {fs:Array Field} {ns:List Nat} (hu:Tryz.prog.underlying t=some (.struct fs)) (hc:Tryz.prog.cellsOf t=ns.sum)
  (hf:∀(i n:Nat),ns[i]? =some n→∃f,fs[i]? =some f∧f.offset=(ns.take i).sum∧Tryz.prog.cellsOf f.type=n∧Flt enc W f.type n):Flt enc W t ns.sum:=fun m cs x h=>by
 obtain ⟨xs,m',rfl,hx,hlen,hxl,hg⟩:=DataW.trod_struct hu h
 have key:∀k,k≤ns.length→∃l:List Int,l.length=(ns.take k).sum∧cs.take (ns.take k).sum=l.map (Value.int .i64)∧∀y∈l,WF y:=by
  intro k
  induction k with
  | zero=>intro _;exact ⟨[],rfl,by simp,fun y hy=>by cases hy⟩
  | succ k ih=>
   intro hk
   obtain ⟨l,hl,h1,w1⟩:=ih (by omega)
   obtain ⟨f,f1,f2,f3,f4⟩:=hf k ns[k] (List.getElem?_eq_getElem (by omega))
   have h2:=hg k f f1
   have hi:k<xs.length:=by rw[hxl];exact (Array.getElem?_eq_some_iff.1 f1).1
   rw[f2,f3,List.getElem?_eq_getElem hi]at h2
   obtain ⟨l2,hl2,h3,w2⟩:=f4 _ _ _ h2
   have hs:(ns.take (k+1)).sum=(ns.take k).sum+ns[k]:=by rw[List.take_add_one,List.getElem?_eq_getElem (by omega),List.sum_append];simp
   rw[hs]
   exact flt_grow hl h1 w1 hl2 h3 w2
 obtain ⟨l,hl,h1,w⟩:=key ns.length (Nat.le_refl _)
 rw[List.take_length]at hl h1
 rw[List.take_of_length_le (by omega)]at h1
 exact ⟨l,hl,h1,w⟩
theorem flt_five:Flt enc W 115 5:=flt_array Tryz.underlying115 cellsR_five cellsR_int flt_int
theorem flt_graph:Flt enc W 117 6:=flt_struct (ns:=[1,5]) Tryz.underlying117 cellsR_graph fun i n hi=>by
 match i,hi with
 | 0,hi=>cases hi;exact ⟨_,rfl,rfl,cellsR_int,flt_int⟩
 | 1,hi=>cases hi;exact ⟨_,rfl,rfl,cellsR_five,flt_five⟩
theorem flt_round:Flt enc W 119 7:=flt_struct (ns:=[6,1]) Tryz.underlying119 cellsR_round fun i n hi=>by
 match i,hi with
 | 0,hi=>cases hi;exact ⟨_,rfl,rfl,cellsR_graph,flt_graph⟩
 | 1,hi=>cases hi;exact ⟨_,rfl,rfl,cellsR_int,flt_int⟩
theorem flt_move:Flt enc W 121 8:=flt_struct (ns:=[7,1]) Tryz.underlying121 cellsR_move fun i n hi=>by
 match i,hi with
 | 0,hi=>cases hi;exact ⟨_,rfl,rfl,cellsR_round,flt_round⟩
 | 1,hi=>cases hi;exact ⟨_,rfl,rfl,cellsR_int,flt_int⟩
theorem flat_of {t:TypeId} {n:Nat} (h:Flt enc W t n):∀(m:Nat) (cs:List Value) (x:DataW H×List MemPlace),DataW.trod enc Tryz.prog W 0 (fun _=>true) true m t cs=some x→Lim t x.1→∃y,(kFlat n).rd (fun _=>True) W cs y:=
 fun m cs x hx _=>by
  obtain ⟨l,h1,h2,h3⟩:=h m cs x hx
  exact ⟨l,h1,h2,h3⟩
theorem moves_of_trod {m:Nat} {cs:List Value} {x:DataW H×List MemPlace} (h:DataW.trod enc Tryz.prog W 0 (fun _=>true) true m 114 cs=some x) (hl:Lim 114 x.1):∃v l,cs=[v]∧Sl (kFlat 8) (fun _=>True) W v l:=
 sl_of_trod (K:=kFlat 8) Tryz.underlying114 cellsR_move (by decide) (of_decide_eq_true (by kernel_rfl)) (flat_of flt_move) h hl
theorem states_of_trod {m:Nat} {cs:List Value} {x:DataW H×List MemPlace} (h:DataW.trod enc Tryz.prog W 0 (fun _=>true) true m 25 cs=some x) (hl:Lim 25 x.1):∃v l,cs=[v]∧Sl (kSl (kFlat 8)) (fun _=>True) W v l:=
 sl_of_trod (K:=kSl (kFlat 8)) Tryz.underlying25 cellsR_moves (by decide) (of_decide_eq_true (by kernel_rfl)) (fun m cs x h1 h2=>let ⟨v,l,e,h3⟩:=moves_of_trod h1 h2;⟨l,v,e,h3⟩) h hl
theorem lists_of_trod {m:Nat} {cs:List Value} {x:DataW H×List MemPlace} (h:DataW.trod enc Tryz.prog W 0 (fun _=>true) true m 79 cs=some x) (hl:Lim 79 x.1):∃v l,cs=[v]∧Lists (fun _=>True) W v l:=
 let ⟨v,l,e,h1⟩:=sl_of_trod (K:=kInts) Tryz.underlying79 cellsR_ints (by decide) (of_decide_eq_true (by kernel_rfl)) (fun m cs x h1 h2=>let ⟨v,l,e,h3⟩:=ints_of_trod h1;⟨l,v,e,h3⟩) h hl
 ⟨v,l,e,.of_sl h1⟩
theorem getR3 {α:Type} {l:List α} (h:l.length=3):∃a0 a1 a2,l=[a0,a1,a2]:=by
 match l,h with
 | [a0,a1,a2],_=>exact ⟨a0,a1,a2,rfl⟩
theorem int_at {m:Nat} {c:Value} {y:DataW H×List MemPlace} (h:DataW.trod enc Tryz.prog W 0 (fun _=>true) true m 3 [c]=some y):∃z:Int,c=.int .i64 z:=by
 obtain ⟨z,e0,_,_⟩:=DataW.trod_int Tryz.underlying3 h
 exact ⟨z,by simpa using e0⟩
theorem case_of_trod (m:Nat) (cs:List Value) (x:DataW H×List MemPlace) (h:DataW.trod enc Tryz.prog W 0 (fun _=>true) true m 123 cs=some x) (hl:Lim 123 x.1):∃y,kCase.rd (fun _=>True) W cs y:=by
 obtain ⟨hlen,hg⟩:=fld Tryz.underlying123 h hl
 rw[cellsR_case]at hlen
 obtain ⟨c0,c1,c2,rfl⟩:=getR3 hlen
 obtain ⟨m0,y0,h0,l0⟩:=hg 0 _ rfl
 replace h0:DataW.trod enc Tryz.prog W 0 (fun _=>true) true m0 44 (([c0,c1,c2].drop 0).take (Tryz.prog.cellsOf 44))=some y0:=h0
 rw[cellsR_ints]at h0
 replace h0:DataW.trod enc Tryz.prog W 0 (fun _=>true) true m0 44 [c0]=some y0:=h0
 obtain ⟨m1,y1,h1,l1⟩:=hg 1 _ rfl
 replace h1:DataW.trod enc Tryz.prog W 0 (fun _=>true) true m1 79 (([c0,c1,c2].drop 1).take (Tryz.prog.cellsOf 79))=some y1:=h1
 rw[cellsR_lists]at h1
 replace h1:DataW.trod enc Tryz.prog W 0 (fun _=>true) true m1 79 [c1]=some y1:=h1
 obtain ⟨m2,y2,h2,l2⟩:=hg 2 _ rfl
 replace h2:DataW.trod enc Tryz.prog W 0 (fun _=>true) true m2 79 (([c0,c1,c2].drop 2).take (Tryz.prog.cellsOf 79))=some y2:=h2
 rw[cellsR_lists]at h2
 replace h2:DataW.trod enc Tryz.prog W 0 (fun _=>true) true m2 79 [c2]=some y2:=h2
 obtain ⟨v0,i0,e0,r0⟩:=ints_of_trod h0
 obtain ⟨v1,i1,e1,r1⟩:=lists_of_trod h1 l1
 obtain ⟨v2,i2,e2,r2⟩:=lists_of_trod h2 l2
 simp only[List.cons.injEq,and_true]at e0 e1 e2
 subst e0 e1 e2
 exact ⟨⟨i0,i1,i2⟩,_,_,_,rfl,r0,r1,r2⟩
theorem cases_of_trod {m:Nat} {cs:List Value} {x:DataW H×List MemPlace} (h:DataW.trod enc Tryz.prog W 0 (fun _=>true) true m 22 cs=some x) (hl:Lim 22 x.1):∃v l,cs=[v]∧Sl (kCase) (fun _=>True) W v l:=
 sl_of_trod (K:=kCase) Tryz.underlying22 cellsR_case (by decide) (of_decide_eq_true (by kernel_rfl)) (case_of_trod) h hl
end
end Go.Proofs.YtaijafjfafbcfaaGreat
namespace Go.Proofs.YtaijafjfafbcfaaGreat
open Go.ChangeShapes Go.WideShapes Go.ChangeAt Go.RowKit
section
variable {H:Type} {enc:TypeId×Value→H} {W:World}
theorem getA3 {α:Type} {l:List α} (h:l.length=3):∃a0 a1 a2,l=[a0,a1,a2]:=by
 match l,h with
 | [a0,a1,a2],_=>exact ⟨a0,a1,a2,rfl⟩
theorem getR7 {α:Type} {l:List α} (h:l.length=7):∃a0 a1 a2 a3 a4 a5 a6,l=[a0,a1,a2,a3,a4,a5,a6]:=by
 match l,h with
 | [a0,a1,a2,a3,a4,a5,a6],_=>exact ⟨a0,a1,a2,a3,a4,a5,a6,rfl⟩
theorem read_prob {base:Nat} {v:Value} {d:DataW H} {p:List MemPlace} (hl:Lim 29 d) (hv:Value.okWide Tryz.prog W .any base 29 v)
  (h:DataW.Trod enc Tryz.prog W 0 (fun _=>true) true 29 v d p):∃(p:ProbD) (vc vs:Value),v=.agg #[.int .i64 p.n,.int .i64 p.ins,.int .i64 p.outs,vc,.int .i64 p.an,vs,.int .i64 p.rounds]∧Sl kCase (fun _=>True) W vc p.cs∧Sl (kSl (kFlat 8)) (fun _=>True) W vs p.st:=by
 obtain ⟨cs,rfl,_⟩:=okWide_struct Tryz.underlying29 hv
 obtain ⟨fuel,hf⟩:=h
 obtain ⟨hlen,gp⟩:=fld Tryz.underlying29 hf hl
 rw[cellsR_prob]at hlen
 obtain ⟨l⟩:=cs
 obtain ⟨c0,c1,c2,c3,c4,c5,c6,hl2⟩:=getR7 hlen
 simp only[Value.cells]at hl2
 subst hl2
 clear hf hlen hv
 obtain ⟨m3,y3,h3,l3⟩:=gp 0 _ rfl
 replace h3:DataW.trod enc Tryz.prog W 0 (fun _=>true) true m3 24 (([c0,c1,c2,c3,c4,c5,c6].drop 0).take (Tryz.prog.cellsOf 24))=some y3:=h3
 rw[cellsR_task]at h3
 replace h3:DataW.trod enc Tryz.prog W 0 (fun _=>true) true m3 24 [c0,c1,c2,c3]=some y3:=h3
 obtain ⟨m4,y4,h4,l4⟩:=gp 1 _ rfl
 replace h4:DataW.trod enc Tryz.prog W 0 (fun _=>true) true m4 27 (([c0,c1,c2,c3,c4,c5,c6].drop 4).take (Tryz.prog.cellsOf 27))=some y4:=h4
 rw[cellsR_adv]at h4
 replace h4:DataW.trod enc Tryz.prog W 0 (fun _=>true) true m4 27 [c4,c5]=some y4:=h4
 obtain ⟨m5,y5,h5,l5⟩:=gp 2 _ rfl
 replace h5:DataW.trod enc Tryz.prog W 0 (fun _=>true) true m5 3 (([c0,c1,c2,c3,c4,c5,c6].drop 6).take (Tryz.prog.cellsOf 3))=some y5:=h5
 rw[cellsR_int]at h5
 replace h5:DataW.trod enc Tryz.prog W 0 (fun _=>true) true m5 3 [c6]=some y5:=h5
 obtain ⟨_,gk⟩:=fld Tryz.underlying24 h3 l3
 obtain ⟨m8,y8,h8,l8⟩:=gk 0 _ rfl
 replace h8:DataW.trod enc Tryz.prog W 0 (fun _=>true) true m8 3 (([c0,c1,c2,c3].drop 0).take (Tryz.prog.cellsOf 3))=some y8:=h8
 rw[cellsR_int]at h8
 replace h8:DataW.trod enc Tryz.prog W 0 (fun _=>true) true m8 3 [c0]=some y8:=h8
 obtain ⟨m9,y9,h9,l9⟩:=gk 1 _ rfl
 replace h9:DataW.trod enc Tryz.prog W 0 (fun _=>true) true m9 3 (([c0,c1,c2,c3].drop 1).take (Tryz.prog.cellsOf 3))=some y9:=h9
 rw[cellsR_int]at h9
 replace h9:DataW.trod enc Tryz.prog W 0 (fun _=>true) true m9 3 [c1]=some y9:=h9
 obtain ⟨m10,y10,h10,l10⟩:=gk 2 _ rfl
 replace h10:DataW.trod enc Tryz.prog W 0 (fun _=>true) true m10 3 (([c0,c1,c2,c3].drop 2).take (Tryz.prog.cellsOf 3))=some y10:=h10
 rw[cellsR_int]at h10
 replace h10:DataW.trod enc Tryz.prog W 0 (fun _=>true) true m10 3 [c2]=some y10:=h10
 obtain ⟨m11,y11,h11,l11⟩:=gk 3 _ rfl
 replace h11:DataW.trod enc Tryz.prog W 0 (fun _=>true) true m11 22 (([c0,c1,c2,c3].drop 3).take (Tryz.prog.cellsOf 22))=some y11:=h11
 rw[cellsR_cases]at h11
 replace h11:DataW.trod enc Tryz.prog W 0 (fun _=>true) true m11 22 [c3]=some y11:=h11
 obtain ⟨_,ga⟩:=fld Tryz.underlying27 h4 l4
 obtain ⟨m12,y12,h12,l12⟩:=ga 0 _ rfl
 replace h12:DataW.trod enc Tryz.prog W 0 (fun _=>true) true m12 3 (([c4,c5].drop 0).take (Tryz.prog.cellsOf 3))=some y12:=h12
 rw[cellsR_int]at h12
 replace h12:DataW.trod enc Tryz.prog W 0 (fun _=>true) true m12 3 [c4]=some y12:=h12
 obtain ⟨m13,y13,h13,l13⟩:=ga 1 _ rfl
 replace h13:DataW.trod enc Tryz.prog W 0 (fun _=>true) true m13 25 (([c4,c5].drop 1).take (Tryz.prog.cellsOf 25))=some y13:=h13
 rw[cellsR_states]at h13
 replace h13:DataW.trod enc Tryz.prog W 0 (fun _=>true) true m13 25 [c5]=some y13:=h13
 obtain ⟨z8,rfl⟩:=int_at h8
 obtain ⟨z9,rfl⟩:=int_at h9
 obtain ⟨z10,rfl⟩:=int_at h10
 obtain ⟨v11,i11,e11,r11⟩:=cases_of_trod h11 l11
 obtain ⟨z12,rfl⟩:=int_at h12
 obtain ⟨v13,i13,e13,r13⟩:=states_of_trod h13 l13
 obtain ⟨z5,rfl⟩:=int_at h5
 simp only[List.cons.injEq,and_true]at e11 e13
 subst e11 e13
 exact ⟨⟨z8,z9,z10,i11,z12,i13,z5⟩,_,_,rfl,r11,r13⟩
theorem cellsR_byte:Tryz.prog.cellsOf 5=1:=by kernel_rfl
theorem byte_of {x:Int} (h:(Lit.int .u8 x).wf=true):0≤x∧x<256:=by
 simp[Lit.wf,IntKind.min,IntKind.max,IntKind.signed,IntKind.bits]at h
 omega
theorem byte_nat {x:Int} (h:(Lit.int .u8 x).wf=true):∃y:Nat,x=y∧y<256:=by
 have:=byte_of h
 exact ⟨x.toNat,by omega,by omega⟩
theorem read_byte {base:Nat} {v:Value} {d:DataW H} {p:List MemPlace} (hv:Value.okWide Tryz.prog W .any base 5 v)
  (h:DataW.Trod enc Tryz.prog W 0 (fun _=>true) true 5 v d p):∃x:Nat,v=.int .u8 x∧x<256:=by
 obtain ⟨x,rfl,rfl,rfl,wx⟩:=open_int Tryz.underlying5 hv h
 obtain ⟨y,rfl,hy⟩:=byte_nat wx
 exact ⟨y,rfl,hy⟩
theorem cellsR_three:Tryz.prog.cellsOf 73=3:=by kernel_rfl
theorem read_three {base:Nat} {v:Value} {d:DataW H} {p:List MemPlace} (hv:Value.okWide Tryz.prog W .any base 73 v)
  (h:DataW.Trod enc Tryz.prog W 0 (fun _=>true) true 73 v d p):∃x0 x1 x2:Nat,v=.agg #[.int .u8 x0,.int .u8 x1,.int .u8 x2]∧x0<256∧x1<256∧x2<256:=by
 obtain ⟨cs,rfl⟩:∃cs,v=.agg cs:=by
  simp only[Value.okWide,Tryz.underlying73]at hv
  obtain ⟨cs,h1,_⟩:=hv
  exact ⟨cs,h1⟩
 obtain ⟨fuel,hf⟩:=h
 obtain ⟨xs,m,rfl,hx,hlen,hxl,hg⟩:=DataW.trod_array Tryz.underlying73 hf
 rw[cellsR_three]at hlen
 obtain ⟨l⟩:=cs
 obtain ⟨c0,c1,c2,hl2⟩:=getA3 hlen
 simp only[Value.cells]at hl2
 subst hl2
 have key:∀k,k<3→∃x:Nat,[c0,c1,c2].getD k undef=.int .u8 x∧x<256:=fun k hk=>by
  have h1:=hg k hk
  rw[cellsR_byte,Nat.mul_one,List.getElem?_eq_getElem (by omega)]at h1
  have:k=0∨k=1∨k=2:=by omega
  rcases this with rfl | rfl | rfl
  ·obtain ⟨z,e0,_,w0⟩:=DataW.trod_int Tryz.underlying5 h1
   obtain ⟨y,rfl,hy⟩:=byte_nat w0
   exact ⟨y,(List.cons.inj e0).1,hy⟩
  ·obtain ⟨z,e0,_,w0⟩:=DataW.trod_int Tryz.underlying5 h1
   obtain ⟨y,rfl,hy⟩:=byte_nat w0
   exact ⟨y,(List.cons.inj e0).1,hy⟩
  ·obtain ⟨z,e0,_,w0⟩:=DataW.trod_int Tryz.underlying5 h1
   obtain ⟨y,rfl,hy⟩:=byte_nat w0
   exact ⟨y,(List.cons.inj e0).1,hy⟩
 obtain ⟨x0,e0,w0⟩:=key 0 (by decide)
 simp only[List.getD_cons_zero,List.getD_cons_succ]at e0
 subst e0
 obtain ⟨x1,e1,w1⟩:=key 1 (by decide)
 simp only[List.getD_cons_zero,List.getD_cons_succ]at e1
 subst e1
 obtain ⟨x2,e2,w2⟩:=key 2 (by decide)
 simp only[List.getD_cons_zero,List.getD_cons_succ]at e2
 subst e2
 exact ⟨x0,x1,x2,rfl,w0,w1,w2⟩
end
end Go.Proofs.YtaijafjfafbcfaaGreat
