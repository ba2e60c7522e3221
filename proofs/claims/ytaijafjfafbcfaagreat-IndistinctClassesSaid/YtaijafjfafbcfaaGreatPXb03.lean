/- Part of the proof that the laws answer true for every input. -/
import Derived.Test.YtaijafjfafbcfaaGreatPXb02
set_option linter.unusedSimpArgs false
set_option linter.unnecessarySimpa false
set_option linter.unusedVariables false
set_option maxRecDepth 100000
set_option maxHeartbeats 40000000
namespace Go.Proofs.YtaijafjfafbcfaaGreat
open Go.RowKit
def zzpart (xs:List Value) (j z:Nat):List Value:=(xs.drop (j * z)).take z
theorem part_get {xs:List Value} {j z i:Nat} (h:i<z):(zzpart xs j z)[i]? =xs[j * z+i]?:=by
 unfold zzpart
 rw[List.getElem?_take_of_lt h,List.getElem?_drop]
theorem part_left {xs cs:List Value} {j n z:Nat} (hl:xs.length=n * z) (hj:j<n):zzpart (xs++cs) j z=zzpart xs j z:=by
 apply List.ext_getElem?
 intro i
 by_cases h:i<z
 ·rw[part_get h,part_get h,List.getElem?_append_left]
  have:(j+1) * z≤n * z:=Nat.mul_le_mul_right _ hj
  rw[Nat.add_mul,Nat.one_mul]at this
  omega
 ·unfold zzpart
  rw[List.getElem?_take,List.getElem?_take,if_neg h,if_neg h]
theorem part_last {xs cs:List Value} {n z:Nat} (hl:xs.length=n * z) (hc:cs.length=z):zzpart (xs++cs) n z=cs:=by
 unfold zzpart
 rw[←hl,List.drop_left,←hc,List.take_length]
def OwnK {α:Type} (K:Kd α) (e:TypeId) (base:Nat) (S:Nat→Prop) (w:World) (v:Value) (l:List α):Prop:=
 ∃xs,w.ownsRow base e K.size v l.length xs∧∀j (h:j<l.length),K.rd (fun b=>S b∧v.ownBlock≠some b) w (zzpart xs j K.size) l[j]
section
variable {α:Type} {K:Kd α} {e:TypeId} {base:Nat} {S:Nat→Prop} {w:World} {v:Value} {l:List α}
theorem OwnK.nil (K:Kd α) (e:TypeId) (base:Nat) (S:Nat→Prop) (w:World):OwnK K e base S w (.slice none 0 0) ([]:List α):=
 ⟨[],World.ownsRow_nil _ _ _ _,fun j hj=>by simp at hj⟩
theorem OwnK.agree {T:Nat→Prop} {w':World} (h:OwnK K e base S w v l) (hw:Agree T w w') (h1:∀k,v.ownBlock=some k→T k) (h2:∀b,S b→T b):OwnK K e base S w' v l:=by
 obtain ⟨xs,ho,hr⟩:=h
 exact ⟨xs,owns_agree ho hw h1,fun j hj=>K.agree (hr j hj) (hw.mono fun b hb=>h2 b hb.1)⟩
theorem OwnK.ext {w':World} (h:OwnK K e base S w v l) (hw:Below w.heap.size w w'):OwnK K e base S w' v l:=h.agree (T:=fun _=>True) (.of_ext hw) (fun _ _=>trivial) fun _ _=>trivial
theorem OwnK.mono {S':Nat→Prop} (h:OwnK K e base S w v l) (hS:∀b,S b→S' b):OwnK K e base S' w v l:=by
 obtain ⟨xs,ho,hr⟩:=h
 exact ⟨xs,ho,fun j hj=>K.mono (hr j hj) fun b hb=>⟨hS b hb.1,hb.2⟩⟩
theorem OwnK.lt (h:OwnK K e base S w v l):∀k,v.ownBlock=some k→base≤k∧k<w.heap.size:=by
 obtain ⟨xs,ho,hr⟩:=h;exact ho.lt
theorem OwnK.form (h:OwnK K e base S w v l):∃a cap,v=.slice a l.length cap∧(0<l.length→∃g,a=some ⟨g,0,none⟩)∧cap≤maxLen:=by
 obtain ⟨xs,ho,hr⟩:=h
 rcases ho.2 with ⟨rfl,hn0⟩ | ⟨g,cap,cur,rfl,hb,hg,hnc,hcm,_⟩
 ·exact ⟨none,0,by rw[hn0],fun h=>by omega,by simp[maxLen]⟩
 ·exact ⟨_,cap,rfl,fun _=>⟨g,rfl⟩,hcm⟩
theorem OwnK.sl (h:OwnK K e base S w v l) (hn:l.length≤140737488355328):Sl K (fun b=>S b∨base≤b) w v l:=by
 obtain ⟨xs,ho,hr⟩:=h
 rcases ho.2 with ⟨rfl,hn0⟩ | ⟨g,cap,cur,rfl,hb,hg,hnc,hcm,_⟩
 ·have:l=[]:=by simpa using hn0
  subst this
  exact Sl.nil _ _ _
 ·refine ⟨_,cap,rfl,.inr ⟨g,0,rfl,(Array.getElem?_eq_some_iff.1 hg).1,.inr hb⟩,hnc,⟨hcm,hn⟩,fun j hj=>⟨zzpart xs j K.size,fun i hi=>?_,K.mono (hr j hj) fun b hb=>.inl hb.1⟩⟩
  have hlx:xs.length=l.length * K.size:=ho.1
  have hlt:j * K.size+i<xs.length:=by
   have:(j+1) * K.size≤l.length * K.size:=Nat.mul_le_mul_right _ hj
   rw[Nat.add_mul,Nat.one_mul]at this
   omega
  rw[part_get hi,adr_add,Nat.zero_add,ho.cellAt (j * K.size+i) (by omega)]
theorem OwnK.push {w':World} {v':Value} {xs cs:List Value} {y:α} (hr:∀j (h:j<l.length),K.rd (fun b=>S b∧v.ownBlock≠some b) w (zzpart xs j K.size) l[j]) (hxl:xs.length=l.length * K.size)
  (ho:w'.ownsRow base e K.size v' (l.length+1) (xs++cs)) (hg:∀S:Nat→Prop,(∀k,v.ownBlock=some k→¬S k)→Agree S w w') (hv:∀k,v'.ownBlock=some k→v.ownBlock=some k∨w.heap.size≤k)
  (hy:K.rd (fun b=>S b∧v.ownBlock≠some b) w cs y):OwnK K e base S w' v' (l++[y]):=by
 have move:∀{cs:List Value} {y:α},K.rd (fun b=>S b∧v.ownBlock≠some b) w cs y→K.rd (fun b=>S b∧v'.ownBlock≠some b) w' cs y:=by
  intro cs y hy
  refine K.mono (K.agree (K.block hy) (hg _ fun k hk hb=>hb.1.2 hk)) fun b hb=>⟨hb.1.1,fun e1=>?_⟩
  rcases hv b e1 with h2 | h2
  ·exact hb.1.2 h2
  ·have:=hb.2;omega
 refine ⟨xs++cs,by simpa using ho,fun j hj=>?_⟩
 simp only[List.length_append,List.length_cons,List.length_nil]at hj
 by_cases hj':j<l.length
 ·rw[part_left hxl hj',List.getElem_append_left hj']
  exact move (hr j hj')
 ·obtain rfl:j=l.length:=by omega
  rw[part_last hxl (K.len hy)]
  simp only[List.getElem_concat_length]
  exact move hy
end
theorem run_appendW {P:Program} {w:World} (t ty e:TypeId) (z:Value) (size bytes:Nat) (ht:P.underlying t=some (.slice e))
  (hinfo:(P.info? e).map (fun i=>(i.zero,i.size,i.bytes))=some (some z,size,bytes)) (hz1:z.cells.size=size) (hsz:0<size) (base:Nat) (v:Value) (n:Nat) (xs:List Value) (hown:w.ownsRow base e size v n xs)
  (S:Nat→Prop) (ad:Option Addr) (m c:Nat) (news:List Value) (had:Ad S w ad m c) (hl:news.length=m * size) (hcell:∀j,j<m * size→w.cell? (adr ad j)=some (news.getD j undef)) (h1:∀u∈news,u.oneCell'=true)
  (hbytes:(n+m) * bytes≤140737488355328) (hn:n+m≤9223372036854775807) (hbase:base≤w.heap.size):
  ∃v' w',(Builtin.append_ #[t,t] ty #[v,.slice ad m c]).run P w=.ok v' w'∧w'.ownsRow base e size v' (n+m) (xs++news)∧Below base w w'∧(∀S:Nat→Prop,(∀k,v.ownBlock=some k→¬S k)→Agree S w w')∧(∀k,v'.ownBlock=some k→v.ownBlock=some k∨w.heap.size≤k)∧w.grownBy w' v.ownBlock:=by
 obtain ⟨i,hi,hz,hz2,hz3⟩:=info_parts hinfo
 have hlt:=hown.lt
 have fin:∀x:Addr,ad=some x→(∀j u,news[j]? =some u→w.cell? (x.add j)=some u)→∃v' w',(Builtin.append_ #[t,t] ty #[v,.slice ad m c]).run P w=.ok v' w'∧w'.ownsRow base e size v' (n+m) (xs++news)∧Below base w w'∧(∀S:Nat→Prop,(∀k,v.ownBlock=some k→¬S k)→Agree S w w')∧(∀k,v'.ownBlock=some k→v.ownBlock=some k∨w.heap.size≤k)∧w.grownBy w' v.ownBlock:=by
  intro x he hx2
  obtain ⟨v',w',hr,h2,h3,h4⟩:=run_append_own' (P:=P) w base t ty e i z size bytes ht hi hz hz2 hz3 hz1 hsz v n xs hown x m c news hl hx2 h1 (by unfold maxLen;omega) hbytes hbase
  subst he
  exact ⟨v',w',hr,h2,(Below.refl _ _).grown h3 hbase (fun k hk=>(hlt k hk).1),fun S hS=>.of_grown h3 (fun k hk e1=>hS k e1 hk),h4,h3⟩
 rcases had with ⟨rfl,rfl⟩ | ⟨b,off,rfl,hb,hS⟩
 ·have hn0:news=[]:=List.eq_nil_of_length_eq_zero (by rw[hl,Nat.zero_mul])
  cases ad with
  | some x=>exact fin x rfl (fun j u hj=>by rw[hn0]at hj;simp at hj)
  | none=>
   have hrun:=run_append_owned_none (P:=P) w base t ty e i size ht hi v n xs hown
   exact ⟨v,w,hrun,by rw[hn0];simpa using hown,.refl _ _,fun S _=>.refl _ _,fun k hk=>.inl hk,⟨rfl,rfl,rfl,Nat.le_refl _,fun _ _ _=>rfl⟩⟩
 ·refine fin _ rfl (fun j u hj=>?_)
  have hjm:j<m * size:=by rw[←hl];exact (List.getElem?_eq_some_iff.1 hj).1
  have:=hcell j hjm
  rw[adr_add]at this
  rw[Addr.add_lit,this,List.getD_eq_getElem?_getD,hj]
  rfl
theorem run_pushK {α:Type} {K:Kd α} {P:Program} {w:World} (t ty e:TypeId) (z:Value) (bytes:Nat) (ht:P.underlying t=some (.slice e))
  (hinfo:(P.info? e).map (fun i=>(i.zero,i.size,i.bytes))=some (some z,K.size,bytes)) (hz1:z.cells.size=K.size) (hsz:0<K.size) {base:Nat} {S:Nat→Prop} {v:Value} {l:List α} (hown:OwnK K e base S w v l)
  {cs:List Value} {y:α} (hy:K.rd (fun b=>S b∧v.ownBlock≠some b) w cs y) (hbytes:(l.length+1) * bytes≤140737488355328) (hn:l.length<9223372036854775807) (hbase:base≤w.heap.size):
  ∃g' c' w',(Builtin.append_ #[t,t] ty #[v,.slice (some ⟨w.heap.size,0,none⟩) 1 1]).run P (w.alloc (.cells cs.toArray e))=.ok (.slice (some ⟨g',0,none⟩) (l.length+1) c') w'∧
   OwnK K e base S w' (.slice (some ⟨g',0,none⟩) (l.length+1) c') (l++[y])∧Below base w w'∧(∀S:Nat→Prop,(∀k,v.ownBlock=some k→¬S k)→Agree S w w')∧(v.ownBlock=some g'∨w.heap.size≤g')∧(w.alloc (.cells cs.toArray e)).grownBy w' v.ownBlock:=by
 have ha:w.grownBy (w.alloc (.cells cs.toArray e)) none:=World.grownBy_alloc _ _ _
 obtain ⟨xs,ho,hr⟩:=hown
 have hcl:=K.len hy
 obtain ⟨v',w',hrun,h2,h3,h4,h5,h6⟩:=run_appendW (P:=P) (w:=w.alloc (.cells cs.toArray e)) t ty e z K.size bytes ht hinfo hz1 hsz base v l.length xs (ho.alloc _) (fun _=>True) (some ⟨w.heap.size,0,none⟩) 1 1 cs
  (.inr ⟨_,_,rfl,by simp,trivial⟩) (by omega) (fun j hj=>by rw[adr_add,Nat.zero_add,World.cell?_alloc_new];simp[List.getD_eq_getElem?_getD,show j<cs.length by omega]) (K.one hy) hbytes (by omega) (by simp;omega)
 obtain ⟨g',c',rfl⟩:=owns_pos h2 (by omega)
 have hxl:xs.length=l.length * K.size:=ho.1
 have hv:∀k,(Value.slice (some ⟨g',0,none⟩) (l.length+1) c').ownBlock=some k→v.ownBlock=some k∨w.heap.size≤k:=fun k hk=>(h5 k hk).imp id fun h=>by simp at h;omega
 have hag:∀S:Nat→Prop,(∀k,v.ownBlock=some k→¬S k)→Agree S w w':=fun S hS=>(Agree.of_grown ha (by simp)).trans (h4 S hS)
 exact ⟨g',c',w',hrun,OwnK.push hr hxl h2 hag hv hy,((Below.refl _ _).alloc hbase _).trans h3,hag,hv g' rfl,h6⟩
theorem wpList_pushK {α:Type} {K:Kd α} {P:Program} {w:World} {ops:Array Oper} {rest:List Oper} {o:Oper} {a:Act} {Q:Exit→Act→World→Prop} (hgd:o.guard=none) (s x:Operand) (t:TypeId)
  (ho:o.op=.call {callee:=.builtin .append,args:=#[s,x],argTypes:=#[t,t]}) (e:TypeId) (z:Value) (bytes:Nat) (ht:P.underlying t=some (.slice e))
  (hinfo:(P.info? e).map (fun i=>(i.zero,i.size,i.bytes))=some (some z,K.size,bytes)) (hz1:z.cells.size=K.size) (hsz:0<K.size) {base:Nat} {S:Nat→Prop} {v:Value} {l:List α} (hs:a.eval s=v) (hown:OwnK K e base S w v l)
  {cs:List Value} {y:α} (hx:a.eval x=.slice (some ⟨w.heap.size,0,none⟩) 1 1) (hy:K.rd (fun b=>S b∧v.ownBlock≠some b) w cs y) (hbytes:(l.length+1) * bytes≤140737488355328) (hn:l.length<9223372036854775807) (hbase:base≤w.heap.size)
  (h:∀g' c' w',OwnK K e base S w' (.slice (some ⟨g',0,none⟩) (l.length+1) c') (l++[y])→Below base w w'→(∀S:Nat→Prop,(∀k,v.ownBlock=some k→¬S k)→Agree S w w')→(v.ownBlock=some g'∨w.heap.size≤g')→wpList P ops Q rest (a.put o.dst (.slice (some ⟨g',0,none⟩) (l.length+1) c')) w'):
  wpList P ops Q (o::rest) a (w.alloc (.cells cs.toArray e)):=by
 refine wpList_plain hgd fun K' hK'=>?_
 obtain ⟨g',c',w',hrun,r1,r2,r3,r4,_⟩:=run_pushK (P:=P) t o.type e z bytes ht hinfo hz1 hsz hown hy hbytes hn hbase
 unfold Oper.wp
 simp[execOp,ho,resolve,invoke,builtin,hs,hx,hrun,Result.andThen]
 exact hK' _ _ (h g' c' w' r1 r2 r3 r4)
theorem wpListIn_pushK {α:Type} {K:Kd α} {F:Fence} {nf:Nat} {P:Program} {w:World} {ops:Array Oper} {rest:List Oper} {o:Oper} {a:Act} {Q:Exit→Act→World→Prop} (hgd:o.guard=none) (s x:Operand) (t:TypeId)
  (ho:o.op=.call {callee:=.builtin .append,args:=#[s,x],argTypes:=#[t,t]}) (e:TypeId) (z:Value) (bytes:Nat) (ht:P.underlying t=some (.slice e))
  (hinfo:(P.info? e).map (fun i=>(i.zero,i.size,i.bytes))=some (some z,K.size,bytes)) (hz1:z.cells.size=K.size) (hsz:0<K.size) {base:Nat} {S:Nat→Prop} {v:Value} {l:List α} (hs:a.eval s=v) (hown:OwnK K e base S w v l)
  {cs:List Value} {y:α} (hx:a.eval x=.slice (some ⟨w.heap.size,0,none⟩) 1 1) (hy:K.rd (fun b=>S b∧v.ownBlock≠some b) w cs y) (hbytes:(l.length+1) * bytes≤140737488355328) (hn:l.length<9223372036854775807) (hbase:base≤w.heap.size)
  (h:∀g' c' w',OwnK K e base S w' (.slice (some ⟨g',0,none⟩) (l.length+1) c') (l++[y])→Below base w w'→(∀S:Nat→Prop,(∀k,v.ownBlock=some k→¬S k)→Agree S w w')→(v.ownBlock=some g'∨w.heap.size≤g')→(w.alloc (.cells cs.toArray e)).grownBy w' v.ownBlock→wpListIn F nf P ops Q rest (a.put o.dst (.slice (some ⟨g',0,none⟩) (l.length+1) c')) w'):
  wpListIn F nf P ops Q (o::rest) a (w.alloc (.cells cs.toArray e)):=by
 refine wpListIn_plain hgd fun K' hK'=>?_
 obtain ⟨g',c',w',hrun,r1,r2,r3,r4,r5⟩:=run_pushK (P:=P) t o.type e z bytes ht hinfo hz1 hsz hown hy hbytes hn hbase
 unfold Oper.wpIn
 refine ⟨?_,?_⟩
 ·simp[Oper.about,ho,resolve,Target.leads,Sem.run_pure]
 ·rw[Oper.semAt_plain F _ _ (by rw[ho];intro c hc';cases hc')]
  simp[execOp,ho,resolve,invoke,builtin,hs,hx,hrun,Result.andThen]
  exact hK' _ _ (h g' c' w' r1 r2 r3 r4 r5)
theorem wpList_appendW {P:Program} {w:World} {ops:Array Oper} {rest:List Oper} {o:Oper} {a:Act} {Q:Exit→Act→World→Prop} (hgd:o.guard=none) (s x:Operand) (t:TypeId)
  (ho:o.op=.call {callee:=.builtin .append,args:=#[s,x],argTypes:=#[t,t]}) (e:TypeId) (z:Value) (size bytes:Nat) (ht:P.underlying t=some (.slice e))
  (hinfo:(P.info? e).map (fun i=>(i.zero,i.size,i.bytes))=some (some z,size,bytes)) (hz1:z.cells.size=size) (hsz:0<size) (base:Nat) (v:Value) (n:Nat) (xs:List Value) (hs:a.eval s=v) (hown:w.ownsRow base e size v n xs)
  (S:Nat→Prop) (ad:Option Addr) (m c:Nat) (news:List Value) (hx:a.eval x=.slice ad m c) (had:Ad S w ad m c) (hl:news.length=m * size) (hcell:∀j,j<m * size→w.cell? (adr ad j)=some (news.getD j undef)) (h1:∀u∈news,u.oneCell'=true)
  (hbytes:(n+m) * bytes≤140737488355328) (hn:n+m≤9223372036854775807) (hbase:base≤w.heap.size)
  (h:∀v' w',w'.ownsRow base e size v' (n+m) (xs++news)→Below base w w'→(∀S:Nat→Prop,(∀k,v.ownBlock=some k→¬S k)→Agree S w w')→(∀k,v'.ownBlock=some k→v.ownBlock=some k∨w.heap.size≤k)→wpList P ops Q rest (a.put o.dst v') w'):
  wpList P ops Q (o::rest) a w:=by
 refine wpList_plain hgd fun K hK=>?_
 obtain ⟨v',w',hrun,r1,r2,r3,r4,_⟩:=run_appendW (P:=P) t o.type e z size bytes ht hinfo hz1 hsz base v n xs hown S ad m c news had hl hcell h1 hbytes hn hbase
 unfold Oper.wp
 simp[execOp,ho,resolve,invoke,builtin,hs,hx,hrun,Result.andThen]
 exact hK _ _ (h v' w' r1 r2 r3 r4)
end Go.Proofs.YtaijafjfafbcfaaGreat
namespace Go.Proofs.YtaijafjfafbcfaaGreat
open Go.RowKit
attribute [local go_sem ↓] Go.wp_at_zero Go.wp_at_succ
def QW (w w':World):Prop:=∃n,w'=w.drewN n
theorem QW.refl (w:World):QW w w:=⟨0,rfl⟩
theorem QW.drewN {a b:World} (h:QW a b) (n:Nat):QW a (b.drewN n):=by obtain ⟨k,rfl⟩:=h;exact ⟨_,World.drewN_drewN _ _ _⟩
theorem QW.trans {a b c:World} (h:QW a b) (k:QW b c):QW a c:=by obtain ⟨n,rfl⟩:=k;exact h.drewN n
theorem QW.ext {a b:World} (h:QW a b):Below a.heap.size a b:=by obtain ⟨n,rfl⟩:=h;exact drewN_below _ _ _
theorem QuietP.fin {w w':World} {u v:Value} (h:u=v) (q:QW w w'):QuietP w v (.returned u) w':=⟨by rw[h],q⟩
theorem QuietP.take {w:World} {v:Value} {e:Ending} {w':World} (h:QuietP w v e w'):∃u,e=.returned u∧QW w w'∧u=v:=⟨v,h.1,h.2,rfl⟩
theorem bits_nat {a:Nat} (ha:a<4294967296):(BitVec.ofInt 64 (a:Int)).toNat=a:=by
 rw[BitVec.ofInt_natCast,BitVec.toNat_ofNat];exact Nat.mod_eq_of_lt (by omega)
theorem or_nat {a b:Nat} (ha:a<4294967296) (hb:b<4294967296):bits .or .i64 (a:Int) (b:Int)=((a|||b:Nat):Int):=by
 have hx:a|||b<2 ^ 32:=Nat.or_lt_two_pow (by omega) (by omega)
 show IntKind.i64.wrap ((BitVec.ofInt 64 (a:Int)|||BitVec.ofInt 64 (b:Int)).toNat:Int)=_
 rw[BitVec.toNat_or,bits_nat ha,bits_nat hb,IntKind.wrap_i64]
 omega
def without (a b:Nat):Nat:=a ^^^ (a&&&b)
theorem testBit_without (a b i:Nat):(without a b).testBit i=(a.testBit i&& !b.testBit i):=by
 unfold without
 rw[Nat.testBit_xor,Nat.testBit_and]
 cases a.testBit i<;>cases b.testBit i<;>rfl
theorem without_lt {a b:Nat} (ha:a<4294967296):without a b<4294967296:=by
 have h1:a&&&b<2 ^ 32:=Nat.lt_of_le_of_lt Nat.and_le_left (by omega)
 exact Nat.xor_lt_two_pow (n:=32) (by omega) h1
theorem andNot_nat {a b:Nat} (ha:a<4294967296) (hb:b<4294967296):bits .andNot .i64 (a:Int) (b:Int)=((without a b:Nat):Int):=by
 have hx:=without_lt (b:=b) ha
 have key:(BitVec.ofInt 64 (a:Int)&&& ~~~BitVec.ofInt 64 (b:Int)).toNat=without a b:=by
  have e1:BitVec.ofInt 64 (a:Int)=BitVec.ofNat 64 a:=BitVec.ofInt_natCast ..
  have e2:BitVec.ofInt 64 (b:Int)=BitVec.ofNat 64 b:=BitVec.ofInt_natCast ..
  apply Nat.eq_of_testBit_eq
  intro i
  rw[testBit_without,e1,e2,BitVec.testBit_toNat,BitVec.getLsbD_and,BitVec.getLsbD_not,BitVec.getLsbD_ofNat,BitVec.getLsbD_ofNat]
  by_cases hi:i<64
  ·simp[hi]
  ·have:a.testBit i=false:=Nat.testBit_lt_two_pow (Nat.lt_of_lt_of_le ha (Nat.le_trans (by decide:4294967296≤2 ^ 64) (Nat.pow_le_pow_right (by decide) (by omega))))
   simp[hi,this]
 show IntKind.i64.wrap ((BitVec.ofInt 64 (a:Int)&&& ~~~BitVec.ofInt 64 (b:Int)).toNat:Int)=_
 rw[key,IntKind.wrap_i64]
 omega
theorem bit_nat (a p:Nat):(bits .and .i64 ((a:Int) / 2 ^ p) 1==1)=a.testBit p:=by
 have h1:(BitVec.ofInt 64 1).toNat=2 ^ 1 - 1:=by decide
 have h2:((a:Int) / 2 ^ p)=((a / 2 ^ p:Nat):Int):=by simp
 have key:bits .and .i64 ((a / 2 ^ p:Nat):Int) 1=((a / 2 ^ p % 2:Nat):Int):=by
  show IntKind.i64.wrap ((BitVec.ofInt 64 ((a / 2 ^ p:Nat):Int)&&&BitVec.ofInt 64 1).toNat:Nat)=_
  rw[BitVec.toNat_and,h1,Nat.and_two_pow_sub_one_eq_mod,BitVec.ofInt_natCast,BitVec.toNat_ofNat,IntKind.wrap_i64]
  omega
 rw[h2,key,Nat.testBit_eq_decide_div_mod_eq]
 rcases Nat.mod_two_eq_zero_or_one (a / 2 ^ p) with e | e<;>rw[e]<;>rfl
theorem pow_small {p:Nat} (hp:p≤5):2 ^ p≤32∧1≤2 ^ p:=by
 have:p=0∨p=1∨p=2∨p=3∨p=4∨p=5:=by omega
 rcases this with rfl | rfl | rfl | rfl | rfl | rfl<;>decide
def gC (n:Int) (f:Nat→Int):List Value:=[.int .i64 n,.int .i64 (f 0),.int .i64 (f 1),.int .i64 (f 2),.int .i64 (f 3),.int .i64 (f 4)]
def gV (n:Int) (f:Nat→Int):Value:=.agg #[.int .i64 n,.int .i64 (f 0),.int .i64 (f 1),.int .i64 (f 2),.int .i64 (f 3),.int .i64 (f 4)]
theorem five {p:Nat} (h:p<5):p=0∨p=1∨p=2∨p=3∨p=4:=by omega
theorem gC_at {n:Int} {f:Nat→Int} {p:Nat} (hp:p<5):(gC n f)[1+p]? =some (.int .i64 (f p)):=by
 rcases five hp with rfl | rfl | rfl | rfl | rfl<;>rfl
theorem Row.six {w:World} {g:Nat} {e:TypeId} {n:Int} {f:Nat→Int} (h:Row w g e (gC n f)):
  w.cell? ⟨g,0,none⟩=some (.int .i64 n)∧w.cell? ⟨g,1,none⟩=some (.int .i64 (f 0))∧w.cell? ⟨g,2,none⟩=some (.int .i64 (f 1))∧w.cell? ⟨g,3,none⟩=some (.int .i64 (f 2))∧w.cell? ⟨g,4,none⟩=some (.int .i64 (f 3))∧w.cell? ⟨g,5,none⟩=some (.int .i64 (f 4)):=
 ⟨h.cell rfl,h.cell rfl,h.cell rfl,h.cell rfl,h.cell rfl,h.cell rfl⟩
theorem Row.graph (w:World) (n:Int) (f:Nat→Int):Row (w.alloc (.cells #[.int .i64 n,.int .i64 (f 0),.int .i64 (f 1),.int .i64 (f 2),.int .i64 (f 3),.int .i64 (f 4)] 117)) w.heap.size 117 (gC n f):=row_new w (gC n f) _
theorem Row.hear {w:World} {g:Nat} {e:TypeId} {n:Int} {f:Nat→Int} (h:Row w g e (gC n f)) {p:Nat} (hp:p<5):w.cell? ⟨g,1+p,none⟩=some (.int .i64 (f p)):=h.cell (gC_at hp)
theorem idx_five (b:Nat) {p:Nat} (hp:p<5) (W:World):
  (Instr.indexAt 115 (.pointer (some ⟨b,1,none⟩)) (.int .i64 p)).run Tryz.prog W=.ok (.pointer (some ⟨b,1+p,none⟩)) W:=by
 obtain ⟨i,hi,hz1,hz2,hz3⟩:=info_parts info_int
 have hA:=Tryz.underlying115
 have hE:Tryz.prog.elem 115=3:=by simp[Program.elem,hA]
 have hL:Tryz.prog.arrayLen 115=5:=by simp[Program.arrayLen,hA]
 rw[run_indexAt_array W _ _ _ _ (by rw[hE,hL];exact hA),hL,hE,if_pos (by omega)]
 simp[sizeOf,typeInfo,hi,hz2,Result.andThen,Addr.add]
structure GOK (n:Nat) (h:Nat→Nat):Prop where
 pos:1≤n
 le:n≤5
 lt:∀p,p<n→h p<2 ^ n
 own:∀p,p<n→(h p).testBit p=true
 zero:∀p,n≤p→p<5→h p=0
theorem GOK.small {n:Nat} {h:Nat→Nat} (H:GOK n h) {p:Nat} (hp:p<5):h p<32:=by
 by_cases hn:p<n
 ·exact Nat.lt_of_lt_of_le (H.lt p hn) (pow_small H.le).1
 ·rw[H.zero p (by omega) hp];decide
abbrev hV (n:Nat) (h:Nat→Nat):Value:=gV n fun p=>(h p:Int)
theorem power_quiet (w:World) {n:Nat} (hn:n≤5):Calls Tryz.prog 86 #[.int .i64 n] w (QuietP w (.int .i64 ((2 ^ n:Nat):Int))):=by
 go_enter Tryz.func86,Tryz.ntmps86
 go_wp2
 go_loopw [3,4] (fun o i wr=>∃k z:Nat,k≤n∧i=.int .i64 k∧o=.int .i64 z∧Hid (z=2 ^ k)∧QW w wr) (fun _ i _=>n - (intOf i).toNat)
 case atStart=>exact ⟨0,1,Nat.zero_le _,rfl,rfl,Lib.hid rfl,.refl _⟩
 case round=>
  obtain ⟨k,z,hk,rfl,rfl,HZ,hQ⟩:=hrel
  have hz:z≤32:=by rw[HZ.out];exact (pow_small (by omega)).1
  by_cases hlt:k<n
  ·go_wp2
   go_roundw
   case rel=>exact ⟨k+1,z * 2,by omega,by go_num,by go_num,Lib.hid (by rw[HZ.out,Nat.pow_succ]),hQ⟩
   case measure=>simp[intOf];omega
  ·obtain rfl:k=n:=by omega
   go_wp2
   go_ret
   exact .fin (by rw[HZ.out];rfl) hQ
theorem rfull_quiet (w:World) {n:Nat} (hn:n≤5):Calls Tryz.prog 108 #[.int .i64 n] w (QuietP w (.int .i64 ((2 ^ n:Nat) - 1:Int))):=by
 have K:=Lib.hid ((power_quiet w hn).mono fun _ _ h=>h.take)
 have hz:=pow_small hn
 obtain ⟨z,hzz⟩:∃z,z=2 ^ n:=⟨_,rfl⟩
 rw[←hzz]at K hz ⊢
 clear hzz
 obtain ⟨hz0,hz1⟩:=hz
 go_enter Tryz.func108,Tryz.ntmps108
 go_wp2_with fail
 refine K.out.mono ?_
 rintro _ w1 ⟨_,rfl,hq1,rfl⟩
 go_wp2
 go_ret
 exact .fin rfl hq1
theorem has_quiet (w:World) {a p:Nat} (ha:a<4294967296) (hp:p≤5):Calls Tryz.prog 83 #[.int .i64 a,.int .i64 p] w (QuietP w (.bool (a.testBit p))):=by
 have K:=Lib.hid ((power_quiet w hp).mono fun _ _ h=>h.take)
 have hz:=pow_small hp
 rw[Nat.testBit_eq_decide_div_mod_eq]
 obtain ⟨z,hzz⟩:∃z,z=2 ^ p:=⟨_,rfl⟩
 rw[←hzz]at K hz ⊢
 clear hzz
 obtain ⟨hz0,hz1⟩:=hz
 have e1:Int.tdiv (a:Int) (z:Int)=((a / z:Nat):Int):=by simp
 have e2:Int.tmod ((a / z:Nat):Int) 2=((a / z % 2:Nat):Int):=by rw[Int.tmod_eq_emod_of_nonneg (Int.natCast_nonneg _)];simp
 have hle:a / z≤a:=Nat.div_le_self _ _
 obtain ⟨y,hy⟩:∃y,y=a / z:=⟨_,rfl⟩
 rw[←hy]at e1 e2 hle ⊢
 clear hy
 have hz3:(z:Int)≠0:=by omega
 go_enter Tryz.func83,Tryz.ntmps83
 go_wp2_with fail
 refine K.out.mono ?_
 rintro _ w1 ⟨_,rfl,hq1,rfl⟩
 go_wp2
 go_ret
 exact .fin (by simp[e1,e2];rw[Bool.eq_iff_iff];simp;omega) hq1
end Go.Proofs.YtaijafjfafbcfaaGreat
