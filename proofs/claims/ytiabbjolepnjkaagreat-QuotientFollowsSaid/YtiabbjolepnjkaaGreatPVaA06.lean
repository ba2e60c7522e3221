/- Part of the proof that the laws answer true for every input. -/
import Derived.Test.YtiabbjolepnjkaaGreatPVaA04
import Derived.Maps.RangeWalk
import Derived.DeepKeys4
import Derived.Deep.OwnRows
set_option linter.unusedSimpArgs false
set_option linter.unnecessarySimpa false
set_option linter.unusedVariables false
set_option maxRecDepth 100000
set_option maxHeartbeats 40000000
namespace Go.Proofs.YtiabbjolepnjkaaGreat
open Go.RowKit Go.Maps
def heldR (v:Value):Option (DataW Value×List MemPlace):=some (.held v,[])
structure KeyB (P:Program) (k:TypeId) (K:Type) where
 law:Keyed P k
 kv:K→Value
 kl:K→Lit
 ok:K→Prop
 reads:∀x,ok x→keyOf P k (kv x)=some (kl x)
 inj:∀x y,kv x=kv y→x=y
theorem KeyB.lit_ne {P:Program} {k:TypeId} {K:Type} (B:KeyB P k K) {x y:K} (hx:B.ok x) (hy:B.ok y) (h:x≠y):B.kl x≠B.kl y:=fun e=>
 h (B.inj _ _ (B.law.inj (B.reads x hx) (e▸B.reads y hy)))
theorem KeyB.key {P:Program} {k:TypeId} {K:Type} (B:KeyB P k K) {x:K} (hx:B.ok x):WideAt.IsKeyLit (B.kl x):=B.law.key (B.reads x hx)
def intKey {P:Program} {k:TypeId} (hk:P.underlying k=some (.int .i64)):KeyB P k Int where
 law:=int_keyed hk
 kv:=.int .i64
 kl:=.int .i64
 ok:=WF
 reads:=fun _ h=>keyOf_int_mk hk h.lit
 inj:=fun _ _ h=>by injection h
def MapV {P:Program} {k:TypeId} {K:Type} (B:KeyB P k K) (w:World) (b:Nat) (m:K→Option Value) (n:Nat):Prop:=
 ∃D:DataW Value,w.ownsMap P k heldR b n D∧size D=n∧∀x,B.ok x→has D (B.kl x)=(m x).isSome∧∀y,m x=some y→∀z,D.atKey (B.kl x) z=.held y
theorem XJ {H:Type} {P:Program} {k:TypeId} {R:Value→Option (DataW H×List MemPlace)} {w:World} {b n:Nat} {D:DataW H} (h:w.ownsMap P k R b n D):w.ownsMap P k R b (size D) D:=by
 obtain ⟨es,clock,hb,F,_,rfl⟩:=h;exact ⟨es,clock,hb,F,by simp[size,length_sorted],rfl⟩
section
variable {P:Program} {k:TypeId} {K:Type} {B:KeyB P k K} {w:World} {b n:Nat} {m:K→Option Value}
theorem MapV.made (B:KeyB P k K) (w:World):MapV B (w.alloc (.map #[] 0)) w.heap.size (fun _=>none) 0:=
 ⟨_,World.ownsMap_made _ _ _ _,rfl,fun _ _=>⟨rfl,fun y h=>by cases h⟩⟩
theorem MapV.lt (h:MapV B w b m n):b<w.heap.size:=by obtain ⟨D,h,_⟩:=h;exact h.lt
theorem MapV.agree {S:Nat→Prop} {w':World} (h:MapV B w b m n) (hw:Agree S w w') (hS:S b):MapV B w' b m n:=by
 have hl:=h.lt;obtain ⟨D,⟨es,clock,hb,F,hs,hD⟩,r⟩:=h;exact ⟨D,⟨es,clock,(hw.block b hS hl).trans hb,F,hs,hD⟩,r⟩
theorem MapV.ext {w':World} (h:MapV B w b m n) (hw:Below w.heap.size w w'):MapV B w' b m n:=h.agree (S:=fun _=>True) (.of_ext hw) trivial
theorem MapV.alloc (h:MapV B w b m n) (o:Obj):MapV B (w.alloc o) b m n:=h.agree (S:=fun _=>True) ⟨by simp,fun k _ hk=>heap_alloc_old w o hk⟩ trivial
theorem MapV.grown {w':World} {row:Option Nat} (h:MapV B w b m n) (hw:w.grownBy w' row) (hne:row≠some b):MapV B w' b m n:=h.agree (S:=fun x=>x=b) (.of_grown hw fun x hx=>hx▸hne) rfl
theorem MapV.look {t e:TypeId} {z:Value} (h:MapV B w b m n) (ht:P.underlying t=some (.map k e)) (hz:(zeroValue e).run P w=.ok z w) {x:K} (hx:B.ok x) (c:Bool):
  (Instr.lookup t (.map (some b)) (B.kv x) c).run P w=.ok (if c then .tuple #[(m x).getD z,.bool (m x).isSome] else (m x).getD z) w:=by
 obtain ⟨D,h,_,hm⟩:=h;obtain ⟨h1,h2⟩:=hm x hx;have key:∀v ps,heldR v=some (D.atKey (B.kl x) (.held z),ps)→v=(m x).getD z:=by
  intro v ps hv;simp only[heldR,Option.some.injEq,Prod.mk.injEq]at hv;have hv:=hv.1;cases hmx:m x with
  | some y=>rw[h2 y hmx]at hv;injection hv
  | none=>
   rw[hmx]at h1;rw[atKey_of_not_has h1]at hv;injection hv
 cases c with
 | true=>
  obtain ⟨v,ps,hr,hv⟩:=h.look_ok B.law ht hz (zd:=.held z) (zp:=[]) rfl (B.reads x hx);rw[hr,key v ps hv,h1];rfl
 | false=>
  obtain ⟨v,ps,hr,hv⟩:=h.lookup B.law ht hz (zd:=.held z) (zp:=[]) rfl (B.reads x hx);rw[hr,key v ps hv];rfl
theorem MapV.len {t e:TypeId} (h:MapV B w b m n) (ht:P.underlying t=some (.map k e)) (ty:TypeId):(Builtin.len_ #[t] ty #[.map (some b)]).run P w=.ok (.int .i64 n) w:=by
 obtain ⟨D,h,hs,_⟩:=h;rw[h.len ht ty,hs]
theorem MapV.store [DecidableEq K] {t e:TypeId} (h:MapV B w b m n) (ht:P.underlying t=some (.map k e)) (hn:n<maxLen) {x:K} (hx:B.ok x) (y:Value):
  ∃w',(Instr.mapUpdate t (.map (some b)) (B.kv x) y).run P w=.ok () w'∧MapV B w' b (fun z=>if z=x then some y else m z) (if (m x).isSome then n else n+1)∧w.grownBy w' (some b):=by
 obtain ⟨D,h,hs,hm⟩:=h;obtain ⟨w',hr,ho,ht⟩:=h.store (val:=y) (d:=.held y) (ps:=[]) B.law ht hn (B.reads x hx) rfl;have hsz:size (D.put (B.kl x) (.held y))=if (m x).isSome then n else n+1:=by
  rw[size_put (h.tidy B.law),(hm x hx).1,hs]
 refine ⟨w',hr,⟨_,by rw[←hsz];exact XJ ho,hsz,?_⟩,ht.grown⟩;intro z hz;by_cases e:z=x
 ·subst e;simp only[if_true,Option.isSome_some];refine ⟨has_put_same h.isMap (B.key hz) _,fun u hu q=>?_⟩;cases hu;exact atKey_put_same h.isMap (B.key hz) _ _
 ·simp only[if_neg e];have hne:=B.lit_ne hz hx e;rw[has_put_other hne];refine ⟨(hm z hz).1,fun u hu q=>?_⟩;rw[atKey_put_other hne];exact (hm z hz).2 u hu q
variable {ops:Array Oper} {rest:List Oper} {o:Oper} {a:Act} {Q:Exit→Act→World→Prop}
theorem Qv (hg:o.guard=none) (mo xo:Operand) (t:TypeId) (hop:o.op=Op.lookup t mo xo true) (e:TypeId) (ht:P.underlying t=some (.map k e)) (z:Value) (hz:(zeroValue e).run P w=.ok z w)
  (hm:a.eval mo=.map (some b)) (h:MapV B w b m n) (x:K) (hxv:a.eval xo=B.kv x) (hx:B.ok x) (y:Value) (hy:m x=some y)
  (hK:wpList P ops Q rest (a.put o.dst (.tuple #[y,.bool true])) w):wpList P ops Q (o::rest) a w:=by
 refine wpList_plain hg fun K' hK'=>?_;unfold Oper.wp;simp[execOp,hop,hm,hxv,h.look ht hz hx true,Result.andThen,hy];exact hK' _ _ hK
theorem Yz (hg:o.guard=none) (mo xo:Operand) (t:TypeId) (hop:o.op=Op.lookup t mo xo true) (e:TypeId) (ht:P.underlying t=some (.map k e)) (z:Value) (hz:(zeroValue e).run P w=.ok z w)
  (hm:a.eval mo=.map (some b)) (h:MapV B w b m n) (x:K) (hxv:a.eval xo=B.kv x) (hx:B.ok x) (hy:m x=none)
  (hK:wpList P ops Q rest (a.put o.dst (.tuple #[z,.bool false])) w):wpList P ops Q (o::rest) a w:=by
 refine wpList_plain hg fun K' hK'=>?_;unfold Oper.wp;simp[execOp,hop,hm,hxv,h.look ht hz hx true,Result.andThen,hy];exact hK' _ _ hK
theorem Qo [DecidableEq K] (hg:o.guard=none) (mo xo yo:Operand) (t:TypeId) (hop:o.op=Op.mapUpdate t mo xo yo) (e:TypeId) (ht:P.underlying t=some (.map k e))
  (hm:a.eval mo=.map (some b)) (h:MapV B w b m n) (hn:n<maxLen) (x:K) (hxv:a.eval xo=B.kv x) (hx:B.ok x) (y:Value) (hy:a.eval yo=y)
  (hK:∀w',MapV B w' b (fun z=>if z=x then some y else m z) (if (m x).isSome then n else n+1)→w.grownBy w' (some b)→wpList P ops Q rest (a.put o.dst undef) w'):wpList P ops Q (o::rest) a w:=by
 refine wpList_plain hg fun K' hK'=>?_;obtain ⟨w',hr,r1,r2⟩:=h.store ht hn hx y;unfold Oper.wp;simp[execOp,hop,hm,hxv,hy,hr,Result.andThen];exact hK' _ _ (hK w' r1 r2)
theorem Q6 (hg:o.guard=none) (mo:Operand) (t:TypeId) (hop:o.op=Op.call {callee:=Callee.builtin Builtin.len,args:=#[mo],argTypes:=#[t]}) (e:TypeId) (ht:P.underlying t=some (.map k e))
  (hm:a.eval mo=.map (some b)) (h:MapV B w b m n) (hK:wpList P ops Q rest (a.put o.dst (.int .i64 n)) w):wpList P ops Q (o::rest) a w:=by
 refine wpList_plain hg fun K' hK'=>?_;unfold Oper.wp;simp[execOp,hop,resolve,invoke,builtin,hm,h.len ht o.type,Result.andThen];exact hK' _ _ hK
end
end Go.Proofs.YtiabbjolepnjkaaGreat
namespace Go.Proofs.YtiabbjolepnjkaaGreat
open Go.RowKit Go.Maps
theorem zd4:laidOutB Tryz.prog=true:=by kernel_rfl
theorem zfH:(65:TypeId)<Tryz.prog.types.size:=of_decide_eq_true (by kernel_rfl)
theorem ze5:(match Tryz.prog.underlying 65 with | some (.array _ _) | some (.struct _)=>true | _=>false)=true:=by kernel_rfl
theorem zfp:WideMaps.KeyLaw Tryz.prog 65:=deep_law_laid zd4 (m:=3) (by omega) zfH (by kernel_rfl) ze5
theorem XS:Tryz.prog.keyType 65=true:=by kernel_rfl
theorem QI:Tryz.prog.cellsOf 65=8:=by kernel_rfl
theorem Qp:Tryz.prog.cellsOf 63=5:=by kernel_rfl
theorem zao:Tryz.prog.cellsOf 3=1:=by kernel_rfl
theorem zeQ:∃d,Tryz.prog.types.size=d+3:=⟨Tryz.prog.types.size - 3,by kernel_rfl⟩
theorem yj (d:Nat) (x:Int) (h:WF x):Tryz.prog.keyLits (d+1) 3 [x]=some [.int .i64 x]:=by
 simp[Program.keyLits,Tryz.underlying3,h.lit]
theorem zdQ (x:List Int) (hl:x.length=8) (hw:∀y∈x,WF y):∃ls,Tryz.prog.keyLits (Tryz.prog.types.size+1) 65 (x.map (Value.int .i64))=some ls:=by
 match x,hl with
 | [a,b,c,d,e,f,g,h],_=>
  obtain ⟨n,hn⟩:=zeQ;rw[hn];have ha:=yj (n+2) a (hw a (by simp));have hb:=yj (n+2) b (hw b (by simp));have hc:=yj (n+2) c (hw c (by simp));have hd:=yj (n+1) d (hw d (by simp));have he:=yj (n+1) e (hw e (by simp));have hf:=yj (n+1) f (hw f (by simp));have hg:=yj (n+1) g (hw g (by simp));have hh:=yj (n+1) h (hw h (by simp));have wa:=(hw a (by simp)).lit;have wb:=(hw b (by simp)).lit;have wc:=(hw c (by simp)).lit;have wd:=(hw d (by simp)).lit;have we:=(hw e (by simp)).lit;have wf:=(hw f (by simp)).lit;have wg:=(hw g (by simp)).lit;have wh:=(hw h (by simp)).lit;have h5:Tryz.prog.keyLits (n+3) 63 [d,e,f,g,h]=some [.int .i64 d,.int .i64 e,.int .i64 f,.int .i64 g,.int .i64 h]:=by
   simp[Program.keyLits,Tryz.underlying63,Tryz.underlying3,Qp,zao,List.range_succ,wd,we,wf,wg,wh]
  refine ⟨[.int .i64 a,.int .i64 b,.int .i64 c,.int .i64 d,.int .i64 e,.int .i64 f,.int .i64 g,.int .i64 h],?_⟩;simp[Program.keyLits,Tryz.underlying65,Tryz.underlying63,Tryz.underlying3,QI,zao,Qp,List.range_succ,wa,wb,wc,wd,we,wf,wg,wh]
theorem zbi (xs:List Value) (h:xs.length=8):(Value.agg xs.toArray).formed Tryz.prog 65=true:=by
 simp[Value.formed,Tryz.underlying65,QI,h]
noncomputable def viewKey:KeyB Tryz.prog 65 (List Int) where
 law:=Keyed.of_law zfp
 kv x:=.agg (x.map (Value.int .i64)).toArray
 kl x:=(keyOf Tryz.prog 65 (.agg (x.map (Value.int .i64)).toArray)).getD (.bool true)
 ok x:=x.length=8∧∀y∈x,WF y
 reads x h:=by
  obtain ⟨ls,hls⟩:=zdQ x h.1 h.2;have:∃l,keyOf Tryz.prog 65 (.agg (x.map (Value.int .i64)).toArray)=some l:=by
   unfold keyOf;have hf:=zbi (x.map (Value.int .i64)) (by simp[h.1]);simp only[Tryz.underlying65,XS,hf,Bool.and_self,if_true];simp only[Value.cells];rw[hls];exact ⟨_,rfl⟩
  obtain ⟨l,hl⟩:=this;rw[hl];rfl
 inj x y h:=by
  injection h with h;have h2:x.map (Value.int .i64)=y.map (Value.int .i64):=by
   have:=congrArg Array.toList h;simpa using this
  exact (List.map_inj_right (fun a b e=>by injection e)).1 h2
end Go.Proofs.YtiabbjolepnjkaaGreat
namespace Go.Proofs.YtiabbjolepnjkaaGreat
section
variable {P:Program} {ops:Array Oper} {Q:Exit→Act→World→Prop} {md:Region.Mode} {S:World→Prop} {X:Nat→Bool}
def waitsB (md:Region.Mode) (ops:Array Oper):Nat→Nat→Nat→Bool
 | 0,_,_=>false
 | n+1,j,i=>match ops[j]? with | some o=>o.after.any (fun e=>Region.binds md e&&(e.on==i||waitsB md ops n e.on i)) | none=>false
def ClosedL (md:Region.Mode) (ops:Array Oper) (listed:Array Bool):Prop:=∀k ok,ops[k]? =some ok→listed.getD k true=true→∀e∈ok.after,Region.binds md e=true→listed.getD e.on true=true
theorem QE {listed:Array Bool} (hc:ClosedL md ops listed) {i:Nat} (hi:listed.getD i true=false):∀(n j:Nat),waitsB md ops n j i=true→∃o,ops[j]? =some o∧∃e∈o.after,Region.binds md e=true∧listed.getD e.on true=false
 | 0,_,h=>by cases h
 | n+1,j,h=>by
  unfold waitsB at h;cases ho:ops[j]? with
  | none=>rw[ho]at h;cases h
  | some o=>
   rw[ho]at h;simp only at h;rw[Array.any_eq_true]at h;obtain ⟨k,hk,he⟩:=h;simp only[Bool.and_eq_true,Bool.or_eq_true,beq_iff_eq]at he;refine ⟨o,rfl,o.after[k],Array.getElem_mem hk,he.1,?_⟩;rcases he.2 with h2 | h2
   ·rw[h2];exact hi
   ·obtain ⟨o2,ho2,e2,he2,hb2,hl2⟩:=QE hc hi n _ h2;cases hl:listed.getD (o.after[k]).on true with
    | false=>rfl
    | true=>
     have:=hc _ _ ho2 hl e2 he2 hb2;rw[hl2]at this;cases this
theorem zc6 {listed:Array Bool} (hc:ClosedL md ops listed) {j:Nat} (hj:j∈Region.ready md ops listed):ClosedL md ops (listed.setIfInBounds j true):=by
 have up:∀q,listed.getD q true=true→(listed.setIfInBounds j true).getD q true=true:=fun q hq=>by
  by_cases e:j=q
  ·subst e;rcases Nat.lt_or_ge j listed.size with h | h
   ·simp[h]
   ·simp[Array.getElem?_eq_none (show (listed.setIfInBounds j true).size≤j by simpa using h)]
  ·rw[getD_set_ne true e];exact hq
 obtain ⟨_,oj,hoj,hall⟩:=mem_ready.1 hj;intro k ok hk hl e he hb;by_cases ejk:j=k
 ·subst ejk;rw[hoj]at hk;cases hk;have h1:=hall e he hb;refine up _ ?_;rcases Nat.lt_or_ge e.on listed.size with h' | h'
  ·simp[h']at h1 ⊢;exact h1
  ·simp[Array.getElem?_eq_none h']
 ·rw[getD_set_ne true ejk]at hl;exact up _ (hc k ok hk hl e he hb)
def waitForT (md:Region.Mode) (ops:Array Oper) (X:Nat→Bool) (i:Nat):Bool:=(List.range ops.size).all fun j=> !X j||waitsB md ops ops.size j i
theorem zbe {i:Nat} {oi:Oper} {v:Value} (hi:ops[i]? =some oi) (hsel:∀(j:Nat) (o:Oper) cs b,ops[j]? =some o→o.op≠.select cs b)
  (hX:waitForT md ops X i=true) (hQ:∀c a w,Q (.panic c) (a.put oi.dst v) w→Q (.panic c) a w):
  ∀(fuel:Nat) (listed:Array Bool) (a:Act) (w:World),ClosedL md ops listed→
   (∀j oj,ops[j]? =some oj→j≠i→listed.getD j true=false→(∀e∈oj.after,Region.binds md e=true→e.on≠i)→oi.apart ops oj=true)→
   i∈Region.ready md ops listed→YieldsIf P ops S oi v a→S w→
   AnyE P md ops Q S X fuel (listed.setIfInBounds i true) (a.put oi.dst v) w→AnyE P md ops Q S X (fuel+1) listed a w:=by
 intro fuel;induction fuel with
 | zero=>
  intro listed a w _ _ hr hy hS H;refine ⟨fun h=>(by rw[h]at hr;cases hr),fun j hj=>?_⟩;by_cases hji:j=i
  ·subst hji;exact hy.wpOp hi hS ⟨fun _=>hS,H⟩
  ·have:=ready_mono hj hji;rw[H.1]at this;cases this
 | succ fuel ih=>
  intro listed a w hc hfree hr hy hS H;refine ⟨fun h=>(by rw[h]at hr;cases hr),fun j hj=>?_⟩;by_cases hji:j=i
  ·subst hji;exact hy.wpOp hi hS ⟨fun _=>hS,H⟩
  ·have h1:=H.2 j (ready_mono hj hji);have hj2:=hj;obtain ⟨hjun,oj,hoj,hall⟩:=mem_ready.1 hj;have hun:listed.getD i true=false:=by simpa using (mem_ready.1 hr).1
   have tr:∀q,(listed.getD q true=true↔listed.getD q false=true∨listed.size≤q):=fun q=>by
    rcases Nat.lt_or_ge q listed.size with h' | h'
    ·simp[h'];omega
    ·simp[Array.getElem?_eq_none h',h']
   have hnot:∀e∈oj.after,Region.binds md e=true→e.on≠i:=fun e he hb heq=>by
    have k1:=hall e he hb;have k0:=(mem_ready.1 hr).1;rw[heq]at k1;rcases Nat.lt_or_ge i listed.size with h' | h'
    ·simp[h']at k0 k1;rw[k0]at k1;cases k1
    ·simp[Array.getElem?_eq_none h']at k1
   have hxj:X j=false:=by
    cases hx:X j with
    | false=>rfl
    | true=>
     have:=List.all_eq_true.1 hX j (List.mem_range.2 (Array.getElem?_eq_some_iff.1 hoj).1);rw[hx]at this;simp only[Bool.not_true,Bool.false_or]at this;obtain ⟨o2,ho2,e,he,hb,hl⟩:=QE hc hun _ _ this;rw[hoj]at ho2;cases ho2;have k1:=hall e he hb;rcases Nat.lt_or_ge e.on listed.size with h' | h'
     ·simp[h']at k1 hl;rw[hl]at k1;cases k1
     ·simp[Array.getElem?_eq_none h']at k1
   have h2:=wpOp_putIf hoj (hfree j oj hoj hji hjun hnot) (fun cs b=>hsel i oi cs b hi) (fun cs b=>hsel j oj cs b hoj) hQ hy h1;refine wpOp_mono (fun a' w' h3=>⟨fun _=>h3.2.1 hxj,ih (listed.setIfInBounds j true) a' w' (zc6 hc hj2) (fun k ok hk hki hun hno=>?_) (ready_mono hr (Ne.symm hji)) h3.1 (h3.2.1 hxj) ?_⟩) h2
   ·refine hfree k ok hk hki ?_ hno;by_cases hjk:j=k
    ·subst hjk;exact hjun
    ·rw[getD_set_ne true hjk]at hun;exact hun
   ·rw[Array.setIfInBounds_comm _ _ hji];exact h3.2.2
def closedB (md:Region.Mode) (ops:Array Oper) (listed:Array Bool):Bool:=
 (List.range ops.size).all fun k=> !listed.getD k true||(match ops[k]? with | some o=>o.after.all (fun e=> !Region.binds md e||listed.getD e.on true) | none=>true)
theorem XZ {listed:Array Bool} (h:closedB md ops listed=true):ClosedL md ops listed:=fun k ok hk hl e he hb=>by
 have:=List.all_eq_true.1 h k (List.mem_range.2 (Array.getElem?_eq_some_iff.1 hk).1);rw[hk,hl]at this;simp only[Bool.not_true,Bool.false_or]at this;rw[Array.all_eq_true]at this;obtain ⟨q,hq,rfl⟩:=Array.getElem_of_mem he;have:=this q hq;rw[hb]at this;simpa using this
theorem anyE_takeT {l:List Oper} (i:Nat) {oi:Oper} {v:Value} {fuel:Nat} {listed:Array Bool} {a:Act} {w:World} (hi:l[i]? =some oi)
  (hf:(Region.noSelect l.toArray&&(Region.free md l.toArray listed i&&((Region.ready md l.toArray listed).contains i&&(waitForT md l.toArray X i&&closedB md l.toArray listed))))=true)
  (hQ:∀c a w,Q (.panic c) (a.put oi.dst v) w→Q (.panic c) a w) (hw:Region.wanted oi (yielded l.toArray a.tmps)=true) (hy:∀w,S w→(execOp a.eval oi).run P w=.ok (.value v) w) (hS:S w)
  (h:AnyE P md l.toArray Q S X fuel (listed.setIfInBounds i true) (a.put oi.dst v) w):AnyE P md l.toArray Q S X (fuel+1) listed a w:=by
 simp only[Bool.and_eq_true]at hf;obtain ⟨h1,h2,h3,h4,h5⟩:=hf;have hi':l.toArray[i]? =some oi:=by simpa using hi
 exact zbe hi' (Region.noSelect_spec h1) h4 hQ fuel listed a w (XZ h5) (Region.free_spec hi' h2) (by simpa using h3) (.inl ⟨hw,hy⟩) hS h
theorem zu {P:Program} {Q:Exit→Act→World→Prop} {md:Region.Mode} {S:World→Prop} {X:Nat→Bool} {l:List Oper} (i:Nat) {oi:Oper} {v:Value} {fuel:Nat} {listed:Array Bool} {a a':Act} {w:World} (hS:S w) (h:AnyE P md l.toArray Q S X fuel (listed.setIfInBounds i true) a' w)
  (hi:l[i]? =some oi:=by rfl) (hf:(Region.noSelect l.toArray&&(Region.free md l.toArray listed i&&((Region.ready md l.toArray listed).contains i&&(waitForT md l.toArray X i&&closedB md l.toArray listed))))=true:=by kernel_rfl)
  (hQ:∀c a w,Q (.panic c) (a.put oi.dst v) w→Q (.panic c) a w:=by exact fun _ _ _ h=>h) (hw:Region.wanted oi (yielded l.toArray a.tmps)=true:=by rfl)
  (hy:∀w,S w→(execOp a.eval oi).run P w=.ok (.value v) w:=by (intro w hSw;(try dsimp only at hSw);go_simp;try with_reducible rfl))
  (ha:a.put oi.dst v=a':=by (try simp only[Act.put,zsa,zsz,zss]);exact rfl):AnyE P md l.toArray Q S X (fuel+1) listed a w:=by
 subst ha;exact anyE_takeT i hi hf hQ hw hy hS h
end
end Go.Proofs.YtiabbjolepnjkaaGreat
namespace Go.Proofs.YtiabbjolepnjkaaGreat
section
variable {K:Type} [DecidableEq K]
def addF (s:List K) (k:K):List K:=if k∈s then s else s++[k]
def firsts (l:List K):List K:=l.foldl addF []
def lab (l:List K) (k:K):Nat:=(firsts l).idxOf k
def labs (l:List K):List Int:=l.map fun k=>(lab l k:Int)
theorem qR (l:List K) (x:K):firsts (l++[x])=addF (firsts l) x:=by simp[firsts,List.foldl_append]
theorem zfj {s:List K} {x k:K}:k∈addF s x↔k∈s∨k=x:=by
 unfold addF;split
 ·rename_i h;exact ⟨.inl,fun h'=>h'.elim id (fun e=>e▸h)⟩
 ·simp
theorem Qg (l:List K):∀s:List K,∀k,k∈l.foldl addF s↔k∈s∨k∈l:=by
 induction l with
 | nil=>simp
 | cons x l ih=>intro s k;simp[ih,zfj,or_assoc]
theorem yn {l:List K} {k:K}:k∈firsts l↔k∈l:=by simp[firsts,Qg]
theorem zcS {s:List K} {x k:K} (h:k∈s):(s++[x]).idxOf k=s.idxOf k:=by rw[List.idxOf_append];simp[h]
theorem zdF {s:List K} {x:K} (h:x∉s):(s++[x]).idxOf x=s.length:=by rw[List.idxOf_append];simp[h]
theorem xC {l:List K} {x k:K} (h:k∈l):lab (l++[x]) k=lab l k:=by
 unfold lab;rw[qR];unfold addF;split
 ·rfl
 ·exact zcS (yn.2 h)
theorem XH {l:List K} {x:K} (h:x∉l):lab (l++[x]) x=(firsts l).length:=by
 unfold lab;rw[qR];unfold addF;rw[if_neg (fun h'=>h (yn.1 h'))];exact zdF (fun h'=>h (yn.1 h'))
theorem Qt {l:List K} {x:K} (h:x∈l):firsts (l++[x])=firsts l:=by rw[qR];unfold addF;rw[if_pos (yn.2 h)]
theorem QK {l:List K} {x:K} (h:x∉l):firsts (l++[x])=firsts l++[x]:=by rw[qR];unfold addF;rw[if_neg (fun h'=>h (yn.1 h'))]
theorem Qd (s:List K) (x:K):(addF s x).length≤s.length+1:=by unfold addF;split<;>simp
theorem qW (l:List K):(firsts l).length≤l.length:=by
 have:∀(l s:List K),(l.foldl addF s).length≤s.length+l.length:=by
  intro l;induction l with
  | nil=>simp
  | cons x l ih=>intro s;have:=ih (addF s x);have:=Qd s x;simp;omega
 simpa[firsts] using this l []
theorem Zv (l:List K) (x:K):labs (l++[x])=labs l++[(lab (l++[x]) x:Int)]:=by
 unfold labs;rw[List.map_append];congr 1
 apply List.map_congr_left;intro k hk;rw[xC hk]
@[simp] theorem length_labs (l:List K):(labs l).length=l.length:=by simp[labs]
theorem ze0 {l:List K} {k:K} (h:k∈l):lab l k<(firsts l).length:=List.idxOf_lt_length_iff.2 (yn.2 h)
theorem zgL {l:List K} {j k:K} (hj:j∈l) (hk:k∈l) (h:lab l j=lab l k):j=k:=by
 unfold lab at h;have h1:=List.getElem_idxOf (x:=j) (xs:=firsts l) (List.idxOf_lt_length_iff.2 (yn.2 hj));have h2:=List.getElem_idxOf (x:=k) (xs:=firsts l) (List.idxOf_lt_length_iff.2 (yn.2 hk));rw[←h1,←h2];congr 1
end
end Go.Proofs.YtiabbjolepnjkaaGreat
namespace Go.Proofs.YtiabbjolepnjkaaGreat
section
variable {K:Type} [DecidableEq K]
def labMap (l:List K) (k:K):Option Value:=if k∈l then some (.int .i64 (lab l k)) else none
def labRow (l:List K) (n:Nat):List Value:=(labs l).map (Value.int .i64)++List.replicate (n - l.length) (.int .i64 0)
theorem zcG:labMap ([]:List K)=fun _=>none:=by funext k;simp[labMap]
theorem zcH {l:List K} {x:K} (h:x∈l):labMap l x=some (.int .i64 (lab l x)):=by simp[labMap,h]
theorem zbO {l:List K} {x:K} (h:x∉l):labMap l x=none:=by simp[labMap,h]
theorem zcV {l:List K} {x:K} (h:x∈l):labMap (l++[x])=labMap l:=by
 funext k
 unfold labMap;by_cases hk:k∈l
 ·rw[if_pos hk,if_pos (by simp[hk]),xC hk]
 ·have:k≠x:=fun e=>hk (e▸h);rw[if_neg hk,if_neg (by simp[hk,this])]
theorem zcJ {l:List K} {x:K} (h:x∉l):(fun z=>if z=x then some (Value.int .i64 ((firsts l).length:Int)) else labMap l z)=labMap (l++[x]):=by
 funext k
 by_cases e:k=x
 ·subst e;simp[labMap,XH h]
 ·rw[if_neg e];unfold labMap;by_cases hk:k∈l
  ·rw[if_pos hk,if_pos (by simp[hk]),xC hk]
  ·rw[if_neg hk,if_neg (by simp[hk,e])]
theorem zdp (n:Nat):labRow ([]:List K) n=List.replicate n (.int .i64 0):=by simp[labRow,labs]
theorem zbb (l:List K):labRow l l.length=(labs l).map (Value.int .i64):=by simp[labRow]
theorem QD {l:List K} {n:Nat} (h:l.length<n):(labRow l n)[l.length]? =some (.int .i64 0):=by
 unfold labRow;rw[List.getElem?_append_right (by simp)];have e:n - l.length=(n - l.length - 1)+1:=by omega
 rw[e,List.replicate_succ];simp
theorem QU {l:List K} {x:K} {n:Nat} (h:l.length<n):(labRow l n).set l.length (.int .i64 (lab (l++[x]) x))=labRow (l++[x]) n:=by
 unfold labRow;rw[Zv,List.map_append,List.set_append_right _ _ (by simp)];have e:n - l.length=(n - (l++[x]).length)+1:=by simp;omega
 rw[e,List.replicate_succ];simp
end
theorem zf9 {K:Type} [DecidableEq K] {l:List K} (h:l.length≤65536):∀x∈labs l,WF x:=by
 intro x hx;obtain ⟨k,hk,rfl⟩:=List.mem_map.1 hx;have:=ze0 hk;have:=qW l;exact WF.small (by omega)
end Go.Proofs.YtiabbjolepnjkaaGreat
namespace Go.Proofs.YtiabbjolepnjkaaGreat
open Go.RowKit
theorem info3:(Tryz.prog.info? 3).map (fun i=>(i.zero,i.size,i.bytes))=some (some (.int .i64 0),1,8):=by kernel_rfl
theorem zb8 (w:World):(zeroValue 3).run Tryz.prog w=.ok (.int .i64 0) w:=by kernel_rfl
noncomputable def keyInt:KeyB Tryz.prog 3 Int:=intKey Tryz.underlying3
theorem Yw {S:Nat→Prop} {w:World} {v:Value} {l:List Int} (h:Ints S w v l) (hlen:l.length≤65536):
  Calls Tryz.prog 78 #[v] w (Post w fun w' r=>Ints (fun b=>w.heap.size≤b) w' r (labs l)):=by
 obtain ⟨a,cap,rfl,ha,_,hm,hc,hf⟩:=h;clear hm;obtain ⟨i0,hi,hz0,hz1,hz2⟩:=info_parts info3;have hix:=zF Tryz.underlying36 hi hz1 ha;have hmm:=@run_makeMap Tryz.prog;have hmk:=run_make_row' 36 3 (.int .i64 0) 8 Tryz.underlying36 info3 rfl .i64 .i64 l.length (by omega) (by omega);clear hi hz0 hz1 hz2;go_enter Tryz.func78,Tryz.ntmps78;go_wp2;go_loopw [15] (fun i wr=>∃k:Nat,k≤l.length∧i=.int .i64 k∧Below w.heap.size w wr∧MapV keyInt wr w.heap.size (labMap (l.take k)) (firsts (l.take k)).length∧Row wr (w.heap.size+1) 3 (labRow (l.take k) l.length)) (fun i _=>l.length - (intOf i).toNat)
 case atStart=>
  refine ⟨0,by omega,rfl,((Below.refl _ _).alloc (Nat.le_refl _) _).alloc (by simp) _,?_,?_⟩
  ·rw[List.take_zero,zcG];exact (MapV.made keyInt w).agree (Agree.of_grown (S:=fun b=>b=w.heap.size) (World.grownBy_alloc _ _ none) (by simp)) rfl
  ·rw[List.take_zero,zdp];have:=Row.made (w.alloc (.map #[] 0)) (.int .i64 0) l.length 3;simpa using this
 case round=>
  obtain ⟨k,hk,rfl,hb,hM,hR⟩:=hrel;have hd:=XL ha hb hc;by_cases hlt:k<l.length
  ·have q:=hix k hlt;have p:=hd k hlt;have hwf:WF (nth l k):=hf _ (ZO hlt);have HT:=zhd (qP hlt);have hB:=hb.size;have hs:=hM.lt;have HK:=zhd (show (l.take k).length=k by simp;omega);have hR0:=hR.cell (j:=k) (u:=.int .i64 0) (by have:=QD (l:=l.take k) (n:=l.length) (by rw[HK.out];omega);rw[HK.out]at this;exact this);have hRf:=hR.free k;have hFl:(firsts (l.take k)).length≤k:=by have:=qW (l.take k);rw[HK.out]at this;exact this
   by_cases hin:nth l k∈l.take k
   ·have hhit:=zhd (zcH hin);clear hix hd hc;go_wp2_with (at_lookup;refine Qv rfl _ _ 91 rfl 3 Tryz.underlying91 (.int .i64 0) (zb8 _) rfl hM (nth l k) rfl hwf _ hhit.out ?_);go_roundw
    case rel=>
     have:=HK.out;refine ⟨k+1,by omega,by go_num,hb.setCell (by simp) _,?_,?_⟩
     ·rw[HT.out,zcV hin,Qt hin];exact hM.agree (S:=fun b=>b=w.heap.size) (.of_grown (zm _ _ _ _) (by simp)) rfl
     ·rw[HT.out,←QU (by rw[HK.out];exact hlt),HK.out,xC hin];exact hR.set k _
    case measure=>simp[intOf];omega
   ·have hmiss:=zhd (zbO hin);clear hix hd hc;go_wp2_with (first
     | (at_lookup;refine Yz rfl _ _ 91 rfl 3 Tryz.underlying91 (.int .i64 0) (zb8 _) rfl hM (nth l k) rfl hwf hmiss.out ?_)
     | (at_len;refine Q6 rfl _ 91 rfl 3 Tryz.underlying91 rfl hM ?_)
     | (at_mapUpdate;refine Qo rfl _ _ _ 91 rfl 3 Tryz.underlying91 rfl hM (by unfold maxLen;omega) (nth l k) rfl hwf (.int .i64 ((firsts (l.take k)).length:Int)) rfl ?_;intro w1 hM1 hg1;have p1:=(hR.grown hg1 (by simp)).cell (j:=k) (u:=.int .i64 0) (by have:=QD (l:=l.take k) (n:=l.length) (by rw[HK.out];omega);rw[HK.out]at this;exact this);have p2:=(hR.grown hg1 (by simp)).free k))
    go_roundw
    case rel=>
     have:=HK.out;refine ⟨k+1,by omega,by go_num,(hb.grown hg1 hB (fun j hj=>by cases hj;exact Nat.le_refl _)).setCell (by simp) _,?_,?_⟩
     ·rw[hmiss.out,zcJ hin]at hM1;rw[HT.out,QK hin];simpa using hM1.agree (S:=fun b=>b=w.heap.size) (.of_grown (zm _ _ _ _) (by simp)) rfl
     ·rw[HT.out,←QU (by rw[HK.out];exact hlt),HK.out,XH hin];exact (hR.grown hg1 (by simp)).set k _
    case measure=>simp[intOf];omega
  ·have hk':k=l.length:=by omega
   subst hk';go_wp2;go_ret;rw[List.take_length,zbb]at hR;have:=hR.ints (by unfold maxLen;simp;omega) (zf9 hlen);rw[length_labs]at this;exact .mk hb (this.mono (by intro b hb;omega))
def checkTo:List Int→Int→Int
 | [],_=>0
 | x::l,n=>if x<0 then 2 else if n<x then 14 else if x=n then checkTo l (n+1) else checkTo l n
def checkS (l:List Int):Int:=if 65536<l.length then 5 else checkTo l 0
theorem yK {l:List Int} {k:Nat} {m:Int} (hb:¬65536<l.length) (h:checkTo (l.drop k) m=checkTo l 0) {c:Int} (hc:checkTo (l.drop k) m=c):Value.int .i64 c=Value.int .i64 (checkS l):=by
 simp[checkS,hb,←h,hc]
theorem Y3 {S:Nat→Prop} {w:World} {v:Value} {l:List Int} (h:Ints S w v l):
  Calls Tryz.prog 48 #[v] w (Post w fun _ r=>r=.int .i64 (checkS l)):=by
 obtain ⟨a,cap,rfl,ha,h1,h2,hc,hf⟩:=h;unfold maxLen at h2;obtain ⟨i0,hi,hz0,hz1,hz2⟩:=info_parts zG;have hix:=zF Tryz.underlying36 hi hz1 ha;clear hi hz0 hz1 hz2;go_enter Tryz.func48,Tryz.ntmps48;by_cases hbig:65536<l.length
 ·go_wp2;go_ret;exact .same (by simp[checkS,hbig])
 ·go_wp2;go_loop [3,11] (fun n i=>∃k:Nat,∃m:Int,k≤l.length∧0≤m∧m≤k∧i=.int .i64 k∧n=.int .i64 m∧checkTo (l.drop k) m=checkTo l 0) (fun _ i=>l.length - (intOf i).toNat)
  case atStart=>exact ⟨0,0,by omega,by omega,by omega,rfl,rfl,rfl⟩
  case round=>
   obtain ⟨k,m,hk,hm0,hmk,rfl,rfl,hrel⟩:=hrel;have H:=zhd hrel;clear hrel;by_cases hlt:k<l.length
   ·have HS:=zhd (xM hlt);go_wp2
    ·go_ret;exact .same (yK hbig H.out (by rw[HS.out,checkTo,if_pos ‹_›]))
    ·go_ret;exact .same (yK hbig H.out (by rw[HS.out,checkTo,if_neg (by omega),if_pos ‹_›]))
    ·go_round
     case rel=>exact ⟨k+1,m+1,by omega,by omega,by omega,by go_num,rfl,by rw[←H.out,HS.out,checkTo,if_neg (by omega),if_neg (by omega),if_pos (beq_iff_eq.1 ‹_›)]⟩
     case measure=>simp[intOf];omega
    ·go_round
     case rel=>exact ⟨k+1,m,by omega,by omega,by omega,by go_num,rfl,by rw[←H.out,HS.out,checkTo,if_neg (by omega),if_neg (by omega),if_neg (beq_eq_false_iff_ne.1 ‹_›)]⟩
     case measure=>simp[intOf];omega
   ·go_wp2;go_ret;exact .same (yK hbig H.out (by rw[List.drop_of_length_le (by omega),checkTo]))
end Go.Proofs.YtiabbjolepnjkaaGreat
namespace Go.Proofs.YtiabbjolepnjkaaGreat
def numS (l:List Int):Int:=l.foldl (fun n x=>max n (x+1)) 0
theorem qX (l:List Int) (x:Int):numS (l++[x])=max (numS l) (x+1):=by simp[numS,List.foldl_append]
theorem qJ (l:List Int):0≤numS l:=by
 have:∀(l:List Int) (n:Int),n≤l.foldl (fun n x=>max n (x+1)) n:=by
  intro l;induction l with
  | nil=>intro n;exact Int.le_refl _
  | cons x l ih=>intro n;exact Int.le_trans (Int.le_max_left _ _) (ih _)
 exact this l 0
def Good (l:List Int):Prop:=l.length≤65536∧∀i,i<l.length→0≤nth l i∧nth l i≤numS (l.take i)
theorem zfh (l:List Int):∀n k,n=l.length - k→k≤l.length→(checkTo (l.drop k) (numS (l.take k))=0↔∀i,k≤i→i<l.length→0≤nth l i∧nth l i≤numS (l.take i)):=by
 intro n;induction n with
 | zero=>
  intro k hn hk;have hk':k=l.length:=by omega
  subst hk';simp only[List.drop_length,checkTo,true_iff];intro i h1 h2;omega
 | succ n ih=>
  intro k hn hk;have hlt:k<l.length:=by omega
  have ihk:=ih (k+1) (by omega) (by omega);rw[xM hlt,checkTo];rw[qP hlt,qX]at ihk;constructor
  ·intro h;split at h
   ·cases h
   ·split at h
    ·cases h
    ·have hm:(if nth l k=numS (l.take k) then numS (l.take k)+1 else numS (l.take k))=max (numS (l.take k)) (nth l k+1):=by
      split<;>omega
     have h':checkTo (l.drop (k+1)) (max (numS (l.take k)) (nth l k+1))=0:=by
      rw[←hm];split at h<;>(rename_i hx;simpa[hx] using h)
     intro i h1 h2;by_cases hik:i=k
     ·subst hik;omega
     ·exact ihk.1 h' i (by omega) h2
  ·intro h;have hk0:=h k (Nat.le_refl _) hlt;rw[if_neg (by omega),if_neg (by omega)];have hm:(if nth l k=numS (l.take k) then numS (l.take k)+1 else numS (l.take k))=max (numS (l.take k)) (nth l k+1):=by
    split<;>omega
   have h':=ihk.2 (fun i h1 h2=>h i (by omega) h2);rw[←hm]at h';split<;>(rename_i hx;simpa[hx] using h')
theorem Zi {l:List Int}:checkS l=0↔Good l:=by
 have:=zfh l l.length 0 (by omega) (by omega);simp only[List.drop_zero,List.take_zero]at this;unfold checkS Good;split
 ·constructor
  ·intro h;cases h
  ·intro h;omega
 ·rw[show (0:Int)=numS [] from rfl]at *;rw[this];constructor
  ·intro h;exact ⟨by omega,fun i hi=>h i (by omega) hi⟩
  ·intro h i _ hi;exact h.2 i hi
def classS (l:List Int) (k:Int):List Int:=((List.range l.length).filter fun i=>nth l i==k).map fun i:Nat=>(i:Int)
theorem X5 {l:List Int} {x:Int} {i:Nat} (h:i<l.length):nth (l++[x]) i=nth l i:=by simp[nth,List.getElem?_append_left h]
theorem zaY {l:List Int} {x:Int}:nth (l++[x]) l.length=x:=by simp[nth]
theorem Yy (l:List Int) (x k:Int):classS (l++[x]) k=if x=k then classS l k++[(l.length:Int)] else classS l k:=by
 unfold classS;have e:(List.range (l++[x]).length).filter (fun i=>nth (l++[x]) i==k)=(List.range l.length).filter (fun i=>nth l i==k)++(if x=k then [l.length] else []):=by
  rw[List.length_append,List.length_singleton,List.range_succ,List.filter_append];congr 1
  ·apply List.filter_congr;intro i hi;rw[X5 (by simpa using hi)]
  ·have:=zaY (l:=l) (x:=x);by_cases h:x=k
   ·subst h;simp[this]
   ·simp[this,h]
 rw[e,List.map_append];split<;>simp
def classesS (l:List Int):List (List Int):=(List.range (numS l).toNat).map fun k:Nat=>classS l (k:Int)
theorem zL (l:List Int):(classesS l).length=(numS l).toNat:=by simp[classesS]
theorem yk {l:List Int} {k:Nat} (h:k<(numS l).toNat):nthL (classesS l) k=classS l k:=by
 rw[zV (by rw[zL];exact h)];simp[classesS]
theorem zb7 {a b:List (List Int)} (h:a.length=b.length) (hh:∀k,k<a.length→nthL a k=nthL b k):a=b:=by
 apply List.ext_getElem h;intro k h1 h2;have:=hh k h1
 rwa [zV h1,zV h2]at this
theorem Y6 {ll:List (List Int)} {x j:Nat} {y:List Int} (h:j≠x):nthL (ll.set x y) j=nthL ll j:=by simp[nthL,List.getElem?_set_ne (fun e:x=j=>h e.symm)]
theorem YA {ll:List (List Int)} {x:Nat} {y:List Int} (h:x<ll.length):nthL (ll.set x y) x=y:=by simp[nthL,h]
theorem zaK {l:List Int} {x:Int} (h0:0≤x) (h:x<numS l):classesS (l++[x])=(classesS l).set x.toNat (nthL (classesS l) x.toNat++[(l.length:Int)]):=by
 have hn:numS (l++[x])=numS l:=by rw[qX];omega
 apply zb7
 ·simp[hn,zL]
 ·intro k hk;rw[zL,hn]at hk;rw[yk (by rw[hn];exact hk),Yy];by_cases e:k=x.toNat
  ·subst e;rw[YA (by rw[zL];exact hk),if_pos (by omega),yk hk]
  ·rw[Y6 e,if_neg (by omega),yk hk]
theorem zbo {l:List Int} {k:Int} (h:numS l≤k):classS l k=[]:=by
 unfold classS;rw[List.map_eq_nil_iff,List.filter_eq_nil_iff];intro i hi;have:∀(l:List Int) (x:Int),x∈l→x<numS l:=by
  intro l;have key:∀(l:List Int) (n x:Int),(x∈l∨x<n)→x<l.foldl (fun n x=>max n (x+1)) n:=by
   intro l;induction l with
   | nil=>intro n x h;simpa using h
   | cons y l ih=>
    intro n x h;refine ih _ x ?_;show _∨x<max n (y+1);rcases h with h | h
    ·rcases List.mem_cons.1 h with rfl | h
     ·right;omega
     ·left;exact h
    ·right;omega
  intro x hx;exact key l 0 x (.inl hx)
 have:=this l (nth l i) (ZO (by simpa using hi));simp;omega
theorem XR {l:List Int} {x:Int} (h:x=numS l):classesS (l++[x])=(classesS l++[[]]).set x.toNat ([]++[(l.length:Int)]):=by
 have h0:=qJ l;have hn:(numS (l++[x])).toNat=(numS l).toNat+1:=by rw[qX];omega
 apply zb7
 ·simp[hn,zL]
 ·intro k hk;rw[zL,hn]at hk;rw[yk (by rw[hn];exact hk),Yy];by_cases e:k=x.toNat
  ·subst e;rw[YA (by rw[List.length_append,zL];simp;omega),if_pos (by omega),zbo (by omega)]
  ·rw[Y6 e,if_neg (by omega)];have hk':k<(numS l).toNat:=by omega
   have:nthL (classesS l++[[]]) k=nthL (classesS l) k:=by simp[nthL,List.getElem?_append_left (show k<(classesS l).length by rw[zL];exact hk')]
   rw[this,yk hk']
theorem zf8 (l:List Int) (hg:∀i,i<l.length→0≤nth l i∧nth l i≤numS (l.take i)):∀k,k≤l.length→numS (l.take k)≤k:=by
 intro k;induction k with
 | zero=>intro _;simp[numS]
 | succ k ih=>
  intro hk;have:=ih (by omega);have:=hg k (by omega);rw[qP (by omega),qX];omega
theorem zbG {l:List Int} (h:l.length≤65536):∀c∈classesS l,∀x∈c,WF x:=by
 intro c hc x hx;obtain ⟨k,_,rfl⟩:=List.mem_map.1 hc;unfold classS at hx;obtain ⟨i,hi,rfl⟩:=List.mem_map.1 hx;have:=(List.mem_filter.1 hi).1;simp at this;exact WF.small (by omega)
end Go.Proofs.YtiabbjolepnjkaaGreat
namespace Go.Proofs.YtiabbjolepnjkaaGreat
section
variable {K L:Type}
def keys (f:Nat→K) (n:Nat):List K:=(List.range n).map f
theorem Xs {f:Nat→K} {n:Nat} {x:K}:x∈keys f n↔∃i,i<n∧f i=x:=by simp[keys]
@[simp] theorem length_keys (f:Nat→K) (n:Nat):(keys f n).length=n:=by simp[keys]
variable [DecidableEq K] [DecidableEq L]
omit [DecidableEq L] in
end
theorem xn {K:Type} [DecidableEq K] {f:Nat→K} {n i j:Nat} (hi:i<n) (hj:j<n):nth (labs (keys f n)) i=nth (labs (keys f n)) j↔f i=f j:=by
 have e:∀k,k<n→nth (labs (keys f n)) k=(lab (keys f n) (f k):Int):=fun k hk=>by
  rw[yv (by simpa using hk)];simp[labs,keys]
 rw[e i hi,e j hj];constructor
 ·intro h;exact zgL (Xs.2 ⟨i,hi,rfl⟩) (Xs.2 ⟨j,hj,rfl⟩) (by omega)
 ·intro h;rw[h]
def Gen (a b:List Int) (i j:Nat):Prop:=
 ∀R:Nat→Nat→Prop,(∀i j,i<a.length→j<a.length→(nth a i=nth a j∨nth b i=nth b j)→R i j)→(∀i j,R i j→R j i)→(∀i j k,R i j→R j k→R i k)→R i j
noncomputable def least (a b:List Int) (i:Nat):Nat:=Classical.epsilon (Gen a b i)
noncomputable def joinS (a b:List Int):List Int:=labs (keys (least a b) a.length)
end Go.Proofs.YtiabbjolepnjkaaGreat
namespace Go.Proofs.YtiabbjolepnjkaaGreat
open Go.RowKit
theorem Qz:(Tryz.prog.info? 36).map (fun i=>(i.zero,i.size,i.bytes))=some (some (.slice none 0 0),1,24):=by kernel_rfl
def RetLL (B:Nat) (p:List (List Int)×Int) (w':World) (r:Value):Prop:=∃v,r=.tuple #[v,.int .i64 p.2]∧Lists (fun b=>B≤b) w' v p.1
theorem RetLL.nil (B:Nat) (w':World) {e e':Int} (h:e=e') {p:List (List Int)×Int} (hp:p=([],e')):RetLL B p w' (.tuple #[.slice none 0 0,e]):=by
 subst h hp;exact ⟨_,rfl,Lists.nil _ _⟩
theorem RetLL.mk {B:Nat} {w':World} {v:Value} {l:List (List Int)} {p:List (List Int)×Int} (h:Lists (fun b=>B≤b) w' v l) (hp:p=(l,0)):RetLL B p w' (.tuple #[v,.int .i64 0]):=by
 subst hp;exact ⟨_,rfl,h⟩
def classesR (l:List Int):List (List Int)×Int:=if checkS l=0 then (classesS l,0) else ([],checkS l)
theorem Xe {S:Nat→Prop} {w:World} {v:Value} {l:List Int} (h:Ints S w v l):
  Calls Tryz.prog 110 #[v] w (Post w (RetLL w.heap.size (classesR l))):=by
 have h0:=h;obtain ⟨a,cap,rfl,ha,_,_,hc,hf⟩:=h0;obtain ⟨i0,hi,hz0,hz1,hz2⟩:=info_parts info3;have hix:=zF Tryz.underlying36 hi hz1 ha;obtain ⟨i1,hj,hy0,hy1,hy2⟩:=info_parts Qz;go_enter Tryz.func110,Tryz.ntmps110;go_wp2_with fail;refine (Y3 h).mono ?_;rintro _ w1 ⟨_,rfl,hb1,rfl⟩;by_cases h1:checkS l=0
 ·have e1:(checkS l !=0)=false:=by simp[h1]
  have H1:=zhd h1;have HG:=zhd (Zi.1 h1);have hlen:=(Zi.1 h1).1;clear h1;go_wp2;go_loopw [5,15] (fun vo i wr=>∃(k:Nat) (vs:List Value),k≤l.length∧i=.int .i64 k∧Below w.heap.size w wr∧OwnRows 36 3 w.heap.size wr vo vs (classesS (l.take k)))
   (fun _ i _=>l.length - (intOf i).toNat)
  case atStart=>exact ⟨0,[],by omega,rfl,hb1,by simpa[classesS,numS] using OwnRows.nil _ _ _ _⟩
  case round=>
   obtain ⟨k,vs,hk,rfl,hb,ho⟩:=hrel;by_cases hlt:k<l.length
   ·have q:=hix k hlt;have p:=XL ha hb hc k hlt;have hgk:=HG.out.2 k hlt;have hnk:=zf8 l HG.out.2 k hk;have hn0:=qJ (l.take k);have HT:=zhd (qP hlt);have HK:=zhd (show (l.take k).length=k by simp;omega);have hB:=hb.size;obtain ⟨x,hx⟩:=Int.eq_ofNat_of_zero_le hgk.1;obtain ⟨ll,hll⟩:=zn (classesS (l.take k));have hln:ll.length=(numS (l.take k)).toNat:=by rw[hll,zL]
    rw[←hll]at ho;have hxn:x≤ll.length:=by omega
    have hlk:ll.length≤k:=by omega
    have HX:=zhd hx;have HLL:=zhd hll;have HLN:=zhd hln;rw[hx]at p;obtain ⟨av,capv,rfl,hav⟩:=ho.form;clear hgk hnk hn0 hx hll hln;have hrl:∀j,j<ll.length→(nthL ll j).length≤k:=by
     intro j hj;rw[HLL.out,yk (by rw[←HLN.out];exact hj)];unfold classS;rw[List.length_map];refine Nat.le_trans (List.length_filter_le _ _) ?_;rw[List.length_range,HK.out];exact Nat.le_refl _
    have HRL:=zhd hrl;clear hrl;by_cases hxe:x=ll.length
    ·have e2:((x:Int)==ll.length)=true:=by simp[hxe]
     have HE:=zhd hxe;have hx1:x<ll.length+1:=by omega
     have HR0:=zhd (show nthL (ll++[[]]) x=[] by rw[hxe];simp[nthL]);clear hxe;go_wp2_with (first
      | (at_builtin;refine zZ rfl (.tmp 24) (.tmp 25) 146 rfl 36 _ 24 Tryz.underlying146 Qz rfl w.heap.size _ _ _ rfl ho.row (.slice none 0 0) rfl rfl (by omega) (by omega) (by omega) ?_;intro g1 c1 w2 hown2 hbel2 hag2 hblk2;have ho2:=ho.push hown2 hag2 (fun k hk=>by cases hk;exact hblk2);have cx:=ho2.cell (x:=x) (by simp) (by simp;omega);have hB2:=hbel2.size)
      | (at_builtin;refine zZ rfl (.tmp 32) (.tmp 34) 36 rfl 3 _ 8 Tryz.underlying36 info3 rfl w.heap.size _ _ _ rfl (ho2.rows x (by simp;omega)) (.int .i64 (k:Int)) rfl rfl (by rw[HR0.out];simp) (by rw[HR0.out];simp) (by omega) ?_;intro g3 c3 w3 hown3 hbel3 hag3 hblk3;have kx:=ho2.keep (x:=x) (by simp) (by simp;omega) hag3;have k1:=kx.1;have k2:=kx.2))
     have hfin:=ho2.app (x:=x) (by simp) (by simp;omega) hown3 hag3 (fun k hk=>by cases hk;exact hblk3);rw[HR0.out]at hfin;go_roundw
     case rel=>
      refine ⟨k+1,?vs1,by omega,by go_num,((hb.trans hbel2).trans hbel3).setCell (p:=⟨g1,x,none⟩) (ho2.row.lt g1 rfl).1 _,?mn1⟩
      rotate_left
      rw[HT.out,XR (by rw[HX.out];have:=HLN.out;have:=HE.out;have:=qJ (l.take k);omega),HX.out,←HLL.out,HK.out];rw[HR0.out];exact hfin
     case measure=>simp[intOf];omega
    ·have e2:((x:Int)==ll.length)=false:=by simp;omega
     have hx1:x<ll.length:=by omega
     obtain ⟨g1,rfl⟩:=hav (by omega);have cx:=ho.cell rfl hx1;have hr1:=HRL.out x hx1;go_wp2_with (at_builtin;refine zZ rfl (.tmp 32) (.tmp 34) 36 rfl 3 _ 8 Tryz.underlying36 info3 rfl w.heap.size _ _ _ rfl (ho.rows x hx1) (.int .i64 (k:Int)) rfl rfl (by omega) (by omega) (by omega) ?_;intro g3 c3 w3 hown3 hbel3 hag3 hblk3;have kx:=ho.keep (x:=x) rfl hx1 hag3;have k1:=kx.1;have k2:=kx.2);have hfin:=ho.app (x:=x) rfl hx1 hown3 hag3 (fun k hk=>by cases hk;exact hblk3);go_roundw
     case rel=>
      refine ⟨k+1,?vs2,by omega,by go_num,(hb.trans hbel3).setCell (p:=⟨g1,x,none⟩) (ho.row.lt g1 rfl).1 _,?mn2⟩
      rotate_left
      rw[HT.out,zaK (by rw[HX.out];omega) (by rw[HX.out];have:=HLN.out;omega),HX.out,←HLL.out,HK.out];exact hfin
     case measure=>simp[intOf];omega
   ·have hk':k=l.length:=by omega
    subst hk';have hL:=ho.lists (zbG (by simpa using hlen));rw[List.take_length]at hL;have h2:=H1.out;go_wp2;go_ret2;exact .mk hb (.mk hL (by simp[classesR,h2]))
 ·have e1:(checkS l !=0)=true:=by simp[h1]
  go_wp2_with fail;go_ret2;exact .mk hb1 (.nil _ _ rfl (by simp[classesR,h1]))
def cntR (l:List Int):Int×Int:=if checkS l=0 then (numS l,0) else (0,checkS l)
theorem za4 {S:Nat→Prop} {w:World} {v:Value} {l:List Int} (h:Ints S w v l):
  Calls Tryz.prog 77 #[v] w (Post w fun _ r=>r=.tuple #[.int .i64 (cntR l).1,.int .i64 (cntR l).2]):=by
 go_enter Tryz.func77,Tryz.ntmps77;go_wp2_with fail;refine (Xe h).mono ?_;rintro _ w1 ⟨_,rfl,hb1,v,rfl,a,cap,rfl,_⟩;go_wp2;go_ret2;refine .mk hb1 ?_;have:=qJ l;have e1:((classesR l).1.length:Int)=(cntR l).1:=by
  unfold classesR cntR;split
  ·simp only[zL];omega
  ·rfl
 have e2:(classesR l).2=(cntR l).2:=by unfold classesR cntR;split<;>rfl
 rw[←e1,←e2];rfl
def meetS (a b:List Int):List Int:=labs (a.zip b)
def RetL (B:Nat) (p:List Int×Int) (w':World) (r:Value):Prop:=∃v,r=.tuple #[v,.int .i64 p.2]∧Ints (fun b=>B≤b) w' v p.1
theorem RetL.nil (B:Nat) (w':World) {e e':Int} (h:e=e') {p:List Int×Int} (hp:p=([],e')):RetL B p w' (.tuple #[.slice none 0 0,e]):=by
 subst h hp;exact ⟨_,rfl,Ints.nil _ _⟩
theorem RetL.mk {B:Nat} {w':World} {v:Value} {l:List Int} {p:List Int×Int} (h:Ints (fun b=>B≤b) w' v l) (hp:p=(l,0)):RetL B p w' (.tuple #[v,.int .i64 0]):=by
 subst hp;exact ⟨_,rfl,h⟩
end Go.Proofs.YtiabbjolepnjkaaGreat
namespace Go.Proofs.YtiabbjolepnjkaaGreat
def idList (n:Nat):List Int:=(List.range n).map fun i:Nat=>(i:Int)
@[simp] theorem length_idList (n:Nat):(idList n).length=n:=by simp[idList]
theorem zgM {n i:Nat} (h:i<n):nth (idList n) i=i:=by simp[nth,idList,h]
theorem zeM {K:Type} [DecidableEq K] (l:List K):numS (labs l)=(firsts l).length:=by
 have key:∀(n:Nat) (l:List K),l.length=n→numS (labs l)=(firsts l).length:=by
  intro n;induction n with
  | zero=>intro l hl;have:=List.eq_nil_of_length_eq_zero hl;subst this;rfl
  | succ n ih=>
   intro l hl;obtain ⟨m,x,rfl⟩:∃m x,l=m++[x]:=⟨l.dropLast,l.getLast (by intro h;subst h;simp at hl),(List.dropLast_concat_getLast _).symm⟩;have hm:=ih m (by simpa using hl);rw[Zv,qX,hm];by_cases h:x∈m
   ·rw[xC h,Qt h];have:=ze0 h;omega
   ·rw[XH h,QK h];simp;omega
 exact key _ l rfl
theorem Yo {K:Type} [DecidableEq K] (l:List K):∀k,(labs l).take k=labs (l.take k):=by
 have key:∀(n:Nat) (l:List K),l.length=n→∀k,(labs l).take k=labs (l.take k):=by
  intro n;induction n with
  | zero=>intro l hl k;have:=List.eq_nil_of_length_eq_zero hl;subst this;simp[labs]
  | succ n ih=>
   intro l hl k;obtain ⟨m,x,rfl⟩:∃m x,l=m++[x]:=⟨l.dropLast,l.getLast (by intro h;subst h;simp at hl),(List.dropLast_concat_getLast _).symm⟩;have hmn:m.length=n:=by simpa using hl
   by_cases hk:k≤n
   ·rw[Zv,List.take_append_of_le_length (by simp;omega),List.take_append_of_le_length (by omega)];exact ih m hmn k
   ·rw[List.take_of_length_le (by simp;omega),List.take_of_length_le (by simp;omega)]
 exact key _ l rfl
theorem zdG {K:Type} [DecidableEq K] {l:List K} (h:l.length≤65536):Good (labs l):=by
 refine ⟨by simpa using h,fun i hi=>?_⟩;simp at hi;have e1:(labs l).take (i+1)=(labs l).take i++[nth (labs l) i]:=qP (by simpa using hi);rw[Yo,Yo,List.take_succ_eq_append_getElem hi,Zv]at e1;have e2:=List.append_cancel_left e1;simp only[List.cons.injEq,and_true]at e2;rw[Yo,zeM,←e2];by_cases hm:l[i]∈l.take i
 ·rw[xC hm];have:=ze0 hm;omega
 ·rw[XH hm];omega
theorem zda {a b:List Int} (hl:b.length=a.length):meetS a b=labs (keys (fun i=>(nth a i,nth b i)) a.length):=by
 unfold meetS;congr 1
 apply List.ext_getElem
 ·simp;omega
 ·intro i h1 h2;simp at h1 h2;simp[keys,yv h2,yv (show i<b.length by omega)]
@[simp] theorem length_joinS (a b:List Int):(joinS a b).length=a.length:=by simp[joinS]
theorem zfY {a b:List Int} (hl:b.length=a.length):(meetS a b).length=a.length:=by rw[zda hl];simp
end Go.Proofs.YtiabbjolepnjkaaGreat
