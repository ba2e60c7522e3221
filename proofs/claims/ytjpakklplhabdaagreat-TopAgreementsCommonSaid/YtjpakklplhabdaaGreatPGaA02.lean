/- Part of the proof that the laws answer true for every input. -/
import Derived.Test.YtjpakklplhabdaaGreatPGaA00
import Derived.OrdersHeld
import Derived.Deep.RegionHeld
import Derived.Laws.OwnMore
set_option linter.unusedSimpArgs false
set_option linter.unnecessarySimpa false
set_option linter.unusedVariables false
set_option maxRecDepth 100000
set_option maxHeartbeats 40000000
namespace Go.Proofs.YtjpakklplhabdaaGreat
section
variable {P:Program} {ops:Array Oper} {Q:Exit→Act→World→Prop} {md:Region.Mode} {S:World→Prop} {X:Nat→Bool}
def AnyE (P:Program) (md:Region.Mode) (ops:Array Oper) (Q:Exit→Act→World→Prop) (S:World→Prop) (X:Nat→Bool):Nat→Array Bool→Act→World→Prop
 | 0,listed,a,w=>Region.ready md ops listed=[]∧Q .normal a w
 | fuel+1,listed,a,w=>
  (Region.ready md ops listed=[]→Q .normal a w)∧
  ∀i∈Region.ready md ops listed,wpOp P ops Q i (fun a' w'=>(X i=false→S w')∧AnyE P md ops Q S X fuel (listed.setIfInBounds i true) a' w') a w
theorem qP:∀(fuel:Nat) (listed:Array Bool) (a:Act) (w:World),AnyE P md ops Q S X fuel listed a w→wpAny P md ops Q fuel listed a w
 | 0,_,_,_,h=>h
 | fuel+1,_,_,_,h=>⟨h.1,fun i hi=>wpOp_mono (fun a' w' h'=>qP fuel _ a' w' h'.2) (h.2 i hi)⟩
def waitFor (md:Region.Mode) (ops:Array Oper) (X:Nat→Bool) (i:Nat):Bool:=
 (List.range ops.size).all fun j=> !X j||(match ops[j]? with | some o=>o.after.any (fun e=>Region.binds md e&&e.on==i) | none=>true)
theorem Xn {i j:Nat} {oj:Oper} (h:waitFor md ops X i=true) (hj:ops[j]? =some oj) (hn:∀e∈oj.after,Region.binds md e=true→e.on≠i):X j=false:=by
 have hlt:j<ops.size:=(Array.getElem?_eq_some_iff.1 hj).1
 have:=List.all_eq_true.1 h j (List.mem_range.2 hlt)
 rw[hj]at this
 cases hx:X j with
 | false=>rfl
 | true=>
  rw[hx]at this
  simp only[Bool.not_true,Bool.false_or]at this
  rw[Array.any_eq_true]at this
  obtain ⟨k,hk,he⟩:=this
  simp only[Bool.and_eq_true,beq_iff_eq]at he
  exact absurd he.2 (hn _ (Array.getElem_mem hk) he.1)
theorem zbB {i:Nat} {oi:Oper} {v:Value} (hi:ops[i]? =some oi) (hsel:∀(j:Nat) (o:Oper) cs b,ops[j]? =some o→o.op≠.select cs b)
  (hX:waitFor md ops X i=true) (hQ:∀c a w,Q (.panic c) (a.put oi.dst v) w→Q (.panic c) a w):
  ∀(fuel:Nat) (listed:Array Bool) (a:Act) (w:World),
   (∀j oj,ops[j]? =some oj→j≠i→listed.getD j true=false→(∀e∈oj.after,Region.binds md e=true→e.on≠i)→oi.apart ops oj=true)→
   i∈Region.ready md ops listed→YieldsIf P ops S oi v a→S w→
   AnyE P md ops Q S X fuel (listed.setIfInBounds i true) (a.put oi.dst v) w→AnyE P md ops Q S X (fuel+1) listed a w:=by
 intro fuel
 induction fuel with
 | zero=>
  intro listed a w _ hr hy hS H
  refine ⟨fun h=>(by rw[h]at hr;cases hr),fun j hj=>?_⟩
  by_cases hji:j=i
  ·subst hji;exact hy.wpOp hi hS ⟨fun _=>hS,H⟩
  ·have:=ready_mono hj hji
   rw[H.1]at this
   cases this
 | succ fuel ih=>
  intro listed a w hfree hr hy hS H
  refine ⟨fun h=>(by rw[h]at hr;cases hr),fun j hj=>?_⟩
  by_cases hji:j=i
  ·subst hji;exact hy.wpOp hi hS ⟨fun _=>hS,H⟩
  ·have h1:=H.2 j (ready_mono hj hji)
   obtain ⟨hjun,oj,hoj,hall⟩:=mem_ready.1 hj
   have hnot:∀e∈oj.after,Region.binds md e=true→e.on≠i:=fun e he hb heq=>by
    have k1:=hall e he hb
    have k0:=(mem_ready.1 hr).1
    rw[heq]at k1
    rcases Nat.lt_or_ge i listed.size with h' | h'
    ·simp[h']at k0 k1;rw[k0]at k1;cases k1
    ·simp[Array.getElem?_eq_none h']at k1
   have hxj:X j=false:=Xn hX hoj hnot
   have h2:=wpOp_putIf hoj (hfree j oj hoj hji hjun hnot) (fun cs b=>hsel i oi cs b hi) (fun cs b=>hsel j oj cs b hoj) hQ hy h1
   refine wpOp_mono (fun a' w' h3=>⟨fun _=>h3.2.1 hxj,ih (listed.setIfInBounds j true) a' w' (fun k ok hk hki hun hno=>?_) (ready_mono hr (Ne.symm hji)) h3.1 (h3.2.1 hxj) ?_⟩) h2
   ·refine hfree k ok hk hki ?_ hno
    by_cases hjk:j=k
    ·subst hjk;exact hjun
    ·rw[getD_set_ne true hjk]at hun;exact hun
   ·rw[Array.setIfInBounds_comm _ _ hji]
    exact h3.2.2
theorem Yc {i:Nat} {oi:Oper} {v:Value} {fuel:Nat} {listed:Array Bool} {a:Act} {w:World} (hi:ops[i]? =some oi) (hs:Region.noSelect ops=true)
  (hf:(Region.free md ops listed i&&((Region.ready md ops listed).contains i&&waitFor md ops X i))=true)
  (hQ:∀c a w,Q (.panic c) (a.put oi.dst v) w→Q (.panic c) a w) (hy:YieldsIf P ops S oi v a) (hS:S w)
  (h:AnyE P md ops Q S X fuel (listed.setIfInBounds i true) (a.put oi.dst v) w):AnyE P md ops Q S X (fuel+1) listed a w:=by
 simp only[Bool.and_eq_true]at hf
 exact zbB hi (Region.noSelect_spec hs) hf.2.2 hQ fuel listed a w (Region.free_spec hi hf.1) (by simpa using hf.2.1) hy hS h
theorem zbX {i:Nat} {o:Oper} {fuel:Nat} {listed:Array Bool} {a:Act} {w:World} (ho:ops[i]? =some o) (hr:Region.ready md ops listed=[i])
  (h:∀K':Act→World→Prop,Shut (∀a w,(X i=false→S w)→((X i=false→S w)→AnyE P md ops Q S X fuel (listed.setIfInBounds i true) a w)→K' a w)→if Region.wanted o (yielded ops a.tmps)=true then Oper.wp P o a w K' Q else K' (a.put o.dst undef) w):
  AnyE P md ops Q S X (fuel+1) listed a w:=by
 refine ⟨fun h0=>(by rw[hr]at h0;cases h0),fun j hj=>?_⟩
 rw[hr]at hj
 obtain rfl:j=i:=by simpa using hj
 exact wpOp_step ho fun K' hK=>h K' fun a w h1 h2=>hK a w ⟨h1,h2 h1⟩
theorem anyE_take {l:List Oper} (i:Nat) {oi:Oper} {v:Value} {fuel:Nat} {listed:Array Bool} {a:Act} {w:World} (hi:l[i]? =some oi)
  (hf:(Region.noSelect l.toArray&&(Region.free md l.toArray listed i&&((Region.ready md l.toArray listed).contains i&&waitFor md l.toArray X i)))=true)
  (hQ:∀c a w,Q (.panic c) (a.put oi.dst v) w→Q (.panic c) a w) (hw:Region.wanted oi (yielded l.toArray a.tmps)=true) (hy:∀w,S w→(execOp a.eval oi).run P w=.ok (.value v) w) (hS:S w)
  (h:AnyE P md l.toArray Q S X fuel (listed.setIfInBounds i true) (a.put oi.dst v) w):AnyE P md l.toArray Q S X (fuel+1) listed a w:=by
 simp only[Bool.and_eq_true]at hf
 exact Yc (by simpa using hi) hf.1 (by simp only[Bool.and_eq_true];exact hf.2) hQ (.inl ⟨hw,hy⟩) hS h
theorem anyE_one {l:List Oper} (i:Nat) {o:Oper} {fuel:Nat} {listed:Array Bool} {a:Act} {w:World} (ho:l[i]? =some o) (hr:Region.ready md l.toArray listed=[i])
  (h:∀K':Act→World→Prop,Shut (∀a w,(X i=false→S w)→((X i=false→S w)→AnyE P md l.toArray Q S X fuel (listed.setIfInBounds i true) a w)→K' a w)→if Region.wanted o (yielded l.toArray a.tmps)=true then Oper.wp P o a w K' Q else K' (a.put o.dst undef) w):
  AnyE P md l.toArray Q S X (fuel+1) listed a w:=zbX (by simpa using ho) hr h
theorem zdQ {l:List Oper} (i j:Nat) {oi oj:Oper} {fuel:Nat} {listed:Array Bool} {a:Act} {w:World} (hi:l[i]? =some oi) (hj:l[j]? =some oj) (hr:Region.ready md l.toArray listed=[i,j])
  (h1:∀K':Act→World→Prop,Shut (∀a w,(X i=false→S w)→((X i=false→S w)→AnyE P md l.toArray Q S X fuel (listed.setIfInBounds i true) a w)→K' a w)→if Region.wanted oi (yielded l.toArray a.tmps)=true then Oper.wp P oi a w K' Q else K' (a.put oi.dst undef) w)
  (h2:∀K':Act→World→Prop,Shut (∀a w,(X j=false→S w)→((X j=false→S w)→AnyE P md l.toArray Q S X fuel (listed.setIfInBounds j true) a w)→K' a w)→if Region.wanted oj (yielded l.toArray a.tmps)=true then Oper.wp P oj a w K' Q else K' (a.put oj.dst undef) w):
  AnyE P md l.toArray Q S X (fuel+1) listed a w:=by
 refine ⟨fun h0=>(by rw[hr]at h0;cases h0),fun k hk=>?_⟩
 rw[hr]at hk
 have:k=i∨k=j:=by simpa using hk
 rcases this with rfl | rfl
 ·exact wpOp_step (by simpa using hi) fun K' hK=>h1 K' fun a w q1 q2=>hK a w ⟨q1,q2 q1⟩
 ·exact wpOp_step (by simpa using hj) fun K' hK=>h2 K' fun a w q1 q2=>hK a w ⟨q1,q2 q1⟩
theorem zy {listed:Array Bool} {a:Act} {w:World} (hr:Region.ready md ops listed=[]) (h:Q .normal a w):
  ∀fuel,AnyE P md ops Q S X fuel listed a w
 | 0=>⟨hr,h⟩
 | _+1=>⟨fun _=>h,by rw[hr];simp⟩
theorem zH (S:World→Prop) (X:Nat→Bool) {id:Nat} {a:Act} {w:World} (hm:P.follows .mixedOrders=true) (hS:S w.drew)
  (h:S w.drew→AnyE P .any ops Q S X ops.size (Array.replicate ops.size false) a w.drew):(Code.region id ops true).wp P Q a w:=
 wp_region_any hm (qP _ _ _ _ (h hS))
end
end Go.Proofs.YtjpakklplhabdaaGreat
