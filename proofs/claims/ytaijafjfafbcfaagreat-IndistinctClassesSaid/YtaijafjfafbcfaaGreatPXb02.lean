/- Part of the proof that the laws answer true for every input. -/
import Derived.Test.YtaijafjfafbcfaaGreatPXb00
import Derived.Test.YtaijafjfafbcfaaGreatPXb01
import Derived.OrdersHeld
import Derived.Deep.RegionHeld
import Derived.Laws.OwnMore
import Derived.Deep.DrawnRows
import Derived.RangeFuncNested
import Derived.RangeFuncBound
import Derived.RangeFuncCalls
import Derived.RangeFuncLeaves
import Derived.Shelf.Abstract
import Derived.Shelf.RegionOpen
import Derived.OwnWalkIn
import Derived.TacticsInMore
import Derived.LoopNIn
import Derived.LoopIn
set_option linter.unusedSimpArgs false
set_option linter.unnecessarySimpa false
set_option linter.unusedVariables false
set_option maxRecDepth 100000
set_option maxHeartbeats 40000000
namespace Go.Proofs.YtaijafjfafbcfaaGreat
open Go.RowKit
theorem info_int:(Tryz.prog.info? 3).map (fun i=>(i.zero,i.size,i.bytes))=some (some (.int .i64 0),1,8):=by kernel_rfl
theorem take_eq_step {l1 l2:List Int} {k:Nat} (hk1:k<l1.length) (hk2:k<l2.length) (h:l1.take k=l2.take k) (e:nth l1 k=nth l2 k):l1.take (k+1)=l2.take (k+1):=by
 rw[take_nth hk1,take_nth hk2,h,e]
theorem equal_quiet {S S':Nat→Prop} {w:World} {v1 v2:Value} {l1 l2:List Int} (h1:Ints S w v1 l1) (h2:Ints S' w v2 l2):
  Calls Tryz.prog 29 #[v1,v2] w (QuietP w (.bool (decide (l1=l2)))):=by
 obtain ⟨a1,cap1,rfl,ha1,_,hm1,hc1,_⟩:=h1
 obtain ⟨a2,cap2,rfl,ha2,_,_,hc2,_⟩:=h2
 unfold maxLen at hm1
 obtain ⟨i0,hi,hz0,hz1,hz2⟩:=info_parts info_int
 have hix1:=idx_one Tryz.underlying44 hi hz1 ha1
 have hix2:=idx_one Tryz.underlying44 hi hz1 ha2
 clear hi hz0 hz1 hz2
 by_cases hlen:l1.length=l2.length
 ·have hne:((l1.length:Int) !=l2.length)=false:=by simp[hlen]
  have HL:=Lib.hid hlen
  clear hlen
  go_enter Tryz.func29,Tryz.ntmps29
  go_wp2
  go_loopw [13] (fun i wr=>∃k:Nat,k≤l1.length∧i=.int .i64 k∧(∃m,wr=w.drewN m)∧l1.take k=l2.take k) (fun i _=>l1.length - (intOf i).toNat)
  case atStart=>exact ⟨0,by omega,rfl,⟨0,rfl⟩,rfl⟩
  case round=>
   obtain ⟨k,hk,rfl,⟨m,rfl⟩,hrel⟩:=hrel
   have H:=Lib.hid hrel
   clear hrel
   by_cases hlt:k<l1.length
   ·have hlt2:k<l2.length:=by have:=HL.out;omega
    have q1:=hix1 k hlt
    have q2:=hix2 k hlt2
    have p1:=hc1 k hlt
    have p2:=hc2 k hlt2
    clear hix1 hix2 hc1 hc2
    by_cases he:nth l1 k=nth l2 k
    ·have he':(nth l1 k !=nth l2 k)=false:=by simp[he]
     have HE:=Lib.hid he
     clear he
     go_wp2
     go_quiet (fail)
     go_wp2
     go_roundw
     case rel=>exact ⟨k+1,by omega,by go_num,⟨_,rfl⟩,take_eq_step hlt hlt2 H.out HE.out⟩
     case measure=>simp[intOf];omega
    ·have he':(nth l1 k !=nth l2 k)=true:=by simp[he]
     go_wp2
     go_quiet (fail)
     go_wp2
     go_ret
     rw[World.drewN_drewN]
     exact .of (bool_eq (decide_eq_false (fun (e:l1=l2)=>he (by rw[e]))).symm) _
   ·go_wp2
    go_ret
    refine .of (bool_eq ?_) _
    have:=H.out
    have h2:=HL.out
    rw[List.take_of_length_le (by omega),List.take_of_length_le (by omega)]at this
    exact (decide_eq_true this).symm
 ·have hne:((l1.length:Int) !=l2.length)=true:=by simp;omega
  go_enter Tryz.func29,Tryz.ntmps29
  go_wp2
  go_ret
  exact .of (bool_eq (decide_eq_false (fun (e:l1=l2)=>hlen (by rw[e]))).symm) 0
theorem equal_calls {S S':Nat→Prop} {w:World} {v1 v2:Value} {l1 l2:List Int} (h1:Ints S w v1 l1) (h2:Ints S' w v2 l2):
  Calls Tryz.prog 29 #[v1,v2] w (Post w fun _ r=>r=.bool (decide (l1=l2))):=(equal_quiet h1 h2).mono fun _ _ h=>h.post
end Go.Proofs.YtaijafjfafbcfaaGreat
namespace Go.Proofs.YtaijafjfafbcfaaGreat
section
variable {P:Program} {ops:Array Oper} {Q:Exit→Act→World→Prop} {md:Region.Mode} {S:World→Prop} {X:Nat→Bool}
def AnyE (P:Program) (md:Region.Mode) (ops:Array Oper) (Q:Exit→Act→World→Prop) (S:World→Prop) (X:Nat→Bool):Nat→Array Bool→Act→World→Prop
 | 0,listed,a,w=>Region.ready md ops listed=[]∧Q .normal a w
 | fuel+1,listed,a,w=>
  (Region.ready md ops listed=[]→Q .normal a w)∧
  ∀i∈Region.ready md ops listed,wpOp P ops Q i (fun a' w'=>(X i=false→S w')∧AnyE P md ops Q S X fuel (listed.setIfInBounds i true) a' w') a w
theorem any_of_anyE:∀(fuel:Nat) (listed:Array Bool) (a:Act) (w:World),AnyE P md ops Q S X fuel listed a w→wpAny P md ops Q fuel listed a w
 | 0,_,_,_,h=>h
 | fuel+1,_,_,_,h=>⟨h.1,fun i hi=>wpOp_mono (fun a' w' h'=>any_of_anyE fuel _ a' w' h'.2) (h.2 i hi)⟩
def waitFor (md:Region.Mode) (ops:Array Oper) (X:Nat→Bool) (i:Nat):Bool:=
 (List.range ops.size).all fun j=> !X j||(match ops[j]? with | some o=>o.after.any (fun e=>Region.binds md e&&e.on==i) | none=>true)
theorem waitFor_spec {i j:Nat} {oj:Oper} (h:waitFor md ops X i=true) (hj:ops[j]? =some oj) (hn:∀e∈oj.after,Region.binds md e=true→e.on≠i):X j=false:=by
 have hlt:j<ops.size:=(Array.getElem?_eq_some_iff.1 hj).1
 have:=List.all_eq_true.1 h j (List.mem_range.2 hlt)
 rw[hj]at this
 cases hx:X j with
 | false=>rfl
 | true=>
  rw[hx]at this
  simp only[Bool.not_true,Bool.false_or]at this
  rw[Array.any_eq_true]at this
  obtain ⟨k,hk,he⟩:=this
  simp only[Bool.and_eq_true,beq_iff_eq]at he
  exact absurd he.2 (hn _ (Array.getElem_mem hk) he.1)
theorem anyE_first {i:Nat} {oi:Oper} {v:Value} (hi:ops[i]? =some oi) (hsel:∀(j:Nat) (o:Oper) cs b,ops[j]? =some o→o.op≠.select cs b)
  (hX:waitFor md ops X i=true) (hQ:∀c a w,Q (.panic c) (a.put oi.dst v) w→Q (.panic c) a w):
  ∀(fuel:Nat) (listed:Array Bool) (a:Act) (w:World),
   (∀j oj,ops[j]? =some oj→j≠i→listed.getD j true=false→(∀e∈oj.after,Region.binds md e=true→e.on≠i)→oi.apart ops oj=true)→
   i∈Region.ready md ops listed→YieldsIf P ops S oi v a→S w→
   AnyE P md ops Q S X fuel (listed.setIfInBounds i true) (a.put oi.dst v) w→AnyE P md ops Q S X (fuel+1) listed a w:=by
 intro fuel
 induction fuel with
 | zero=>
  intro listed a w _ hr hy hS H
  refine ⟨fun h=>(by rw[h]at hr;cases hr),fun j hj=>?_⟩
  by_cases hji:j=i
  ·subst hji;exact hy.wpOp hi hS ⟨fun _=>hS,H⟩
  ·have:=ready_mono hj hji
   rw[H.1]at this
   cases this
 | succ fuel ih=>
  intro listed a w hfree hr hy hS H
  refine ⟨fun h=>(by rw[h]at hr;cases hr),fun j hj=>?_⟩
  by_cases hji:j=i
  ·subst hji;exact hy.wpOp hi hS ⟨fun _=>hS,H⟩
  ·have h1:=H.2 j (ready_mono hj hji)
   obtain ⟨hjun,oj,hoj,hall⟩:=mem_ready.1 hj
   have hnot:∀e∈oj.after,Region.binds md e=true→e.on≠i:=fun e he hb heq=>by
    have k1:=hall e he hb
    have k0:=(mem_ready.1 hr).1
    rw[heq]at k1
    rcases Nat.lt_or_ge i listed.size with h' | h'
    ·simp[h']at k0 k1;rw[k0]at k1;cases k1
    ·simp[Array.getElem?_eq_none h']at k1
   have hxj:X j=false:=waitFor_spec hX hoj hnot
   have h2:=wpOp_putIf hoj (hfree j oj hoj hji hjun hnot) (fun cs b=>hsel i oi cs b hi) (fun cs b=>hsel j oj cs b hoj) hQ hy h1
   refine wpOp_mono (fun a' w' h3=>⟨fun _=>h3.2.1 hxj,ih (listed.setIfInBounds j true) a' w' (fun k ok hk hki hun hno=>?_) (ready_mono hr (Ne.symm hji)) h3.1 (h3.2.1 hxj) ?_⟩) h2
   ·refine hfree k ok hk hki ?_ hno
    by_cases hjk:j=k
    ·subst hjk;exact hjun
    ·rw[getD_set_ne true hjk]at hun;exact hun
   ·rw[Array.setIfInBounds_comm _ _ hji]
    exact h3.2.2
theorem anyE_take0 {i:Nat} {oi:Oper} {v:Value} {fuel:Nat} {listed:Array Bool} {a:Act} {w:World} (hi:ops[i]? =some oi) (hs:Region.noSelect ops=true)
  (hf:(Region.free md ops listed i&&((Region.ready md ops listed).contains i&&waitFor md ops X i))=true)
  (hQ:∀c a w,Q (.panic c) (a.put oi.dst v) w→Q (.panic c) a w) (hy:YieldsIf P ops S oi v a) (hS:S w)
  (h:AnyE P md ops Q S X fuel (listed.setIfInBounds i true) (a.put oi.dst v) w):AnyE P md ops Q S X (fuel+1) listed a w:=by
 simp only[Bool.and_eq_true]at hf
 exact anyE_first hi (Region.noSelect_spec hs) hf.2.2 hQ fuel listed a w (Region.free_spec hi hf.1) (by simpa using hf.2.1) hy hS h
theorem anyE_one0 {i:Nat} {o:Oper} {fuel:Nat} {listed:Array Bool} {a:Act} {w:World} (ho:ops[i]? =some o) (hr:Region.ready md ops listed=[i])
  (h:∀K':Act→World→Prop,Shut (∀a w,(X i=false→S w)→((X i=false→S w)→AnyE P md ops Q S X fuel (listed.setIfInBounds i true) a w)→K' a w)→if Region.wanted o (yielded ops a.tmps)=true then Oper.wp P o a w K' Q else K' (a.put o.dst undef) w):
  AnyE P md ops Q S X (fuel+1) listed a w:=by
 refine ⟨fun h0=>(by rw[hr]at h0;cases h0),fun j hj=>?_⟩
 rw[hr]at hj
 obtain rfl:j=i:=by simpa using hj
 exact wpOp_step ho fun K' hK=>h K' fun a w h1 h2=>hK a w ⟨h1,h2 h1⟩
theorem anyE_take {l:List Oper} (i:Nat) {oi:Oper} {v:Value} {fuel:Nat} {listed:Array Bool} {a:Act} {w:World} (hi:l[i]? =some oi)
  (hf:(Region.noSelect l.toArray&&(Region.free md l.toArray listed i&&((Region.ready md l.toArray listed).contains i&&waitFor md l.toArray X i)))=true)
  (hQ:∀c a w,Q (.panic c) (a.put oi.dst v) w→Q (.panic c) a w) (hw:Region.wanted oi (yielded l.toArray a.tmps)=true) (hy:∀w,S w→(execOp a.eval oi).run P w=.ok (.value v) w) (hS:S w)
  (h:AnyE P md l.toArray Q S X fuel (listed.setIfInBounds i true) (a.put oi.dst v) w):AnyE P md l.toArray Q S X (fuel+1) listed a w:=by
 simp only[Bool.and_eq_true]at hf
 exact anyE_take0 (by simpa using hi) hf.1 (by simp only[Bool.and_eq_true];exact hf.2) hQ (.inl ⟨hw,hy⟩) hS h
theorem anyE_one {l:List Oper} (i:Nat) {o:Oper} {fuel:Nat} {listed:Array Bool} {a:Act} {w:World} (ho:l[i]? =some o) (hr:Region.ready md l.toArray listed=[i])
  (h:∀K':Act→World→Prop,Shut (∀a w,(X i=false→S w)→((X i=false→S w)→AnyE P md l.toArray Q S X fuel (listed.setIfInBounds i true) a w)→K' a w)→if Region.wanted o (yielded l.toArray a.tmps)=true then Oper.wp P o a w K' Q else K' (a.put o.dst undef) w):
  AnyE P md l.toArray Q S X (fuel+1) listed a w:=anyE_one0 (by simpa using ho) hr h
theorem anyE_two {l:List Oper} (i j:Nat) {oi oj:Oper} {fuel:Nat} {listed:Array Bool} {a:Act} {w:World} (hi:l[i]? =some oi) (hj:l[j]? =some oj) (hr:Region.ready md l.toArray listed=[i,j])
  (h1:∀K':Act→World→Prop,Shut (∀a w,(X i=false→S w)→((X i=false→S w)→AnyE P md l.toArray Q S X fuel (listed.setIfInBounds i true) a w)→K' a w)→if Region.wanted oi (yielded l.toArray a.tmps)=true then Oper.wp P oi a w K' Q else K' (a.put oi.dst undef) w)
  (h2:∀K':Act→World→Prop,Shut (∀a w,(X j=false→S w)→((X j=false→S w)→AnyE P md l.toArray Q S X fuel (listed.setIfInBounds j true) a w)→K' a w)→if Region.wanted oj (yielded l.toArray a.tmps)=true then Oper.wp P oj a w K' Q else K' (a.put oj.dst undef) w):
  AnyE P md l.toArray Q S X (fuel+1) listed a w:=by
 refine ⟨fun h0=>(by rw[hr]at h0;cases h0),fun k hk=>?_⟩
 rw[hr]at hk
 have:k=i∨k=j:=by simpa using hk
 rcases this with rfl | rfl
 ·exact wpOp_step (by simpa using hi) fun K' hK=>h1 K' fun a w q1 q2=>hK a w ⟨q1,q2 q1⟩
 ·exact wpOp_step (by simpa using hj) fun K' hK=>h2 K' fun a w q1 q2=>hK a w ⟨q1,q2 q1⟩
theorem anyE_done {listed:Array Bool} {a:Act} {w:World} (hr:Region.ready md ops listed=[]) (h:Q .normal a w):
  ∀fuel,AnyE P md ops Q S X fuel listed a w
 | 0=>⟨hr,h⟩
 | _+1=>⟨fun _=>h,by rw[hr];simp⟩
theorem region_E (S:World→Prop) (X:Nat→Bool) {id:Nat} {a:Act} {w:World} (hm:P.follows .mixedOrders=true) (hS:S w.drew)
  (h:S w.drew→AnyE P .any ops Q S X ops.size (Array.replicate ops.size false) a w.drew):(Code.region id ops true).wp P Q a w:=
 wp_region_any hm (any_of_anyE _ _ _ _ (h hS))
end
end Go.Proofs.YtaijafjfafbcfaaGreat
namespace Go.Proofs.YtaijafjfafbcfaaGreat
open Go.RowKit
attribute [local go_sem ↓] Go.wp_at_zero Go.wp_at_succ
structure Mx where
 cols:Int
 rows:List (List Int)
theorem ext_alloc (w:World) (o:Obj):Below w.heap.size w (w.alloc o):=(Below.refl _ _).alloc (Nat.le_refl _) _
theorem ext_alloc' {a w:World} (h:Below a.heap.size a w) (o:Obj):Below a.heap.size a (w.alloc o):=h.alloc h.size _
theorem row_new (w:World) (xs:List Value) (e:TypeId):Row (w.alloc (.cells xs.toArray e)) w.heap.size e xs:=by
 unfold Row
 rw[heap_alloc_new]
theorem Row.two {w:World} {g:Nat} {e:TypeId} {x y:Value} (h:Row w g e [x,y]):w.cell? ⟨g,0,none⟩=some x∧w.cell? ⟨g,1,none⟩=some y:=⟨h.cell rfl,h.cell rfl⟩
theorem info_ints:(Tryz.prog.info? 44).map (fun i=>(i.zero,i.size,i.bytes))=some (some (.slice none 0 0),1,24):=by kernel_rfl
theorem Lists.at {S:Nat→Prop} {w wr:World} {a:Option Addr} {cap:Nat} {ll:List (List Int)} (h:Lists S w (.slice a ll.length cap) ll) (hb:Below w.heap.size w wr) {k:Nat} (hk:k<ll.length):
  ∃u,wr.cell? (adr a k)=some u∧Ints S wr u (nthL ll k):=by
 obtain ⟨a',cap',e,ha,_,_,hc⟩:=h
 simp only[Value.slice.injEq,true_and]at e
 obtain ⟨rfl,rfl⟩:=e
 obtain ⟨u,hu,hi⟩:=hc k hk
 exact ⟨u,(ha.cell (.of_ext hb) hk).trans hu,hi.ext hb⟩
theorem Lists.form {S:Nat→Prop} {w:World} {v:Value} {ll:List (List Int)} (h:Lists S w v ll):∃a cap,v=.slice a ll.length cap∧Ad S w a ll.length cap∧ll.length≤cap∧cap≤maxLen:=by
 obtain ⟨a,cap,rfl,ha,h1,h2,_⟩:=h
 exact ⟨a,cap,rfl,ha,h1,h2⟩
theorem Ints.form {S:Nat→Prop} {w:World} {v:Value} {l:List Int} (h:Ints S w v l):∃a cap,v=.slice a l.length cap∧Ad S w a l.length cap∧l.length≤cap∧cap≤maxLen:=by
 obtain ⟨a,cap,rfl,ha,h1,h2,_⟩:=h
 exact ⟨a,cap,rfl,ha,h1,h2⟩
def MatV (S:Nat→Prop) (w:World) (v:Value) (m:Mx):Prop:=∃rv,v=.agg #[.int .i64 m.cols,rv]∧Lists S w rv m.rows
theorem MatV.agree {S:Nat→Prop} {w w':World} {v:Value} {m:Mx} (h:MatV S w v m) (hw:Agree S w w'):MatV S w' v m:=by
 obtain ⟨rv,rfl,h⟩:=h;exact ⟨rv,rfl,h.agree hw⟩
theorem MatV.mono {S S':Nat→Prop} {w:World} {v:Value} {m:Mx} (h:MatV S w v m) (hS:∀b,S b→S' b):MatV S' w v m:=by
 obtain ⟨rv,rfl,h⟩:=h;exact ⟨rv,rfl,h.mono hS⟩
theorem MatV.ext {S:Nat→Prop} {w w':World} {v:Value} {m:Mx} (h:MatV S w v m) (hw:Below w.heap.size w w'):MatV S w' v m:=h.agree (.of_ext hw)
theorem Post.imp {w w':World} {R R':World→Value→Prop} {e:Ending} (h:Post w R e w') (hi:∀w' r,R w' r→R' w' r):Post w R' e w':=by
 obtain ⟨r,rfl,hb,hr⟩:=h;exact ⟨r,rfl,hb,hi _ _ hr⟩
abbrev TT:Nat→Prop:=fun _=>True
theorem OwnList.agree {e:TypeId} {B:Nat} {w w':World} {v:Value} {vs:List Value} {ll:List (List Int)} (h:OwnList e B w v vs ll) (hw:Agree (fun b=>B≤b) w w'):OwnList e B w' v vs ll:=
 ⟨owns_agree h.row hw fun k hk=>(h.row.lt k hk).1,fun j hj=>(h.rows j hj).agree (hw.mono fun b hb=>hb.1)⟩
theorem Row.get {w:World} {g:Nat} {e:TypeId} {xs ys:List Value} (h:Row w g e xs) (he:xs=ys):Row w g e ys:=he▸h
def RetM (base:Nat) (x:Mx×Int) (w':World) (r:Value):Prop:=∃mv,r=.tuple #[mv,.int .i64 x.2]∧MatV (fun b=>base≤b) w' mv x.1
theorem RetM.mk {base:Nat} {x:Mx×Int} {w':World} {rv:Value} {c e:Int} {ll:List (List Int)} (hx:x=(⟨c,ll⟩,e)) (h:Lists (fun b=>base≤b) w' rv ll):RetM base x w' (.tuple #[.agg #[.int .i64 c,rv],.int .i64 e]):=by
 subst hx;exact ⟨_,rfl,rv,rfl,h⟩
theorem RetM.none {base:Nat} {x:Mx×Int} {w':World} {e:Int} (hx:x=(⟨0,[]⟩,e)):RetM base x w' (.tuple #[.agg #[.int .i64 0,.slice none 0 0],.int .i64 e]):=.mk hx (.nil _ _)
theorem cell_agree {S:Nat→Prop} {w w':World} {p:Addr} {u:Value} (h:w.cell? p=some u) (hw:Agree S w w') (hS:S p.block):w'.cell? p=some u:=
 (World.cell?_of_block (hw.block p.block hS (World.block_lt_of_cell? w p h))).trans h
theorem Agree.alloc {S:Nat→Prop} {w w':World} (h:Agree S w w') (o:Obj):Agree S w (w'.alloc o):=h.trans ⟨by simp,fun k _ hk=>heap_alloc_old w' o hk⟩
theorem Agree.drew {S:Nat→Prop} {w w':World} (h:Agree S w w'):Agree S w w'.drew:=h.trans ⟨Nat.le_refl _,fun _ _ _=>rfl⟩
theorem ints_head {S:Nat→Prop} {w:World} {a:Option Addr} {n cap:Nat} {x:Int} {l:List Int} (h:Ints S w (.slice a n cap) (x::l)) {wr:World} (hb:Below w.heap.size w wr):wr.cell? (adr a 0)=some (.int .i64 x):=by
 obtain ⟨a0,cap0,e,had,hl,hm,hc,hf⟩:=h
 simp only[List.length_cons,Value.slice.injEq]at e
 obtain ⟨rfl,rfl,rfl⟩:=e
 exact (had.cell (.of_ext hb) (by simp)).trans (hc 0 (by simp))
theorem ints_ad {S:Nat→Prop} {w:World} {a:Option Addr} {n cap:Nat} {l:List Int} (h:Ints S w (.slice a n cap) l):Ad S w a l.length cap:=by
 obtain ⟨a0,cap0,e,had,hl,hm,hc,hf⟩:=h
 simp only[Value.slice.injEq]at e
 obtain ⟨rfl,rfl,rfl⟩:=e
 exact had
theorem cell_ext {w w':World} {p:Addr} {u:Value} (h:w.cell? p=some u) (hb:Below w.heap.size w w'):w'.cell? p=some u:=(hb.cell (World.block_lt_of_cell? w _ h)).trans h
theorem ints_cells {S:Nat→Prop} {w W:World} {a:Option Addr} {n cap:Nat} {l:List Int} (h:Ints S w (.slice a n cap) l) (hb:Below w.heap.size w W):∀j,j<l.length→W.cell? (adr a j)=some ((l.map (Value.int .i64)).getD j undef):=by
 obtain ⟨a0,cap0,e,had,hl,hm,hc,hf⟩:=h
 simp only[Value.slice.injEq]at e
 obtain ⟨rfl,rfl,rfl⟩:=e
 intro j hj
 rw[(had.cell (.of_ext hb) hj).trans (hc j hj)]
 simp[nth_eq hj,hj]
theorem oneCell_ints (l:List Int):∀u∈l.map (Value.int .i64),u.oneCell'=true:=by
 intro u hu
 obtain ⟨x,_,rfl⟩:=List.mem_map.1 hu
 rfl
def RefsV (S:Nat→Prop) (w:World) (vs:List Value) (ll:List (List Int)):Prop:=vs.length=ll.length∧∀j,j<ll.length→Ints S w (nthV vs j) (nthL ll j)
theorem RefsV.nil (S:Nat→Prop) (w:World):RefsV S w [] []:=⟨rfl,fun j hj=>by simp at hj⟩
theorem RefsV.snoc {S:Nat→Prop} {w:World} {vs:List Value} {ll:List (List Int)} {u:Value} {l:List Int} (h:RefsV S w vs ll) (hu:Ints S w u l):RefsV S w (vs++[u]) (ll++[l]):=by
 refine ⟨by simp[h.1],fun j hj=>?_⟩
 by_cases hlt:j<ll.length
 ·rw[show nthV (vs++[u]) j=nthV vs j from by simp[nthV,List.getElem?_append_left (show j<vs.length by rw[h.1];exact hlt)],show nthL (ll++[l]) j=nthL ll j from by simp[nthL,List.getElem?_append_left hlt]]
  exact h.2 j hlt
 ·have:j=ll.length:=by simp at hj;omega
  subst this
  rw[show nthV (vs++[u]) ll.length=u from by simp[nthV,←h.1],show nthL (ll++[l]) ll.length=l from by simp[nthL]]
  exact hu
theorem RefsV.agree {S:Nat→Prop} {w w':World} {vs:List Value} {ll:List (List Int)} (h:RefsV S w vs ll) (hw:Agree S w w'):RefsV S w' vs ll:=⟨h.1,fun j hj=>(h.2 j hj).agree hw⟩
theorem Lists.of_own {S:Nat→Prop} {base:Nat} {e:TypeId} {w:World} {v:Value} {vs:List Value} {ll:List (List Int)} (ho:w.ownsRow base e 1 v ll.length vs) (hr:RefsV S w vs ll) (hS:∀b,base≤b→S b):Lists S w v ll:=by
 rcases ho.2 with ⟨rfl,h0⟩ | ⟨g,cap,cur,rfl,hb,hg,hnc,hcm,_⟩
 ·have:ll=[]:=List.length_eq_zero_iff.1 h0
  subst this
  exact .nil _ _
 ·refine ⟨_,cap,rfl,.inr ⟨g,0,rfl,(Array.getElem?_eq_some_iff.1 hg).1,hS _ hb⟩,hnc,hcm,fun j hj=>⟨nthV vs j,?_,hr.2 j hj⟩⟩
  rw[adr_add,Nat.zero_add,ho.cellAt j (by omega),nthV_get (by rw[hr.1];exact hj)]
theorem Row.owns {w:World} {g base:Nat} {e:TypeId} {xs:List Value} (h:Row w g e xs) (hb:base≤g) (hl:xs.length≤maxLen):w.ownsRow base e 1 (.slice (some ⟨g,0,none⟩) xs.length xs.length) xs.length xs:=
 ⟨by simp,.inr ⟨g,xs.length,xs.toArray,rfl,hb,h,Nat.le_refl _,hl,by simp,by simp⟩⟩
theorem Lists.block {S:Nat→Prop} {w:World} {v:Value} {ll:List (List Int)} (h:Lists S w v ll):Lists (fun b=>S b∧b<w.heap.size) w v ll:=by
 obtain ⟨a,cap,rfl,ha,h1,h2,hc⟩:=h
 refine ⟨a,cap,rfl,?_,h1,h2,fun j hj=>?_⟩
 ·rcases ha with h | ⟨b,off,rfl,hb,hs⟩
  ·exact .inl h
  ·exact .inr ⟨b,off,rfl,hb,hs,hb⟩
 ·obtain ⟨u,hu,hi⟩:=hc j hj
  exact ⟨u,hu,hi.block 0⟩
theorem lit_ints (w:World) (B:Nat) (hB:B=w.heap.size) (l:List Int) (e:TypeId) (hl:l.length≤65536) (hf:∀x∈l, -1000000000≤x∧x≤1000000000):
  Ints (fun b=>b=B) (w.alloc (.cells (l.map (Value.int .i64)).toArray e)) (.slice (some ⟨B,0,none⟩) l.length l.length) l:=by
 subst hB
 exact Row.ints (e:=e) (heap_alloc_new w _) (by unfold maxLen;omega) fun x hx=>WF.small (hf x hx)
def AllIn (S:Nat→Prop) (w:World):List Value→List (List Int)→Prop
 | [],[]=>True
 | v::vs,l::ll=>Ints S w v l∧AllIn S w vs ll
 | _,_=>False
theorem AllIn.len {S:Nat→Prop} {w:World}:∀{vs:List Value} {ll:List (List Int)},AllIn S w vs ll→vs.length=ll.length
 | [],[],_=>rfl
 | v::vs,l::ll,h=>by simp[AllIn.len h.2]
 | [],_::_,h=>h.elim
 | _::_,[],h=>h.elim
theorem AllIn.get {S:Nat→Prop} {w:World}:∀{vs:List Value} {ll:List (List Int)},AllIn S w vs ll→∀j,j<ll.length→Ints S w (nthV vs j) (nthL ll j)
 | [],[],_,j,hj=>by simp at hj
 | v::vs,l::ll,h,0,_=>h.1
 | v::vs,l::ll,h,j+1,hj=>AllIn.get h.2 j (by simpa using hj)
 | [],_::_,h,_,_=>h.elim
 | _::_,[],h,_,_=>h.elim
theorem RefsV.ext {S:Nat→Prop} {w w':World} {vs:List Value} {ll:List (List Int)} (h:RefsV S w vs ll) (hw:Below w.heap.size w w'):RefsV S w' vs ll:=h.agree (.of_ext hw)
end Go.Proofs.YtaijafjfafbcfaaGreat
namespace Go.Proofs.YtaijafjfafbcfaaGreat
open Go.RowKit
structure Kd (α:Type) where
 size:Nat
 rd:(Nat→Prop)→World→List Value→α→Prop
 agree:∀{S w w' cs x},rd S w cs x→Agree S w w'→rd S w' cs x
 mono:∀{S S' w cs x},rd S w cs x→(∀b,S b→S' b)→rd S' w cs x
 block:∀{S w cs x},rd S w cs x→rd (fun b=>S b∧b<w.heap.size) w cs x
 len:∀{S w cs x},rd S w cs x→cs.length=size
 one:∀{S w cs x},rd S w cs x→∀u∈cs,u.oneCell'=true
def Sl {α:Type} (K:Kd α) (S:Nat→Prop) (w:World) (v:Value) (l:List α):Prop:=
 ∃a cap,v=.slice a l.length cap∧Ad S w a l.length cap∧l.length≤cap∧(cap≤maxLen∧l.length≤140737488355328)∧
  ∀j (h:j<l.length),∃cs:List Value,(∀i,i<K.size→w.cell? (adr a (j * K.size+i))=cs[i]?)∧K.rd S w cs l[j]
section
variable {α:Type} {K:Kd α} {S S':Nat→Prop} {w w':World} {v:Value} {l:List α}
theorem Sl.agree (h:Sl K S w v l) (hw:Agree S w w'):Sl K S w' v l:=by
 obtain ⟨a,cap,rfl,ha,h1,h2,hc⟩:=h
 refine ⟨a,cap,rfl,ha.agree hw,h1,h2,fun j hj=>?_⟩
 obtain ⟨cs,h3,h4⟩:=hc j hj
 refine ⟨cs,fun i hi=>?_,K.agree h4 hw⟩
 rw[←h3 i hi]
 rcases ha with ⟨h0,_⟩ | ⟨b,off,rfl,hb,hs⟩
 ·omega
 ·exact World.cell?_of_block (hw.block b hs hb)
theorem Sl.mono (h:Sl K S w v l) (hS:∀b,S b→S' b):Sl K S' w v l:=by
 obtain ⟨a,cap,rfl,ha,h1,h2,hc⟩:=h
 refine ⟨a,cap,rfl,ha.mono hS,h1,h2,fun j hj=>?_⟩
 obtain ⟨cs,h3,h4⟩:=hc j hj
 exact ⟨cs,h3,K.mono h4 hS⟩
theorem Sl.block (h:Sl K S w v l):Sl K (fun b=>S b∧b<w.heap.size) w v l:=by
 obtain ⟨a,cap,rfl,ha,h1,h2,hc⟩:=h
 refine ⟨a,cap,rfl,?_,h1,h2,fun j hj=>?_⟩
 ·rcases ha with h | ⟨b,off,rfl,hb,hs⟩
  ·exact .inl h
  ·exact .inr ⟨b,off,rfl,hb,hs,hb⟩
 ·obtain ⟨cs,h3,h4⟩:=hc j hj
  exact ⟨cs,h3,K.block h4⟩
theorem Sl.ext (h:Sl K S w v l) (hw:Below w.heap.size w w'):Sl K S w' v l:=h.agree (.of_ext hw)
theorem Sl.all (h:Sl K S w v l):Sl K (fun _=>True) w v l:=h.mono fun _ _=>trivial
theorem Sl.nil (K:Kd α) (S:Nat→Prop) (w:World):Sl K S w (.slice none 0 0) []:=
 ⟨none,0,rfl,.inl ⟨rfl,rfl⟩,Nat.le_refl _,by simp[maxLen],fun j hj=>by simp at hj⟩
theorem Sl.form (h:Sl K S w v l):∃a cap,v=.slice a l.length cap∧Ad S w a l.length cap∧l.length≤cap∧cap≤maxLen:=by
 obtain ⟨a,cap,e,ha,h1,h2,_⟩:=h;exact ⟨a,cap,e,ha,h1,h2.1⟩
theorem Sl.few (h:Sl K S w v l):l.length≤140737488355328:=by
 obtain ⟨_,_,_,_,_,h2,_⟩:=h;exact h2.2
theorem Sl.len (h:Sl K S w v l):l.length≤maxLen:=by
 obtain ⟨_,_,_,_,h1,h2,_⟩:=h;exact Nat.le_trans h1 h2.1
theorem Sl.at {a:Option Addr} {n cap:Nat} (h:Sl K S w (.slice a n cap) l) {j:Nat} (hj:j<l.length):
  ∃cs:List Value,(∀i,i<K.size→w.cell? (adr a (j * K.size+i))=cs[i]?)∧K.rd S w cs l[j]∧cs.length=K.size:=by
 obtain ⟨a',cap',e,ha,h1,h2,hc⟩:=h
 simp only[Value.slice.injEq]at e
 obtain ⟨rfl,_,_⟩:=e
 obtain ⟨cs,h3,h4⟩:=hc j hj
 exact ⟨cs,h3,h4,K.len h4⟩
theorem Sl.ad {a:Option Addr} {n cap:Nat} (h:Sl K S w (.slice a n cap) l):Ad S w a l.length cap∧n=l.length:=by
 obtain ⟨a',cap',e,ha,h1,h2,hc⟩:=h
 simp only[Value.slice.injEq]at e
 obtain ⟨rfl,rfl,rfl⟩:=e
 exact ⟨ha,rfl⟩
end
theorem idx_wide {P:Program} {S:Nat→Prop} {w:World} {T E:TypeId} {i:TypeInfo} (hT:P.underlying T=some (.slice E)) (hi:P.info? E=some i) {z:Nat} (h1:i.size=z) {a:Option Addr} {n cap:Nat} (h:Ad S w a n cap):
  ∀k:Nat,k<n→∀W:World,(Instr.indexAt T (.slice a n cap) (.int .i64 k)).run P W=.ok (.pointer (some (adr a (k * z)))) W:=by
 intro k hk W
 rcases h with ⟨rfl,_⟩ | ⟨b,off,rfl,_,_⟩
 ·omega
 ·have hE:P.elem T=E:=by simp[Program.elem,hT]
  rw[run_indexAt_slice W T _ n cap .i64 k (by rw[hE];exact hT),if_pos (by omega),hE]
  simp[sizeOf,typeInfo,hi,h1,Result.andThen,adr,Addr.add]
theorem flat_get {l:List Int} {i:Nat} (h:i<l.length):(l.map (Value.int .i64))[i]? =some (.int .i64 (nth l i)):=by
 rw[List.getElem?_map,get?_nth h];rfl
def kFlat (n:Nat):Kd (List Int) where
 size:=n
 rd _ _ cs l:=l.length=n∧cs=l.map (Value.int .i64)∧∀x∈l,WF x
 agree h _:=h
 mono h _:=h
 block h:=h
 len h:=by rw[h.2.1,List.length_map];exact h.1
 one h u hu:=by
  rw[h.2.1]at hu
  obtain ⟨x,_,rfl⟩:=List.mem_map.1 hu
  rfl
theorem kFlat_size (n:Nat):(kFlat n).size=n:=rfl
theorem Sl.num {n:Nat} {S:Nat→Prop} {w:World} {a:Option Addr} {m cap:Nat} {l:List (List Int)} (h:Sl (kFlat n) S w (.slice a m cap) l) {k:Nat} (hk:k<l.length):
  (nthL l k).length=n∧(∀x∈nthL l k,WF x)∧∀i,i<n→w.cell? (adr a (k * n+i))=some (.int .i64 (nth (nthL l k) i)):=by
 obtain ⟨cs,h1,⟨h2,rfl,h3⟩,_⟩:=h.at hk
 rw[nthL_eq hk]
 refine ⟨h2,h3,fun i hi=>?_⟩
 rw[kFlat_size]at h1
 rw[h1 i hi,flat_get (by omega)]
def kSl {α:Type} (K:Kd α):Kd (List α) where
 size:=1
 rd S w cs l:=∃v,cs=[v]∧Sl K S w v l
 agree h hw:=by obtain ⟨v,e,h⟩:=h;exact ⟨v,e,h.agree hw⟩
 mono h hS:=by obtain ⟨v,e,h⟩:=h;exact ⟨v,e,h.mono hS⟩
 block h:=by obtain ⟨v,e,h⟩:=h;exact ⟨v,e,h.block⟩
 len h:=by obtain ⟨v,rfl,_⟩:=h;rfl
 one h u hu:=by
  obtain ⟨v,rfl,h⟩:=h
  obtain ⟨a,cap,rfl,_⟩:=h.form
  obtain rfl:=List.mem_singleton.1 hu
  rfl
theorem Sl.row {α:Type} {K:Kd α} {S:Nat→Prop} {w:World} {a:Option Addr} {m cap:Nat} {l:List (List α)} (h:Sl (kSl K) S w (.slice a m cap) l) {k:Nat} (hk:k<l.length):
  ∃v,w.cell? (adr a k)=some v∧Sl K S w v l[k]:=by
 obtain ⟨cs,h1,⟨v,rfl,h2⟩,_⟩:=h.at hk
 refine ⟨v,?_,h2⟩
 have:=h1 0 (by show 0<1;omega)
 simpa[kSl] using this
def kCase:Kd CaseD where
 size:=3
 rd S w cs c:=∃v1 v2 v3,cs=[v1,v2,v3]∧Ints S w v1 c.inn∧Lists S w v2 c.out∧Lists S w v3 c.calm
 agree h hw:=by obtain ⟨v1,v2,v3,e,h1,h2,h3⟩:=h;exact ⟨v1,v2,v3,e,h1.agree hw,h2.agree hw,h3.agree hw⟩
 mono h hS:=by obtain ⟨v1,v2,v3,e,h1,h2,h3⟩:=h;exact ⟨v1,v2,v3,e,h1.mono hS,h2.mono hS,h3.mono hS⟩
 block h:=by obtain ⟨v1,v2,v3,e,h1,h2,h3⟩:=h;exact ⟨v1,v2,v3,e,h1.block 0,h2.block,h3.block⟩
 len h:=by obtain ⟨v1,v2,v3,rfl,_⟩:=h;rfl
 one h u hu:=by
  obtain ⟨v1,v2,v3,rfl,h1,h2,h3⟩:=h
  obtain ⟨a1,c1,rfl,_⟩:=h1.form
  obtain ⟨a2,c2,rfl,_⟩:=h2.form
  obtain ⟨a3,c3,rfl,_⟩:=h3.form
  simp at hu
  rcases hu with rfl | rfl | rfl<;>rfl
theorem Sl.case {S:Nat→Prop} {w:World} {a:Option Addr} {m cap:Nat} {l:List CaseD} (h:Sl kCase S w (.slice a m cap) l) {k:Nat} (hk:k<l.length):
  ∃v1 v2 v3,w.cell? (adr a (k * 3))=some v1∧w.cell? ⟨(adr a (k * 3)).block,(adr a (k * 3)).off+1,none⟩=some v2∧w.cell? ⟨(adr a (k * 3)).block,(adr a (k * 3)).off+2,none⟩=some v3∧
   Ints S w v1 (nthC l k).inn∧Lists S w v2 (nthC l k).out∧Lists S w v3 (nthC l k).calm:=by
 obtain ⟨cs,h1,⟨v1,v2,v3,rfl,i1,i2,i3⟩,_⟩:=h.at hk
 have e:nthC l k=l[k]:=by simp[nthC,hk]
 rw[e]
 have q0:=h1 0 (by show 0<3;omega)
 have q1:=h1 1 (by show 1<3;omega)
 have q2:=h1 2 (by show 2<3;omega)
 have sz:kCase.size=3:=rfl
 rw[sz]at q0 q1 q2
 have ha:=h.ad.1
 rcases ha with ⟨h0,_⟩ | ⟨b,off,rfl,_,_⟩
 ·omega
 ·refine ⟨v1,v2,v3,by simpa using q0,?_,?_,i1,i2,i3⟩
  ·simpa[adr,Nat.add_assoc] using q1
  ·simpa[adr,Nat.add_assoc] using q2
theorem nthC_eq {l:List CaseD} {k:Nat} (h:k<l.length):nthC l k=l[k]:=by simp[nthC,h]
theorem Sl.nums {n:Nat} {S:Nat→Prop} {w:World} {a:Option Addr} {m cap:Nat} {l:List (List Int)} (h:Sl (kFlat n) S w (.slice a m cap) l) {k:Nat} (hk:k<l.length) (hn:0<n):
  (w.cell? (adr a (k * n))=some (.int .i64 (nth (nthL l k) 0)))∧∀i,i<n→w.cell? ⟨(adr a (k * n)).block,(adr a (k * n)).off+i,none⟩=some (.int .i64 (nth (nthL l k) i)):=by
 obtain ⟨h1,h2,h3⟩:=h.num hk
 have ha:=h.ad.1
 rcases ha with ⟨h0,_⟩ | ⟨b,off,rfl,_,_⟩
 ·omega
 ·refine ⟨by simpa using h3 0 hn,fun i hi=>?_⟩
  have:=h3 i hi
  simpa[adr,Nat.add_assoc] using this
theorem nth_wf {l:List Int} (h:∀x∈l,WF x) (i:Nat):WF (nth l i):=by
 by_cases hi:i<l.length
 ·exact h _ (nth_mem hi)
 ·have:nth l i=0:=by simp[nth,List.getElem?_eq_none (show l.length≤i by omega)]
  rw[this];exact WF.small (by omega)
end Go.Proofs.YtaijafjfafbcfaaGreat
namespace Go.Proofs.YtaijafjfafbcfaaGreat
open Go.RowKit Go.Shelf
end Go.Proofs.YtaijafjfafbcfaaGreat
