/- Part of the proof that the laws answer true for every input. -/
import Derived.Test.YtjpakklplhabdaaGreatPGaA01
import Derived.Test.YtjpakklplhabdaaGreatPGaA02
import Derived.Deep.DrawnRows
set_option linter.unusedSimpArgs false
set_option linter.unnecessarySimpa false
set_option linter.unusedVariables false
set_option maxRecDepth 100000
set_option maxHeartbeats 40000000
namespace Go.Proofs.YtjpakklplhabdaaGreat
open Go.RowKit
attribute [local go_sem ↓] Go.wp_at_zero Go.wp_at_succ
theorem zb (w:World) (o:Obj):Below w.heap.size w (w.alloc o):=(Below.refl _ _).alloc (Nat.le_refl _) _
theorem zg {a w:World} (h:Below a.heap.size a w) (o:Obj):Below a.heap.size a (w.alloc o):=h.alloc h.size _
theorem ze (w:World) (xs:List Value) (e:TypeId):Row (w.alloc (.cells xs.toArray e)) w.heap.size e xs:=by
 unfold Row
 rw[heap_alloc_new]
theorem zb1 (w:World) (xs:List Value) (e:TypeId):Below w.heap.size w (w.alloc (.cells xs.toArray e))∧Row (w.alloc (.cells xs.toArray e)) w.heap.size e xs:=⟨zb w _,ze w xs e⟩
theorem zb2 (w:World) (xs ys:List Value) (e f:TypeId):Below w.heap.size w ((w.alloc (.cells xs.toArray e)).alloc (.cells ys.toArray f))∧Row ((w.alloc (.cells xs.toArray e)).alloc (.cells ys.toArray f)) w.heap.size e xs∧Row ((w.alloc (.cells xs.toArray e)).alloc (.cells ys.toArray f)) (w.heap.size+1) f ys:=by
 have R1:=ze (w.alloc (.cells xs.toArray e)) ys f
 rw[World.size_alloc]at R1
 exact ⟨zg (zb w _) _,(ze w xs e).alloc _,R1⟩
theorem zF:(Tryz.prog.info? 30).map (fun i=>(i.zero,i.size,i.bytes))=some (some (.slice none 0 0),1,24):=by kernel_rfl
theorem Lists.at {S:Nat→Prop} {w wr:World} {a:Option Addr} {cap:Nat} {ll:List (List Int)} (h:Lists S w (.slice a ll.length cap) ll) (hb:Below w.heap.size w wr) {k:Nat} (hk:k<ll.length):
  ∃u,wr.cell? (adr a k)=some u∧Ints S wr u (nthL ll k):=by
 obtain ⟨a',cap',e,ha,_,_,hc⟩:=h
 simp only[Value.slice.injEq,true_and]at e
 obtain ⟨rfl,rfl⟩:=e
 obtain ⟨u,hu,hi⟩:=hc k hk
 exact ⟨u,(ha.cell (.of_ext hb) hk).trans hu,hi.ext hb⟩
theorem Lists.form {S:Nat→Prop} {w:World} {v:Value} {ll:List (List Int)} (h:Lists S w v ll):∃a cap,v=.slice a ll.length cap∧Ad S w a ll.length cap∧ll.length≤cap∧cap≤maxLen:=by
 obtain ⟨a,cap,rfl,ha,h1,h2,_⟩:=h
 exact ⟨a,cap,rfl,ha,h1,h2⟩
theorem Ints.form {S:Nat→Prop} {w:World} {v:Value} {l:List Int} (h:Ints S w v l):∃a cap,v=.slice a l.length cap∧Ad S w a l.length cap∧l.length≤cap∧cap≤maxLen:=by
 obtain ⟨a,cap,rfl,ha,h1,h2,_⟩:=h
 exact ⟨a,cap,rfl,ha,h1,h2⟩
theorem Post.imp {w w':World} {R R':World→Value→Prop} {e:Ending} (h:Post w R e w') (hi:∀w' r,R w' r→R' w' r):Post w R' e w':=by
 obtain ⟨r,rfl,hb,hr⟩:=h;exact ⟨r,rfl,hb,hi _ _ hr⟩
abbrev TT:Nat→Prop:=fun _=>True
theorem OwnList.agree {e:TypeId} {B:Nat} {w w':World} {v:Value} {vs:List Value} {ll:List (List Int)} (h:OwnList e B w v vs ll) (hw:Agree (fun b=>B≤b) w w'):OwnList e B w' v vs ll:=
 ⟨zO h.row hw fun k hk=>(h.row.lt k hk).1,fun j hj=>(h.rows j hj).agree (hw.mono fun b hb=>hb.1)⟩
theorem Row.get {w:World} {g:Nat} {e:TypeId} {xs ys:List Value} (h:Row w g e xs) (he:xs=ys):Row w g e ys:=he▸h
theorem yQ {S:Nat→Prop} {w w':World} {p:Addr} {u:Value} (h:w.cell? p=some u) (hw:Agree S w w') (hS:S p.block):w'.cell? p=some u:=
 (World.cell?_of_block (hw.block p.block hS (World.block_lt_of_cell? w p h))).trans h
theorem Agree.alloc {S:Nat→Prop} {w w':World} (h:Agree S w w') (o:Obj):Agree S w (w'.alloc o):=h.trans ⟨by simp,fun k _ hk=>heap_alloc_old w' o hk⟩
theorem zcI {S:Nat→Prop} {w:World} {a:Option Addr} {n cap:Nat} {x:Int} {l:List Int} (h:Ints S w (.slice a n cap) (x::l)) {wr:World} (hb:Below w.heap.size w wr):wr.cell? (adr a 0)=some (.int .i64 x):=by
 obtain ⟨a0,cap0,e,had,hl,hm,hc,hf⟩:=h
 simp only[List.length_cons,Value.slice.injEq]at e
 obtain ⟨rfl,rfl,rfl⟩:=e
 exact (had.cell (.of_ext hb) (by simp)).trans (hc 0 (by simp))
theorem zew {S:Nat→Prop} {w:World} {a:Option Addr} {n cap:Nat} {l:List Int} (h:Ints S w (.slice a n cap) l):Ad S w a l.length cap:=by
 obtain ⟨a0,cap0,e,had,hl,hm,hc,hf⟩:=h
 simp only[Value.slice.injEq]at e
 obtain ⟨rfl,rfl,rfl⟩:=e
 exact had
theorem zm {w w':World} {p:Addr} {u:Value} (h:w.cell? p=some u) (hb:Below w.heap.size w w'):w'.cell? p=some u:=(hb.cell (World.block_lt_of_cell? w _ h)).trans h
theorem zY {S:Nat→Prop} {w W:World} {a:Option Addr} {n cap:Nat} {l:List Int} (h:Ints S w (.slice a n cap) l) (hb:Below w.heap.size w W):∀j,j<l.length→W.cell? (adr a j)=some ((l.map (Value.int .i64)).getD j undef):=by
 obtain ⟨a0,cap0,e,had,hl,hm,hc,hf⟩:=h
 simp only[Value.slice.injEq]at e
 obtain ⟨rfl,rfl,rfl⟩:=e
 intro j hj
 rw[(had.cell (.of_ext hb) hj).trans (hc j hj)]
 simp[yq hj,hj]
theorem Xh (l:List Int):∀u∈l.map (Value.int .i64),u.oneCell'=true:=by
 intro u hu
 obtain ⟨x,_,rfl⟩:=List.mem_map.1 hu
 rfl
def RefsV (S:Nat→Prop) (w:World) (vs:List Value) (ll:List (List Int)):Prop:=vs.length=ll.length∧∀j,j<ll.length→Ints S w (nthV vs j) (nthL ll j)
theorem Lists.of_own {S:Nat→Prop} {base:Nat} {e:TypeId} {w:World} {v:Value} {vs:List Value} {ll:List (List Int)} (ho:w.ownsRow base e 1 v ll.length vs) (hr:RefsV S w vs ll) (hS:∀b,base≤b→S b):Lists S w v ll:=by
 rcases ho.2 with ⟨rfl,h0⟩ | ⟨g,cap,cur,rfl,hb,hg,hnc,hcm,_⟩
 ·have:ll=[]:=List.length_eq_zero_iff.1 h0
  subst this
  exact .nil _ _
 ·refine ⟨_,cap,rfl,.inr ⟨g,0,rfl,(Array.getElem?_eq_some_iff.1 hg).1,hS _ hb⟩,hnc,hcm,fun j hj=>⟨nthV vs j,?_,hr.2 j hj⟩⟩
  rw[zZ,Nat.zero_add,ho.cellAt j (by omega),zaJ (by rw[hr.1];exact hj)]
theorem Row.owns {w:World} {g base:Nat} {e:TypeId} {xs:List Value} (h:Row w g e xs) (hb:base≤g) (hl:xs.length≤maxLen):w.ownsRow base e 1 (.slice (some ⟨g,0,none⟩) xs.length xs.length) xs.length xs:=
 ⟨by simp,.inr ⟨g,xs.length,xs.toArray,rfl,hb,h,Nat.le_refl _,hl,by simp,by simp⟩⟩
theorem Lists.block {S:Nat→Prop} {w:World} {v:Value} {ll:List (List Int)} (h:Lists S w v ll):Lists (fun b=>S b∧b<w.heap.size) w v ll:=by
 obtain ⟨a,cap,rfl,ha,h1,h2,hc⟩:=h
 refine ⟨a,cap,rfl,?_,h1,h2,fun j hj=>?_⟩
 ·rcases ha with h | ⟨b,off,rfl,hb,hs⟩
  ·exact .inl h
  ·exact .inr ⟨b,off,rfl,hb,hs,hb⟩
 ·obtain ⟨u,hu,hi⟩:=hc j hj
  exact ⟨u,hu,hi.block 0⟩
theorem zdx (w:World) (B:Nat) (hB:B=w.heap.size) (l:List Int) (e:TypeId) (hl:l.length≤65536) (hf:∀x∈l, -1000000000≤x∧x≤1000000000):
  Ints (fun b=>b=B) (w.alloc (.cells (l.map (Value.int .i64)).toArray e)) (.slice (some ⟨B,0,none⟩) l.length l.length) l:=by
 subst hB
 exact Row.ints (e:=e) (heap_alloc_new w _) (by unfold maxLen;omega) fun x hx=>WF.small (hf x hx)
end Go.Proofs.YtjpakklplhabdaaGreat
