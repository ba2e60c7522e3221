/- Part of the proof that the laws answer true for every input. -/
import Derived.Test.YtjpakklplhabdaaGreatPGaA00
set_option linter.unusedSimpArgs false
set_option linter.unnecessarySimpa false
set_option linter.unusedVariables false
set_option maxRecDepth 100000
set_option maxHeartbeats 40000000
namespace Go.Proofs.YtjpakklplhabdaaGreat
open Go.RowKit
def nthL (ll:List (List Int)) (k:Nat):List Int:=ll.getD k []
def nthV (vs:List Value) (k:Nat):Value:=vs.getD k undef
theorem zM {l:List (List Int)} {k:Nat} (h:k<l.length):nthL l k=l[k]:=by simp[nthL,h]
theorem yl {l:List (List Int)} {k:Nat} (h:k<l.length):nthL l k∈l:=by rw[zM h];exact List.getElem_mem h
theorem yP {l:List (List Int)} {k:Nat} (h:k<l.length):l.take (k+1)=l.take k++[nthL l k]:=by rw[zM h];exact (List.take_append_getElem h).symm
theorem zaJ {l:List Value} {k:Nat} (h:k<l.length):l[k]? =some (nthV l k):=by simp[nthV,h]
def Lists (S:Nat→Prop) (w:World) (v:Value) (ll:List (List Int)):Prop:=
 ∃a cap,v=.slice a ll.length cap∧Ad S w a ll.length cap∧ll.length≤cap∧cap≤maxLen∧
  ∀j,j<ll.length→∃u,w.cell? (adr a j)=some u∧Ints S w u (nthL ll j)
theorem Lists.agree {S:Nat→Prop} {w w':World} {v:Value} {l:List (List Int)} (h:Lists S w v l) (hw:Agree S w w'):Lists S w' v l:=by
 obtain ⟨a,cap,rfl,ha,h1,h2,hc⟩:=h
 refine ⟨a,cap,rfl,ha.agree hw,h1,h2,fun j hj=>?_⟩
 obtain ⟨u,hu,hi⟩:=hc j hj
 exact ⟨u,(ha.cell hw hj).trans hu,hi.agree hw⟩
theorem Lists.mono {S S':Nat→Prop} {w:World} {v:Value} {l:List (List Int)} (h:Lists S w v l) (hS:∀b,S b→S' b):Lists S' w v l:=by
 obtain ⟨a,cap,rfl,ha,h1,h2,hc⟩:=h
 refine ⟨a,cap,rfl,ha.mono hS,h1,h2,fun j hj=>?_⟩
 obtain ⟨u,hu,hi⟩:=hc j hj
 exact ⟨u,hu,hi.mono hS⟩
theorem Lists.ext {S:Nat→Prop} {w w':World} {v:Value} {l:List (List Int)} (h:Lists S w v l) (hw:Below w.heap.size w w'):Lists S w' v l:=h.agree (.of_ext hw)
theorem Lists.nil (S:Nat→Prop) (w:World):Lists S w (.slice none 0 0) []:=
 ⟨none,0,rfl,.inl ⟨rfl,rfl⟩,Nat.le_refl _,by simp[maxLen],fun j hj=>by simp at hj⟩
structure OwnList (e:TypeId) (base:Nat) (w:World) (v:Value) (vs:List Value) (ll:List (List Int)):Prop where
 row:w.ownsRow base e 1 v ll.length vs
 rows:∀j,j<ll.length→Ints (fun b=>base≤b∧v.ownBlock≠some b) w (nthV vs j) (nthL ll j)
section
variable {e:TypeId} {base:Nat} {w:World} {v:Value} {vs:List Value} {ll:List (List Int)}
theorem OwnList.nil (e:TypeId) (base:Nat) (w:World):OwnList e base w (.slice none 0 0) [] []:=⟨World.ownsRow_nil _ _ _ _,fun j hj=>by simp at hj⟩
theorem OwnList.len (h:OwnList e base w v vs ll):vs.length=ll.length:=by have:=h.row.1;simpa using this
theorem OwnList.ext {w':World} (h:OwnList e base w v vs ll) (hw:Below w.heap.size w w'):OwnList e base w' v vs ll:=
 ⟨qn h.row hw,fun j hj=>(h.rows j hj).ext hw⟩
theorem OwnList.lists (h:OwnList e base w v vs ll):Lists (fun b=>base≤b) w v ll:=by
 have hl:=h.len
 rcases h.row.2 with ⟨rfl,hn0⟩ | ⟨g,cap,cur,rfl,hb,hg,hnc,hcm,_⟩
 ·have:ll=[]:=by simpa using hn0
  subst this
  exact Lists.nil _ _
 ·refine ⟨_,cap,rfl,.inr ⟨g,0,rfl,(Array.getElem?_eq_some_iff.1 hg).1,hb⟩,hnc,hcm,fun j hj=>⟨nthV vs j,?_,?_⟩⟩
  ·rw[zZ,Nat.zero_add,h.row.cellAt j (by omega),zaJ (by omega)]
  ·exact (h.rows j hj).mono fun b hb=>hb.1
theorem Ints.block {S:Nat→Prop} {w:World} {v:Value} {l:List Int} (h:Ints S w v l) (k:Nat):Ints (fun b=>S b∧b<w.heap.size) w v l:=by
 obtain ⟨a,cap,rfl,ha,r⟩:=h
 refine ⟨a,cap,rfl,?_,r⟩
 rcases ha with h | ⟨b,off,rfl,hb,hs⟩
 ·exact .inl h
 ·exact .inr ⟨b,off,rfl,hb,hs,hb⟩
theorem OwnList.push {w':World} {v' u:Value} {l:List Int} (h:OwnList e base w v vs ll) (hr:w'.ownsRow base e 1 v' (ll.length+1) (vs++[u]))
  (hg:∀S:Nat→Prop,(∀k,v.ownBlock=some k→¬S k)→Agree S w w') (hv:∀k,v'.ownBlock=some k→v.ownBlock=some k∨w.heap.size≤k)
  (hu:Ints (fun b=>base≤b∧v.ownBlock≠some b) w u l):OwnList e base w' v' (vs++[u]) (ll++[l]):=by
 have hl:=h.len
 have move:∀{q:Value} {m:List Int},Ints (fun b=>base≤b∧v.ownBlock≠some b) w q m→Ints (fun b=>base≤b∧v'.ownBlock≠some b) w' q m:=by
  intro q m hq
  refine ((hq.block 0).agree (hg _ (fun k hk hh=>hh.1.2 hk))).mono ?_
  intro b hb
  refine ⟨hb.1.1,fun e1=>?_⟩
  rcases hv b e1 with h2 | h2
  ·exact hb.1.2 h2
  ·have:=hb.2;omega
 refine ⟨by simpa using hr,fun j hj=>?_⟩
 simp at hj
 by_cases hj':j<ll.length
 ·have ev:nthV (vs++[u]) j=nthV vs j:=by simp[nthV,List.getElem?_append_left (show j<vs.length by omega)]
  have el:nthL (ll++[l]) j=nthL ll j:=by simp[nthL,List.getElem?_append_left hj']
  rw[ev,el]
  exact move (h.rows j hj')
 ·obtain rfl:j=ll.length:=by omega
  have ev:nthV (vs++[u]) ll.length=u:=by simp[nthV,←hl]
  have el:nthL (ll++[l]) ll.length=l:=by simp[nthL]
  rw[ev,el]
  exact move hu
end
end Go.Proofs.YtjpakklplhabdaaGreat
namespace Go.Proofs.YtjpakklplhabdaaGreat
open Go.RowKit
theorem zC:(Tryz.prog.info? 3).map (fun i=>(i.zero,i.size,i.bytes))=some (some (.int .i64 0),1,8):=by kernel_rfl
theorem xY {l1 l2:List Int} {k:Nat} (hk1:k<l1.length) (hk2:k<l2.length) (h:l1.take k=l2.take k) (e:nth l1 k=nth l2 k):l1.take (k+1)=l2.take (k+1):=by
 rw[YT hk1,YT hk2,h,e]
theorem Zp {S S':Nat→Prop} {w:World} {v1 v2:Value} {l1 l2:List Int} (h1:Ints S w v1 l1) (h2:Ints S' w v2 l2):
  Calls Tryz.prog 115 #[v1,v2] w (QuietP w (.bool (decide (l1=l2)))):=by
 obtain ⟨a1,cap1,rfl,ha1,_,hm1,hc1,_⟩:=h1
 obtain ⟨a2,cap2,rfl,ha2,_,_,hc2,_⟩:=h2
 unfold maxLen at hm1
 obtain ⟨i0,hi,hz0,hz1,hz2⟩:=info_parts zC
 have hix1:=zz Tryz.underlying30 hi hz1 ha1
 have hix2:=zz Tryz.underlying30 hi hz1 ha2
 clear hi hz0 hz1 hz2
 by_cases hlen:l1.length=l2.length
 ·have hne:((l1.length:Int) !=l2.length)=false:=by simp[hlen]
  have HL:=zhd hlen
  clear hlen
  go_enter Tryz.func115,Tryz.ntmps115
  go_wp2
  go_loopw [13] (fun i wr=>∃k:Nat,k≤l1.length∧i=.int .i64 k∧(∃m,wr=w.drewN m)∧l1.take k=l2.take k) (fun i _=>l1.length - (intOf i).toNat)
  case atStart=>exact ⟨0,by omega,rfl,⟨0,rfl⟩,rfl⟩
  case round=>
   obtain ⟨k,hk,rfl,⟨m,rfl⟩,hrel⟩:=hrel
   have H:=zhd hrel
   clear hrel
   by_cases hlt:k<l1.length
   ·have hlt2:k<l2.length:=by have:=HL.out;omega
    have q1:=hix1 k hlt
    have q2:=hix2 k hlt2
    have p1:=hc1 k hlt
    have p2:=hc2 k hlt2
    clear hix1 hix2 hc1 hc2
    by_cases he:nth l1 k=nth l2 k
    ·have he':(nth l1 k !=nth l2 k)=false:=by simp[he]
     have HE:=zhd he
     clear he
     go_wp2
     go_quiet (fail)
     go_wp2
     go_roundw
     case rel=>exact ⟨k+1,by omega,by go_num,⟨_,rfl⟩,xY hlt hlt2 H.out HE.out⟩
     case measure=>simp[intOf];omega
    ·have he':(nth l1 k !=nth l2 k)=true:=by simp[he]
     go_wp2
     go_quiet (fail)
     go_wp2
     go_ret
     rw[World.drewN_drewN]
     exact .of (zv (decide_eq_false (fun (e:l1=l2)=>he (by rw[e]))).symm) _
   ·go_wp2
    go_ret
    refine .of (zv ?_) _
    have:=H.out
    have h2:=HL.out
    rw[List.take_of_length_le (by omega),List.take_of_length_le (by omega)]at this
    exact (decide_eq_true this).symm
 ·have hne:((l1.length:Int) !=l2.length)=true:=by simp;omega
  go_enter Tryz.func115,Tryz.ntmps115
  go_wp2
  go_ret
  exact .of (zv (decide_eq_false (fun (e:l1=l2)=>hlen (by rw[e]))).symm) 0
theorem X5 {S S':Nat→Prop} {w:World} {v1 v2:Value} {l1 l2:List Int} (h1:Ints S w v1 l1) (h2:Ints S' w v2 l2):
  Calls Tryz.prog 115 #[v1,v2] w (Post w fun _ r=>r=.bool (decide (l1=l2))):=(Zp h1 h2).mono fun _ _ h=>h.post
end Go.Proofs.YtjpakklplhabdaaGreat
