/- Part of the proof that the laws answer true for every input. -/
import Derived.Test.YtaijafjfafbcfaaGreatPXb29
set_option linter.unusedSimpArgs false
set_option linter.unnecessarySimpa false
set_option linter.unusedVariables false
set_option maxRecDepth 100000
set_option maxHeartbeats 40000000
namespace Go.Proofs.YtaijafjfafbcfaaGreat
open Go.RowKit
def mkV (inn:List Int) (word:List (List Int)) (N k:Nat) (rows:List (List Int)) (q:Nat):List Int:=if k=0 then firstV q (nth inn q) else seenV (nthL word (k - 1)) N k q (nthL rows (k - 1))
def plL (N:Nat) (inn:List Int) (word:List (List Int)) (t:List (List Int)):Nat→List (List Int)×List (List Int)
 | 0=>(t,[])
 | k+1=>((layV (mkV inn word N k (plL N inn word t k).2) (plL N inn word t k).1 N).1,(plL N inn word t k).2++[(layV (mkV inn word N k (plL N inn word t k).2) (plL N inn word t k).1 N).2])
theorem plL_succ (N:Nat) (inn:List Int) (word:List (List Int)) (t:List (List Int)):∀k,plL N inn word t (k+1)=playV N inn word t k
 | 0=>by
  have e:mkV inn word N 0 ([]:List (List Int))=fun q=>firstV q (nth inn q):=by funext q;unfold mkV;rw[if_pos rfl]
  show ((layV (mkV inn word N 0 []) t N).1,[]++[(layV (mkV inn word N 0 []) t N).2])=_
  rw[e];rfl
 | k+1=>by
  have ih:=plL_succ N inn word t k
  show ((layV (mkV inn word N (k+1) (plL N inn word t (k+1)).2) (plL N inn word t (k+1)).1 N).1,(plL N inn word t (k+1)).2++[(layV (mkV inn word N (k+1) (plL N inn word t (k+1)).2) (plL N inn word t (k+1)).1 N).2])=_
  rw[ih]
  have e:mkV inn word N (k+1) (playV N inn word t k).2=fun q=>seenV (nthL word k) N (k+1) q (nthL (playV N inn word t k).2 k):=by
   funext q;unfold mkV;rw[if_neg (by omega)];simp
  rw[e];rfl
theorem plL_len (N:Nat) (inn:List Int) (word:List (List Int)) (t:List (List Int)):∀k,(plL N inn word t k).2.length=k
 | 0=>rfl
 | k+1=>by unfold plL;rw[List.length_append,plL_len N inn word t k];rfl
theorem plL_size (N:Nat) (inn:List Int) (word:List (List Int)) (t:List (List Int)):∀k,(plL N inn word t k).1.length≤t.length+N * k
 | 0=>by unfold plL;simp
 | k+1=>by rw[plL_succ];exact playV_size N inn word t k
theorem plL_bound (N:Nat) (inn:List Int) (word:List (List Int)) (t:List (List Int)):∀k,∀l∈(plL N inn word t k).2,l.length=N∧∀x∈l,0≤x∧x<(t.length:Int)+N * k
 | 0,l,h=>by unfold plL at h;simp at h
 | k+1,l,h=>by
  rw[plL_succ]at h
  have:=playV_bound N inn word (Nat.le_refl t.length) k l h
  refine ⟨this.1,fun x hx=>?_⟩
  have h2:=this.2 x hx
  have e:(N:Int) * ((k+1:Nat):Int)=N * (k+1):=by simp
  omega
theorem set_78 {a7:List Value} (h:a7.length=7) (nv vt vx vt':Value):((a7++[nv,vt,vx]).set 7 nv).set 8 vt'=a7++[nv,vt',vx]:=by
 match a7,h with
 | [a,b,c,d,e,f,g],_=>rfl
theorem set_9 {a7:List Value} (h:a7.length=7) (nv vt vx vx':Value):(a7++[nv,vt,vx]).set 9 vx'=a7++[nv,vt,vx']:=by
 match a7,h with
 | [a,b,c,d,e,f,g],_=>rfl
theorem setAgree (w:World) (g j:Nat) (u:Value):Agree (fun b=>b≠g) w (w.setCell ⟨g,j,none⟩ u):=.of_grown (grownBy_setCell _ _ _ _) fun b hb e=>hb (by cases e;rfl)
theorem Sl.blk {α:Type} {K:Kd α} {S:Nat→Prop} {w:World} {v:Value} {l:List α} (h:Sl K S w v l):Sl K (fun b=>S b∧b<w.heap.size) w v l:=h.block
structure BQ (w wC:World) (S3:Nat) (So:Nat→Prop) (a7:List Value) (nv vx:Value) (W:World) (vt vl:Value) (tab:List (List Int)) (nums:List Int):Prop where
 be:Below w.heap.size w W
 ag:Agree (fun b=>b<wC.heap.size∧b≠S3) wC W
 r3:Row W S3 35 (a7++[nv,vt,vx])
 tb:Sl (kFlat 8) (fun b=>So b∨(wC.heap.size≤b∧b<W.heap.size∧vl.ownBlock≠some b)) W vt tab
 l:Cnts wC.heap.size W vl nums
structure BQs (w wC:World) (S3:Nat) (So:Nat→Prop) (a7:List Value):Prop where
 lo:w.heap.size≤S3
 hi:S3<wC.heap.size
 so:∀b,So b→b<wC.heap.size∧b≠S3
 len:a7.length=7
section
variable {w wC W:World} {S3:Nat} {So:Nat→Prop} {a7:List Value} {nv vx vt vl:Value} {tab:List (List Int)} {nums:List Int}
theorem BQ.next {W4:World} {vt':Value} {tab':List (List Int)} {M:Nat} (s:BQs w wC S3 So a7) (h:BQ w wC S3 So a7 nv vx W vt vl tab nums) (ex:Below W.heap.size W W4) (hM:W.heap.size≤M)
  (hvt:Sl (kFlat 8) (fun b=>(So b∨(wC.heap.size≤b∧b<W.heap.size∧vl.ownBlock≠some b))∨M≤b) W4 vt' tab'):BQ w wC S3 So a7 nv vx ((W4.setCell ⟨S3,7,none⟩ nv).setCell ⟨S3,8,none⟩ vt') vt' vl tab' nums:=by
 have hlo:=s.lo
 have hhi:=s.hi
 have hsz:=h.ag.size
 have hs4:=ex.size
 have hA:=(setAgree W4 S3 7 nv).trans (setAgree (W4.setCell ⟨S3,7,none⟩ nv) S3 8 vt')
 have hlt:=h.l.lt
 refine ⟨((ext_trans h.be ex).setCell (by simpa using hlo) _).setCell (by simpa using hlo) _,(h.ag.trans (.of_ext ex)).trans (hA.mono fun b hb=>hb.2),?_,?_,(h.l.ext ex).agreeT hA fun g hg=>by have:=(hlt g hg).1;omega⟩
 ·rw[←set_78 s.len]
  exact ((h.r3.ext ex).set 7 nv).set 8 vt'
 ·refine (hvt.blk.mono (S':=fun b=>(So b∨(wC.heap.size≤b∧b<W4.heap.size∧vl.ownBlock≠some b))) fun b hb=>?_).agree (hA.mono fun b hb=>?_) |>.mono fun b hb=>?_
  ·rcases hb.1 with (h1 | h1) | h1
   ·exact .inl h1
   ·exact .inr ⟨h1.1,by omega,h1.2.2⟩
   ·exact .inr ⟨by omega,hb.2,fun e=>by have:=(hlt b e).2;omega⟩
  ·rcases hb with h1 | h1
   ·exact (s.so b h1).2
   ·omega
  ·rcases hb with h1 | h1
   ·exact .inl h1
   ·exact .inr ⟨h1.1,Nat.lt_of_lt_of_le h1.2.1 hA.size,h1.2.2⟩
theorem BQ.push {g c:Nat} {w5:World} {x:Int} (s:BQs w wC S3 So a7) (h:BQ w wC S3 So a7 nv vx W vt vl tab nums) (ho:w5.ownsRow wC.heap.size 3 1 (.slice (some ⟨g,0,none⟩) (nums.length+1) c) (nums.length+1) (nums.map (Value.int .i64)++[.int .i64 x]))
  (hb:Below wC.heap.size W w5) (hag:∀S:Nat→Prop,(∀k,vl.ownBlock=some k→¬S k)→Agree S W w5) (hg:vl.ownBlock=some g∨W.heap.size≤g):BQ w wC S3 So a7 nv vx w5 vt (.slice (some ⟨g,0,none⟩) (nums.length+1) c) tab (nums++[x]):=by
 have hlt:=h.l.lt
 have hlo:=s.lo
 have hhi:=s.hi
 have hA:=hag (fun b=>vl.ownBlock≠some b) fun k hk h=>h hk
 have hgo:∀q,(Value.slice (some ⟨g,0,none⟩) (nums.length+1) c).ownBlock=some q→q=g:=fun q hq=>by have:g=q:=(by simpa[Value.ownBlock] using hq);exact this.symm
 refine ⟨h.be.trans (hb.mono (by omega)),h.ag.trans (hA.mono fun b hb e=>by have:=(hlt b e).1;omega),h.r3.agree hA fun e=>by have:=(hlt _ e).1;omega,?_,.snoc ho⟩
 refine (h.tb.blk.agree (hA.mono fun b hb=>?_)).mono fun b hb=>?_
 ·rcases hb.1 with h1 | h1
  ·intro e;have:=(hlt b e).1;have:=(s.so b h1).1;omega
  ·exact h1.2.2
 ·rcases hb.1 with h1 | h1
  ·exact .inl h1
  ·refine .inr ⟨h1.1,Nat.lt_of_lt_of_le h1.2.1 hA.size,fun e=>?_⟩
   have:=hgo b e
   subst this
   rcases hg with e1 | e1
   ·exact h1.2.2 e1
   ·omega
end
structure BK (w wB:World) (S3 T7:Nat) (So:Nat→Prop) (a7:List Value) (nv vx cv wv:Value) (W:World) (vt vv:Value) (tab rows:List (List Int)):Prop where
 be:Below w.heap.size w W
 ag:Agree (fun b=>b<wB.heap.size∧b≠S3∧b≠T7) wB W
 r3:Row W S3 35 (a7++[nv,vt,vx])
 r7:Row W T7 81 [cv,wv,vv]
 tb:Sl (kFlat 8) (fun b=>So b∨(wB.heap.size≤b∧b<W.heap.size∧vv.ownBlock≠some b)) W vt tab
 vs:OwnK kInts 44 wB.heap.size (fun b=>wB.heap.size≤b∧b<W.heap.size) W vv rows
structure BKs (w wB:World) (S3 T7:Nat) (So:Nat→Prop) (a7:List Value):Prop where
 lo:w.heap.size≤S3
 mid:S3<T7
 hi:T7<wB.heap.size
 so:∀b,So b→b<T7∧b≠S3
 len:a7.length=7
section
variable {w wB W:World} {S3 T7:Nat} {So:Nat→Prop} {a7:List Value} {nv vx cv wv vt vv:Value} {tab rows:List (List Int)}
theorem BK.enter (s:BKs w wB S3 T7 So a7) (h:BK w wB S3 T7 So a7 nv vx cv wv W vt vv tab rows):
  BQs w W S3 (fun b=>So b∨(wB.heap.size≤b∧b<W.heap.size∧vv.ownBlock≠some b)) a7∧BQ w W S3 (fun b=>So b∨(wB.heap.size≤b∧b<W.heap.size∧vv.ownBlock≠some b)) a7 nv vx W vt (.slice none 0 0) tab []:=by
 have h1:=s.lo;have h2:=s.mid;have h3:=s.hi;have h4:=h.ag.size
 refine ⟨⟨h1,by omega,fun b hb=>?_,s.len⟩,⟨h.be,.refl _ _,h.r3,h.tb.mono fun b hb=>.inl hb,World.ownsRow_nil _ _ _ _⟩⟩
 rcases hb with h5 | h5
 ·have:=s.so b h5;omega
 ·omega
theorem BK.done {W2:World} {vt' vl:Value} {tab':List (List Int)} {nums:List Int} (s:BKs w wB S3 T7 So a7) (h:BK w wB S3 T7 So a7 nv vx cv wv W vt vv tab rows)
  (q:BQ w W S3 (fun b=>So b∨(wB.heap.size≤b∧b<W.heap.size∧vv.ownBlock≠some b)) a7 nv vx W2 vt' vl tab' nums) (hw:∀x∈nums,WF x):
  Row W2 T7 81 [cv,wv,vv]∧OwnK kInts 44 wB.heap.size (fun b=>wB.heap.size≤b∧b<W2.heap.size) W2 vv rows∧kInts.rd (fun b=>(wB.heap.size≤b∧b<W2.heap.size)∧vv.ownBlock≠some b) W2 [vl] nums∧wB.heap.size≤W2.heap.size∧
  ∀g c W4,OwnK kInts 44 wB.heap.size (fun b=>wB.heap.size≤b∧b<W2.heap.size) W4 (.slice (some ⟨g,0,none⟩) (rows.length+1) c) (rows++[nums])→Below wB.heap.size W2 W4→(∀S:Nat→Prop,(∀k,vv.ownBlock=some k→¬S k)→Agree S W2 W4)→(vv.ownBlock=some g∨W2.heap.size≤g)→
   Row W4 T7 81 [cv,wv,vv]∧BK w wB S3 T7 So a7 nv vx cv wv (W4.setCell ⟨T7,2,none⟩ (.slice (some ⟨g,0,none⟩) (rows.length+1) c)) vt' (.slice (some ⟨g,0,none⟩) (rows.length+1) c) tab' (rows++[nums]):=by
 have h1:=s.lo;have h2:=s.mid;have h3:=s.hi;have h4:=h.ag.size;have h5:=q.ag.size
 have hvl:=h.vs.lt
 have R7:=h.r7.agree q.ag ⟨by omega,by omega⟩
 have O2:OwnK kInts 44 wB.heap.size (fun b=>wB.heap.size≤b∧b<W2.heap.size) W2 vv rows:=h.vs.slot q.ag (fun k hk=>⟨(hvl k hk).2,by have:=(hvl k hk).1;omega⟩) (fun b hb=>⟨hb.2,by omega⟩) fun b hb=>⟨hb.1,by omega⟩
 refine ⟨R7,O2,⟨vl,rfl,((q.l.read hw).block 0).mono fun b hb=>⟨⟨by omega,hb.2⟩,fun e=>by have:=(hvl b e).2;omega⟩⟩,by omega,fun g c W4 ho hb hag hg=>?_⟩
 have hA:=hag (fun b=>vv.ownBlock≠some b) fun k hk h=>h hk
 have hA7:=setAgree W4 T7 2 (.slice (some ⟨g,0,none⟩) (rows.length+1) c)
 have R74:=R7.agree hA fun e=>by have:=(hvl _ e).1;omega
 have hgo:∀k,(Value.slice (some ⟨g,0,none⟩) (rows.length+1) c).ownBlock=some k→k=g:=fun k hk=>by have:g=k:=(by simpa[Value.ownBlock] using hk);exact this.symm
 have hgB:wB.heap.size≤g:=by
  rcases hg with e | e
  ·exact (hvl g e).1
  ·omega
 have hs4:=hA.size
 have hs7:=hA7.size
 refine ⟨R74,⟨(q.be.trans (hb.mono (by omega))).setCell (by simp;omega) _,?_,?_,R74.set 2 _,?_,?_⟩⟩
 ·refine ((h.ag.trans (q.ag.mono fun b hb=>⟨by omega,hb.2.1⟩)).trans (hA.mono fun b hb e=>by have:=(hvl b e).1;omega)).trans (hA7.mono fun b hb=>hb.2.2)
 ·exact (q.r3.agree hA fun e=>by have:=(hvl _ e).1;omega).agree hA7 (by omega)
 ·refine ((q.tb.blk.agree (hA.mono fun b hb=>?_)).agree (hA7.mono fun b hb=>?_)).mono fun b hb=>?_
  ·rcases hb.1 with (h6 | h6) | h6
   ·intro e;have:=(hvl b e).1;have:=(s.so b h6).1;omega
   ·exact h6.2.2
   ·intro e;have:=(hvl b e).2;omega
  ·rcases hb.1 with (h6 | h6) | h6
   ·have:=s.so b h6;omega
   ·omega
   ·omega
  ·rcases hb.1 with (h6 | h6) | h6
   ·exact .inl h6
   ·refine .inr ⟨h6.1,by omega,fun e=>?_⟩
    have:=hgo b e
    subst this
    rcases hg with e1 | e1
    ·exact h6.2.2 e1
    ·omega
   ·refine .inr ⟨by omega,by omega,fun e=>?_⟩
    have:=hgo b e
    subst this
    rcases hg with e1 | e1
    ·have:=(hvl b e1).2;omega
    ·have:=hb.2;omega
 ·exact ho.slot hA7 (fun k hk=>by have:=hgo k hk;omega) (fun b hb=>by omega) fun b hb=>⟨hb.1,by omega⟩
end
structure BR (w wA:World) (S3:Nat) (a7:List Value) (nv:Value) (W:World) (vt vx:Value) (tab:List (List Int)) (ex:List ExecD):Prop where
 be:Below w.heap.size w W
 ag:Agree (fun b=>b<wA.heap.size∧b≠S3) wA W
 r3:Row W S3 35 (a7++[nv,vt,vx])
 tb:Sl (kFlat 8) (fun b=>wA.heap.size≤b∧b<W.heap.size∧vx.ownBlock≠some b) W vt tab
 own:OwnK kExec 81 wA.heap.size (fun b=>S3<b∧b<W.heap.size) W vx ex
section
variable {w wA W:World} {S3:Nat} {a7:List Value} {nv vt vx:Value} {tab:List (List Int)} {ex:List ExecD}
theorem BR.enter (h1:w.heap.size≤S3) (h2:S3<wA.heap.size) (h7:a7.length=7) (h:BR w wA S3 a7 nv W vt vx tab ex) (cv wv:Value):
  BKs w (W.alloc (.cells #[cv,wv,.slice none 0 0] 81)) S3 W.heap.size (fun b=>wA.heap.size≤b∧b<W.heap.size∧vx.ownBlock≠some b) a7∧
  BK w (W.alloc (.cells #[cv,wv,.slice none 0 0] 81)) S3 W.heap.size (fun b=>wA.heap.size≤b∧b<W.heap.size∧vx.ownBlock≠some b) a7 nv vx cv wv (W.alloc (.cells #[cv,wv,.slice none 0 0] 81)) vt (.slice none 0 0) tab []:=by
 have h4:=h.ag.size
 exact ⟨⟨h1,by omega,by simp,fun b hb=>⟨hb.2.1,by omega⟩,h7⟩,⟨ext_alloc' h.be _,.refl _ _,h.r3.alloc _,row_new W [cv,wv,.slice none 0 0] _,(h.tb.ext (ext_alloc _ _)).mono fun b hb=>.inl hb,OwnK.nil _ _ _ _ _⟩⟩
theorem BR.done {wB W2:World} {vt' vv wv:Value} {tab' rows:List (List Int)} {word:List (List Int)} {c:Int} (h1:w.heap.size≤S3) (h2:S3<wA.heap.size) (h7:a7.length=7) (h:BR w wA S3 a7 nv W vt vx tab ex) (hB:wB=W.alloc (.cells #[.int .i64 c,wv,.slice none 0 0] 81))
  (k:BK w wB S3 W.heap.size (fun b=>wA.heap.size≤b∧b<W.heap.size∧vx.ownBlock≠some b) a7 nv vx (.int .i64 c) wv W2 vt' vv tab' rows) (hrl:rows.length≤140737488355328) (hwd:Sl (kFlat 7) (fun b=>S3<b∧b<wA.heap.size) W wv word):
  OwnK kExec 81 wA.heap.size (fun b=>S3<b∧b<W2.heap.size) W2 vx ex∧kExec.rd (fun b=>(S3<b∧b<W2.heap.size)∧vx.ownBlock≠some b) W2 [.int .i64 c,wv,vv] (c,word,rows)∧wA.heap.size≤W2.heap.size∧
  ∀g cp W4,OwnK kExec 81 wA.heap.size (fun b=>S3<b∧b<W2.heap.size) W4 (.slice (some ⟨g,0,none⟩) (ex.length+1) cp) (ex++[(c,word,rows)])→Below wA.heap.size W2 W4→(∀S:Nat→Prop,(∀q,vx.ownBlock=some q→¬S q)→Agree S W2 W4)→(vx.ownBlock=some g∨W2.heap.size≤g)→
   Row W4 S3 35 (a7++[nv,vt',vx])∧BR w wA S3 a7 nv (W4.setCell ⟨S3,9,none⟩ (.slice (some ⟨g,0,none⟩) (ex.length+1) cp)) vt' (.slice (some ⟨g,0,none⟩) (ex.length+1) cp) tab' (ex++[(c,word,rows)]):=by
 have h4:=h.ag.size
 have hBs:wB.heap.size=W.heap.size+1:=by rw[hB];simp
 have h5:=k.ag.size
 have hxl:=h.own.lt
 have AB:Agree (fun _=>True) W wB:=by rw[hB];exact .of_ext (ext_alloc _ _)
 have A2:Agree (fun b=>b<W.heap.size∧b≠S3) W W2:=(AB.mono fun _ _=>trivial).trans (k.ag.mono fun b hb=>⟨by omega,hb.2,by omega⟩)
 have O2:OwnK kExec 81 wA.heap.size (fun b=>S3<b∧b<W2.heap.size) W2 vx ex:=h.own.slot A2 (fun q hq=>⟨(hxl q hq).2,by have:=(hxl q hq).1;omega⟩) (fun b hb=>⟨hb.2,by omega⟩) fun b hb=>⟨hb.1,by omega⟩
 have hvo:=k.vs.lt
 refine ⟨O2,⟨wv,vv,rfl,(hwd.agree (A2.mono fun b hb=>⟨by omega,by omega⟩)).mono fun b hb=>⟨⟨hb.1,by omega⟩,fun e=>by have:=(hxl b e).1;omega⟩,(Lists.of_sl ((k.vs.slS (S:=fun b=>(wB.heap.size≤b∧b<W2.heap.size)) hrl fun q hq=>hvo q hq))).mono fun b hb=>⟨⟨by omega,hb.2⟩,fun e=>by have:=(hxl b e).2;omega⟩⟩,by omega,fun g cp W4 ho hb hag hg=>?_⟩
 have hA:=hag (fun b=>vx.ownBlock≠some b) fun q hq h=>h hq
 have hA9:=setAgree W4 S3 9 (.slice (some ⟨g,0,none⟩) (ex.length+1) cp)
 have R34:=k.r3.agree hA fun e=>by have:=(hxl _ e).1;omega
 have hgo:∀q,(Value.slice (some ⟨g,0,none⟩) (ex.length+1) cp).ownBlock=some q→q=g:=fun q hq=>by have:g=q:=(by simpa[Value.ownBlock] using hq);exact this.symm
 have hgA:wA.heap.size≤g:=by
  rcases hg with e | e
  ·exact (hxl g e).1
  ·omega
 have hs4:=hA.size
 have hs9:=hA9.size
 refine ⟨R34,⟨(k.be.trans (hb.mono (by omega))).setCell (by simpa using h1) _,?_,?_,?_,?_⟩⟩
 ·exact ((h.ag.trans (A2.mono fun b hb=>⟨by omega,hb.2⟩)).trans (hA.mono fun b hb e=>by have:=(hxl b e).1;omega)).trans (hA9.mono fun b hb=>hb.2)
 ·rw[←set_9 h7 nv vt' vx]
  exact R34.set 9 _
 ·refine ((k.tb.blk.agree (hA.mono fun b hb=>?_)).agree (hA9.mono fun b hb=>?_)).mono fun b hb=>?_
  ·rcases hb.1 with h6 | h6
   ·exact h6.2.2
   ·intro e;have:=(hxl b e).2;omega
  ·rcases hb.1 with h6 | h6<;>omega
  ·refine ⟨by rcases hb.1 with h6 | h6<;>omega,by have:=hb.2;omega,fun e=>?_⟩
   have:=hgo b e
   subst this
   rcases hg with e1 | e1
   ·rcases hb.1 with h6 | h6
    ·exact h6.2.2 e1
    ·have:=(hxl b e1).2;omega
   ·have:=hb.2;omega
 ·exact ho.slot hA9 (fun q hq=>by have:=hgo q hq;omega) (fun b hb=>by omega) fun b hb=>⟨hb.1,by omega⟩
end
end Go.Proofs.YtaijafjfafbcfaaGreat
