/- Part of the proof that the laws of chapter 45 answer true for every input. -/
import Derived.Test.YtcopehiceihdaaaGreatPCe24
import Derived.Deep.Cut
set_option linter.unusedSimpArgs false
set_option linter.unnecessarySimpa false
set_option linter.unusedVariables false
set_option maxRecDepth 100000
set_option maxHeartbeats 40000000
namespace Go.Proofs.YtcopehiceihdaaaGreat
open Go.RowKit
theorem set_78 {a7:List Value} (h:a7.length=7) (nv vt vx vt':Value):((a7++[nv,vt,vx]).set 7 nv).set 8 vt'=a7++[nv,vt',vx]:=by
  match a7,h with
  | [a,b,c,d,e,f,g],_=>rfl
theorem set_9 {a7:List Value} (h:a7.length=7) (nv vt vx vx':Value):(a7++[nv,vt,vx]).set 9 vx'=a7++[nv,vt,vx']:=by
  match a7,h with
  | [a,b,c,d,e,f,g],_=>rfl
theorem setAgree (w:World) (g j:Nat) (u:Value):Agree (fun b=>b≠g) w (w.setCell ⟨g,j,none⟩ u):=.of_grown (grownBy_setCell _ _ _ _) fun b hb e=>hb (by cases e;rfl)
theorem Sl.blk {α:Type} {K:Kd α} {S:Nat→Prop} {w:World} {v:Value} {l:List α} (h:Sl K S w v l):Sl K (fun b=>S b∧b<w.heap.size) w v l:=h.block
structure BQ (w wC:World) (S3:Nat) (So:Nat→Prop) (a7:List Value) (nv vx:Value) (W:World) (vt vl:Value) (tab:List (List Int)) (nums:List Int):Prop where
  be:Below w.heap.size w W
  ag:Agree (fun b=>b<wC.heap.size∧b≠S3) wC W
  r3:Row W S3 35 (a7++[nv,vt,vx])
  tb:Sl (kFlat 8) (fun b=>So b∨(wC.heap.size≤b∧b<W.heap.size∧vl.ownBlock≠some b)) W vt tab
  l:Cnts wC.heap.size W vl nums
structure BQs (w wC:World) (S3:Nat) (So:Nat→Prop) (a7:List Value):Prop where
  lo:w.heap.size≤S3
  hi:S3<wC.heap.size
  so:∀b,So b→b<wC.heap.size∧b≠S3
  len:a7.length=7
section
variable {w wC W:World} {S3:Nat} {So:Nat→Prop} {a7:List Value} {nv vx vt vl:Value} {tab:List (List Int)} {nums:List Int}
theorem BQ.next {W4:World} {vt':Value} {tab':List (List Int)} {M:Nat} (s:BQs w wC S3 So a7) (h:BQ w wC S3 So a7 nv vx W vt vl tab nums) (ex:Below W.heap.size W W4) (hM:W.heap.size≤M)
    (hvt:Sl (kFlat 8) (fun b=>(So b∨(wC.heap.size≤b∧b<W.heap.size∧vl.ownBlock≠some b))∨M≤b) W4 vt' tab'):BQ w wC S3 So a7 nv vx ((W4.setCell ⟨S3,7,none⟩ nv).setCell ⟨S3,8,none⟩ vt') vt' vl tab' nums:=by
  have hlo:=s.lo
  have hhi:=s.hi
  have hsz:=h.ag.size
  have hs4:=ex.size
  have hA:=(setAgree W4 S3 7 nv).trans (setAgree (W4.setCell ⟨S3,7,none⟩ nv) S3 8 vt')
  have hlt:=h.l.lt
  refine ⟨((ext_trans h.be ex).setCell (by simpa using hlo) _).setCell (by simpa using hlo) _,(h.ag.trans (.of_ext ex)).trans (hA.mono fun b hb=>hb.2),?_,?_,(h.l.ext ex).agreeT hA fun g hg=>by have:=(hlt g hg).1;omega⟩
  · rw[←set_78 s.len]
    exact ((h.r3.ext ex).set 7 nv).set 8 vt'
  · refine (hvt.blk.mono (S':=fun b=>(So b∨(wC.heap.size≤b∧b<W4.heap.size∧vl.ownBlock≠some b))) fun b hb=>?_).agree (hA.mono fun b hb=>?_) |>.mono fun b hb=>?_
    · rcases hb.1 with (h1 | h1) | h1
      · exact .inl h1
      · exact .inr ⟨h1.1,by omega,h1.2.2⟩
      · exact .inr ⟨by omega,hb.2,fun e=>by have:=(hlt b e).2;omega⟩
    · rcases hb with h1 | h1
      · exact (s.so b h1).2
      · omega
    · rcases hb with h1 | h1
      · exact .inl h1
      · exact .inr ⟨h1.1,Nat.lt_of_lt_of_le h1.2.1 hA.size,h1.2.2⟩
theorem BQ.push {g c:Nat} {w5:World} {x:Int} (s:BQs w wC S3 So a7) (h:BQ w wC S3 So a7 nv vx W vt vl tab nums) (ho:w5.ownsRow wC.heap.size 3 1 (.slice (some ⟨g,0,none⟩) (nums.length+1) c) (nums.length+1) (nums.map (Value.int .i64)++[.int .i64 x]))
    (hb:Below wC.heap.size W w5) (hag:∀S:Nat→Prop,(∀k,vl.ownBlock=some k→¬S k)→Agree S W w5) (hg:vl.ownBlock=some g∨W.heap.size≤g):BQ w wC S3 So a7 nv vx w5 vt (.slice (some ⟨g,0,none⟩) (nums.length+1) c) tab (nums++[x]):=by
  have hlt:=h.l.lt
  have hlo:=s.lo
  have hhi:=s.hi
  have hA:=hag (fun b=>vl.ownBlock≠some b) fun k hk h=>h hk
  have hgo:∀q,(Value.slice (some ⟨g,0,none⟩) (nums.length+1) c).ownBlock=some q→q=g:=fun q hq=>by have:g=q:=(by simpa[Value.ownBlock] using hq);exact this.symm
  refine ⟨h.be.trans (hb.mono (by omega)),h.ag.trans (hA.mono fun b hb e=>by have:=(hlt b e).1;omega),h.r3.agree hA fun e=>by have:=(hlt _ e).1;omega,?_,.snoc ho⟩
  refine (h.tb.blk.agree (hA.mono fun b hb=>?_)).mono fun b hb=>?_
  · rcases hb.1 with h1 | h1
    · intro e;have:=(hlt b e).1;have:=(s.so b h1).1;omega
    · exact h1.2.2
  · rcases hb.1 with h1 | h1
    · exact .inl h1
    · refine .inr ⟨h1.1,Nat.lt_of_lt_of_le h1.2.1 hA.size,fun e=>?_⟩
      have:=hgo b e
      subst this
      rcases hg with e1 | e1
      · exact h1.2.2 e1
      · omega
end
structure BK (w wB:World) (S3 T7:Nat) (So:Nat→Prop) (a7:List Value) (nv vx cv wv:Value) (W:World) (vt vv:Value) (tab rows:List (List Int)):Prop where
  be:Below w.heap.size w W
  ag:Agree (fun b=>b<wB.heap.size∧b≠S3∧b≠T7) wB W
  r3:Row W S3 35 (a7++[nv,vt,vx])
  r7:Row W T7 68 [cv,wv,vv]
  tb:Sl (kFlat 8) (fun b=>So b∨(wB.heap.size≤b∧b<W.heap.size∧vv.ownBlock≠some b)) W vt tab
  vs:OwnK kInts 36 wB.heap.size (fun b=>wB.heap.size≤b∧b<W.heap.size) W vv rows
structure BKs (w wB:World) (S3 T7:Nat) (So:Nat→Prop) (a7:List Value):Prop where
  lo:w.heap.size≤S3
  mid:S3<T7
  hi:T7<wB.heap.size
  so:∀b,So b→b<T7∧b≠S3
  len:a7.length=7
section
variable {w wB W:World} {S3 T7:Nat} {So:Nat→Prop} {a7:List Value} {nv vx cv wv vt vv:Value} {tab rows:List (List Int)}
theorem BK.enter (s:BKs w wB S3 T7 So a7) (h:BK w wB S3 T7 So a7 nv vx cv wv W vt vv tab rows):
    BQs w W S3 (fun b=>So b∨(wB.heap.size≤b∧b<W.heap.size∧vv.ownBlock≠some b)) a7∧BQ w W S3 (fun b=>So b∨(wB.heap.size≤b∧b<W.heap.size∧vv.ownBlock≠some b)) a7 nv vx W vt (.slice none 0 0) tab []:=by
  have h1:=s.lo;have h2:=s.mid;have h3:=s.hi;have h4:=h.ag.size
  refine ⟨⟨h1,by omega,fun b hb=>?_,s.len⟩,⟨h.be,.refl _ _,h.r3,h.tb.mono fun b hb=>.inl hb,World.ownsRow_nil _ _ _ _⟩⟩
  rcases hb with h5 | h5
  · have:=s.so b h5;omega
  · omega
theorem BK.done {W2:World} {vt' vl:Value} {tab':List (List Int)} {nums:List Int} (s:BKs w wB S3 T7 So a7) (h:BK w wB S3 T7 So a7 nv vx cv wv W vt vv tab rows)
    (q:BQ w W S3 (fun b=>So b∨(wB.heap.size≤b∧b<W.heap.size∧vv.ownBlock≠some b)) a7 nv vx W2 vt' vl tab' nums) (hw:∀x∈nums,WF x):
    Row W2 T7 68 [cv,wv,vv]∧OwnK kInts 36 wB.heap.size (fun b=>wB.heap.size≤b∧b<W2.heap.size) W2 vv rows∧kInts.rd (fun b=>(wB.heap.size≤b∧b<W2.heap.size)∧vv.ownBlock≠some b) W2 [vl] nums∧wB.heap.size≤W2.heap.size∧
    ∀g c W4,OwnK kInts 36 wB.heap.size (fun b=>wB.heap.size≤b∧b<W2.heap.size) W4 (.slice (some ⟨g,0,none⟩) (rows.length+1) c) (rows++[nums])→Below wB.heap.size W2 W4→(∀S:Nat→Prop,(∀k,vv.ownBlock=some k→¬S k)→Agree S W2 W4)→(vv.ownBlock=some g∨W2.heap.size≤g)→
      Row W4 T7 68 [cv,wv,vv]∧BK w wB S3 T7 So a7 nv vx cv wv (W4.setCell ⟨T7,2,none⟩ (.slice (some ⟨g,0,none⟩) (rows.length+1) c)) vt' (.slice (some ⟨g,0,none⟩) (rows.length+1) c) tab' (rows++[nums]):=by
  have h1:=s.lo;have h2:=s.mid;have h3:=s.hi;have h4:=h.ag.size;have h5:=q.ag.size
  have hvl:=h.vs.lt
  have R7:=h.r7.agree q.ag ⟨by omega,by omega⟩
  have O2:OwnK kInts 36 wB.heap.size (fun b=>wB.heap.size≤b∧b<W2.heap.size) W2 vv rows:=h.vs.slot q.ag (fun k hk=>⟨(hvl k hk).2,by have:=(hvl k hk).1;omega⟩) (fun b hb=>⟨hb.2,by omega⟩) fun b hb=>⟨hb.1,by omega⟩
  refine ⟨R7,O2,⟨vl,rfl,((q.l.read hw).block 0).mono fun b hb=>⟨⟨by omega,hb.2⟩,fun e=>by have:=(hvl b e).2;omega⟩⟩,by omega,fun g c W4 ho hb hag hg=>?_⟩
  have hA:=hag (fun b=>vv.ownBlock≠some b) fun k hk h=>h hk
  have hA7:=setAgree W4 T7 2 (.slice (some ⟨g,0,none⟩) (rows.length+1) c)
  have R74:=R7.agree hA fun e=>by have:=(hvl _ e).1;omega
  have hgo:∀k,(Value.slice (some ⟨g,0,none⟩) (rows.length+1) c).ownBlock=some k→k=g:=fun k hk=>by have:g=k:=(by simpa[Value.ownBlock] using hk);exact this.symm
  have hgB:wB.heap.size≤g:=by
    rcases hg with e | e
    · exact (hvl g e).1
    · omega
  have hs4:=hA.size
  have hs7:=hA7.size
  refine ⟨R74,⟨(q.be.trans (hb.mono (by omega))).setCell (by simp;omega) _,?_,?_,R74.set 2 _,?_,?_⟩⟩
  · refine ((h.ag.trans (q.ag.mono fun b hb=>⟨by omega,hb.2.1⟩)).trans (hA.mono fun b hb e=>by have:=(hvl b e).1;omega)).trans (hA7.mono fun b hb=>hb.2.2)
  · exact (q.r3.agree hA fun e=>by have:=(hvl _ e).1;omega).agree hA7 (by omega)
  · refine ((q.tb.blk.agree (hA.mono fun b hb=>?_)).agree (hA7.mono fun b hb=>?_)).mono fun b hb=>?_
    · rcases hb.1 with (h6 | h6) | h6
      · intro e;have:=(hvl b e).1;have:=(s.so b h6).1;omega
      · exact h6.2.2
      · intro e;have:=(hvl b e).2;omega
    · rcases hb.1 with (h6 | h6) | h6
      · have:=s.so b h6;omega
      · omega
      · omega
    · rcases hb.1 with (h6 | h6) | h6
      · exact .inl h6
      · refine .inr ⟨h6.1,by omega,fun e=>?_⟩
        have:=hgo b e
        subst this
        rcases hg with e1 | e1
        · exact h6.2.2 e1
        · omega
      · refine .inr ⟨by omega,by omega,fun e=>?_⟩
        have:=hgo b e
        subst this
        rcases hg with e1 | e1
        · have:=(hvl b e1).2;omega
        · have:=hb.2;omega
  · exact ho.slot hA7 (fun k hk=>by have:=hgo k hk;omega) (fun b hb=>by omega) fun b hb=>⟨hb.1,by omega⟩
end
structure BR (w wA:World) (S3:Nat) (a7:List Value) (nv:Value) (W:World) (vt vx:Value) (tab:List (List Int)) (ex:List ExecD):Prop where
  be:Below w.heap.size w W
  ag:Agree (fun b=>b<wA.heap.size∧b≠S3) wA W
  r3:Row W S3 35 (a7++[nv,vt,vx])
  tb:Sl (kFlat 8) (fun b=>wA.heap.size≤b∧b<W.heap.size∧vx.ownBlock≠some b) W vt tab
  own:OwnK kExec 68 wA.heap.size (fun b=>S3<b∧b<W.heap.size) W vx ex
section
variable {w wA W:World} {S3:Nat} {a7:List Value} {nv vt vx:Value} {tab:List (List Int)} {ex:List ExecD}
theorem BR.enter (h1:w.heap.size≤S3) (h2:S3<wA.heap.size) (h7:a7.length=7) (h:BR w wA S3 a7 nv W vt vx tab ex) (cv wv:Value):
    BKs w (W.alloc (.cells #[cv,wv,.slice none 0 0] 68)) S3 W.heap.size (fun b=>wA.heap.size≤b∧b<W.heap.size∧vx.ownBlock≠some b) a7∧
    BK w (W.alloc (.cells #[cv,wv,.slice none 0 0] 68)) S3 W.heap.size (fun b=>wA.heap.size≤b∧b<W.heap.size∧vx.ownBlock≠some b) a7 nv vx cv wv (W.alloc (.cells #[cv,wv,.slice none 0 0] 68)) vt (.slice none 0 0) tab []:=by
  have h4:=h.ag.size
  exact ⟨⟨h1,by omega,by simp,fun b hb=>⟨hb.2.1,by omega⟩,h7⟩,⟨ext_alloc' h.be _,.refl _ _,h.r3.alloc _,row_new W [cv,wv,.slice none 0 0] _,(h.tb.ext (ext_alloc _ _)).mono fun b hb=>.inl hb,OwnK.nil _ _ _ _ _⟩⟩
theorem BR.done {wB W2:World} {vt' vv wv:Value} {tab' rows:List (List Int)} {word:List (List Int)} {c:Int} (h1:w.heap.size≤S3) (h2:S3<wA.heap.size) (h7:a7.length=7) (h:BR w wA S3 a7 nv W vt vx tab ex) (hB:wB=W.alloc (.cells #[.int .i64 c,wv,.slice none 0 0] 68))
    (k:BK w wB S3 W.heap.size (fun b=>wA.heap.size≤b∧b<W.heap.size∧vx.ownBlock≠some b) a7 nv vx (.int .i64 c) wv W2 vt' vv tab' rows) (hrl:rows.length≤140737488355328) (hwd:Sl (kFlat 7) (fun b=>S3<b∧b<wA.heap.size) W wv word):
    OwnK kExec 68 wA.heap.size (fun b=>S3<b∧b<W2.heap.size) W2 vx ex∧kExec.rd (fun b=>(S3<b∧b<W2.heap.size)∧vx.ownBlock≠some b) W2 [.int .i64 c,wv,vv] (c,word,rows)∧wA.heap.size≤W2.heap.size∧
    ∀g cp W4,OwnK kExec 68 wA.heap.size (fun b=>S3<b∧b<W2.heap.size) W4 (.slice (some ⟨g,0,none⟩) (ex.length+1) cp) (ex++[(c,word,rows)])→Below wA.heap.size W2 W4→(∀S:Nat→Prop,(∀q,vx.ownBlock=some q→¬S q)→Agree S W2 W4)→(vx.ownBlock=some g∨W2.heap.size≤g)→
      Row W4 S3 35 (a7++[nv,vt',vx])∧BR w wA S3 a7 nv (W4.setCell ⟨S3,9,none⟩ (.slice (some ⟨g,0,none⟩) (ex.length+1) cp)) vt' (.slice (some ⟨g,0,none⟩) (ex.length+1) cp) tab' (ex++[(c,word,rows)]):=by
  have h4:=h.ag.size
  have hBs:wB.heap.size=W.heap.size+1:=by rw[hB];simp
  have h5:=k.ag.size
  have hxl:=h.own.lt
  have AB:Agree (fun _=>True) W wB:=by rw[hB];exact .of_ext (ext_alloc _ _)
  have A2:Agree (fun b=>b<W.heap.size∧b≠S3) W W2:=(AB.mono fun _ _=>trivial).trans (k.ag.mono fun b hb=>⟨by omega,hb.2,by omega⟩)
  have O2:OwnK kExec 68 wA.heap.size (fun b=>S3<b∧b<W2.heap.size) W2 vx ex:=h.own.slot A2 (fun q hq=>⟨(hxl q hq).2,by have:=(hxl q hq).1;omega⟩) (fun b hb=>⟨hb.2,by omega⟩) fun b hb=>⟨hb.1,by omega⟩
  have hvo:=k.vs.lt
  refine ⟨O2,⟨wv,vv,rfl,(hwd.agree (A2.mono fun b hb=>⟨by omega,by omega⟩)).mono fun b hb=>⟨⟨hb.1,by omega⟩,fun e=>by have:=(hxl b e).1;omega⟩,(Lists.of_sl ((k.vs.slS (S:=fun b=>(wB.heap.size≤b∧b<W2.heap.size)) hrl fun q hq=>hvo q hq))).mono fun b hb=>⟨⟨by omega,hb.2⟩,fun e=>by have:=(hxl b e).2;omega⟩⟩,by omega,fun g cp W4 ho hb hag hg=>?_⟩
  have hA:=hag (fun b=>vx.ownBlock≠some b) fun q hq h=>h hq
  have hA9:=setAgree W4 S3 9 (.slice (some ⟨g,0,none⟩) (ex.length+1) cp)
  have R34:=k.r3.agree hA fun e=>by have:=(hxl _ e).1;omega
  have hgo:∀q,(Value.slice (some ⟨g,0,none⟩) (ex.length+1) cp).ownBlock=some q→q=g:=fun q hq=>by have:g=q:=(by simpa[Value.ownBlock] using hq);exact this.symm
  have hgA:wA.heap.size≤g:=by
    rcases hg with e | e
    · exact (hxl g e).1
    · omega
  have hs4:=hA.size
  have hs9:=hA9.size
  refine ⟨R34,⟨(k.be.trans (hb.mono (by omega))).setCell (by simpa using h1) _,?_,?_,?_,?_⟩⟩
  · exact ((h.ag.trans (A2.mono fun b hb=>⟨by omega,hb.2⟩)).trans (hA.mono fun b hb e=>by have:=(hxl b e).1;omega)).trans (hA9.mono fun b hb=>hb.2)
  · rw[←set_9 h7 nv vt' vx]
    exact R34.set 9 _
  · refine ((k.tb.blk.agree (hA.mono fun b hb=>?_)).agree (hA9.mono fun b hb=>?_)).mono fun b hb=>?_
    · rcases hb.1 with h6 | h6
      · exact h6.2.2
      · intro e;have:=(hxl b e).2;omega
    · rcases hb.1 with h6 | h6<;>omega
    · refine ⟨by rcases hb.1 with h6 | h6<;>omega,by have:=hb.2;omega,fun e=>?_⟩
      have:=hgo b e
      subst this
      rcases hg with e1 | e1
      · rcases hb.1 with h6 | h6
        · exact h6.2.2 e1
        · have:=(hxl b e1).2;omega
      · have:=hb.2;omega
  · exact ho.slot hA9 (fun q hq=>by have:=hgo q hq;omega) (fun b hb=>by omega) fun b hb=>⟨hb.1,by omega⟩
end
end Go.Proofs.YtcopehiceihdaaaGreat
namespace Go.Proofs.YtcopehiceihdaaaGreat
open Go.RowKit
attribute [local go_sem ↓] Go.wp_at_zero Go.wp_at_succ
def zzRT (N:Nat) (cs:List CaseD) (ws:List (List (List Int))) (c j:Nat):List (List Int)×List ExecD:=runE N cs ((pairsIT ws.length c++(List.range j).map fun j=>(c,j)).map fun x=>(x.1,nthW ws x.2))
end Go.Proofs.YtcopehiceihdaaaGreat
namespace Go.Proofs.YtcopehiceihdaaaGreat
open Go.RowKit
attribute [local go_sem ↓] Go.wp_at_zero Go.wp_at_succ
end Go.Proofs.YtcopehiceihdaaaGreat
namespace Go.Proofs.YtcopehiceihdaaaGreat
open Go.RowKit
attribute [local go_sem ↓] Go.wp_at_zero Go.wp_at_succ
theorem num_test {p:ProbD} (h:1≤p.cs.length):4096<p.cs.length * cutW p.st p.rounds.toNat 4096 0↔4096<p.num:=by
  unfold ProbD.num
  by_cases hc:4096<cntW p.st p.rounds.toNat 0
  · have h1:=cutW_gt.2 hc
    have h2:=Nat.mul_le_mul_right (cutW p.st p.rounds.toNat 4096 0) h
    have h3:=Nat.mul_le_mul_right (cntW p.st p.rounds.toNat 0) h
    omega
  · rw[cutW_eq hc]
end Go.Proofs.YtcopehiceihdaaaGreat
namespace Go.Proofs.YtcopehiceihdaaaGreat
open Go.RowKit
attribute [local go_sem ↓] Go.wp_at_zero Go.wp_at_succ
end Go.Proofs.YtcopehiceihdaaaGreat
namespace Go.Proofs.YtcopehiceihdaaaGreat
open Go.RowKit
attribute [local go_sem ↓] Go.wp_at_zero Go.wp_at_succ
def Tells (Q:Prop) (r:Value):Prop:=∃b:Bool,r=.bool b∧(b=true→Q)
theorem Tells.no {Q:Prop}:Tells Q (.bool false):=⟨false,rfl,fun h=>by cases h⟩
theorem Tells.yes {Q:Prop} (h:Q):Tells Q (.bool true):=⟨true,rfl,fun _=>h⟩
def VecsFew (most:Nat) (l:List (List Int)):Prop:=l.length≤most∧∀r∈l,r.length≤10
def CaseFew (c:CaseD):Prop:=c.inn.length≤10∧VecsFew 30 c.out∧VecsFew 30 c.calm
def TaskFew (l:List CaseD):Prop:=l.length≤30∧∀k,k<l.length→CaseFew (nthC l k)
structure FewP (p:ProbD):Prop where
  t:TaskFew p.cs
  a:fewA p.st=true
  n:¬(3<p.n∧p.n≤5)
  m:checkPr p=0→p.num≤60∨4096<p.num
theorem mem_nthL {l:List (List Int)} {r:List Int} (h:r∈l):∃k,k<l.length∧nthL l k=r:=by
  obtain ⟨k,hk,rfl⟩:=List.getElem_of_mem h
  exact ⟨k,hk,nthL_eq hk⟩
theorem moves_row {st:Moves} {k:Nat} (h:k<st.length):(nthM st k).length≤movesN st:=by
  have h1:(pairsTo st st.length).length=movesN st:=by rw[pairsTo_all,length_pairsM]
  have h2:=pairsTo_prefix (st:=st) (k:=k) (j:=(nthM st k).length) h
  have h3:=h2.length_le
  rw[length_pairsM,List.length_append,List.length_map,List.length_take]at h3
  omega
theorem FewP.few {p:ProbD} (h:FewP p):PFew p:=by
  have ha:p.st.length≤8∧movesN p.st≤40:=by
    have:=h.a
    unfold fewA at this
    simpa using this
  refine ⟨⟨by have:=h.t.1;omega,fun k hk=>?_,by omega,fun k hk=>by have:=moves_row hk;omega⟩,by omega,fun hz hn=>?_⟩
  · obtain ⟨h1,h2,h3⟩:=h.t.2 k hk
    exact ⟨by omega,by have:=h2.1;omega,by have:=h3.1;omega,fun r hr=>by have:=h2.2 r hr;omega,fun r hr=>by have:=h3.2 r hr;omega⟩
  · refine ⟨by rcases h.m hz with h1 | h1<;>omega,?_⟩
    obtain ⟨N,hok⟩:=probOK hz
    have:=hok.n
    have:=hok.n1
    have:=h.n
    omega
structure FewS (s:SysF):Prop where
  p:FewP s.p
  t:s.tab.length≤600
  x:s.ex.length≤70
  e:∀k,k<s.ex.length→(nthX s.ex k).word.length≤10∧VecsFew 10 (nthX s.ex k).vs
theorem fewV_calls {S:Nat→Prop} {w:World} {v:Value} {l:List (List Int)} (h:Lists S w v l) (most:Nat):
    Calls Tryz.prog 99 #[v,.int .i64 most] w (Post w fun _ r=>Tells (VecsFew most l) r):=by
  obtain ⟨a,c,rfl,ad,hle,hm⟩:=h.form
  unfold maxLen at hm
  have HL:=Lib.hid h
  obtain ⟨i0,hi,_,hz1,_⟩:=info_parts info_ints
  have Q:=Lib.hid (idx_one Tryz.underlying66 hi hz1 ad)
  clear h hi hz1 ad
  by_cases hlen:most<l.length
  · have d1:decide ((most:Int)<(l.length:Int))=true:=decide_eq_true (by omega)
    go_enter Tryz.func99,Tryz.ntmps99
    go_wp2
    go_ret
    exact .same .no
  have d1:decide ((most:Int)<(l.length:Int))=false:=decide_eq_false (by omega)
  go_enter Tryz.func99,Tryz.ntmps99
  go_wp2
  go_loopw [5] (fun i wr=>∃k:Nat,k≤l.length∧i=.int .i64 k∧Below w.heap.size w wr∧Hid (∀j,j<k→(nthL l j).length≤10)) (fun i _=>l.length - (intOf i).toNat)
  case atStart=>exact ⟨0,Nat.zero_le _,rfl,.refl _ _,Lib.hid fun j hj=>by omega⟩
  case round=>
    obtain ⟨k,hk,rfl,hb,H⟩:=hrel
    by_cases hlt:k<l.length
    case neg=>
      have HF:Hid (VecsFew most l):=Lib.hid ⟨by omega,fun r hr=>by obtain ⟨j,hj,rfl⟩:=mem_nthL hr;exact H.out j (by omega)⟩
      go_wp2
      go_ret
      exact .mk hb (.yes HF.out)
    have q:=Q.out k hlt
    obtain ⟨u,cu,iu⟩:=HL.out.at hb hlt
    have bu:=World.block_lt_of_cell? _ _ cu
    obtain ⟨ua,uc,rfl,_⟩:=iu.form
    obtain ⟨n,hn⟩:∃n,n=(nthL l k).length:=⟨_,rfl⟩
    rw[←hn]at cu
    have HN:=Lib.hid hn
    clear hn iu
    by_cases h10:10<n
    · go_wp2
      go_ret
      exact .mk hb .no
    · have HX:Hid (∀j,j<k+1→(nthL l j).length≤10):=Lib.hid fun j hj=>by
        by_cases e:j=k
        · rw[e,←HN.out];omega
        · exact H.out j (by omega)
      go_wp2
      go_roundw
      case rel=>exact ⟨k+1,by omega,by go_num,hb,HX⟩
      case measure=>simp[intOf];omega
theorem fewT_calls {S:Nat→Prop} {w:World} {vc:Value} {cs:List CaseD} (n ins outs:Int) (h:Sl kCase S w vc cs):
    Calls Tryz.prog 70 #[.agg #[.int .i64 n,.int .i64 ins,.int .i64 outs,vc]] w (Post w fun _ r=>Tells (TaskFew cs) r):=by
  obtain ⟨ca,cc,rfl,ad,_⟩:=h.form2
  have hfw:=h.few
  have H1:=Lib.hid h
  obtain ⟨i0,hi,_,hz1,_⟩:=info_parts info_caseB
  have Q1:=Lib.hid (idx_wide Tryz.underlying22 hi hz1 ad)
  clear h hi hz1 ad
  have ex:=ext_alloc w (.cells #[.int .i64 n,.int .i64 ins,.int .i64 outs,.slice ca cs.length cc] 24)
  have R1:=row_new w [.int .i64 n,.int .i64 ins,.int .i64 outs,.slice ca cs.length cc] 24
  have t3:=R1.cell (j:=3) rfl
  by_cases hlen:30<cs.length
  · go_enter Tryz.func70,Tryz.ntmps70
    go_wp2
    go_ret
    exact .mk ex .no
  go_enter Tryz.func70,Tryz.ntmps70
  go_wp2
  clear t3
  go_loopw [3,4] (fun i _ wr=>∃k:Nat,k≤cs.length∧i=.int .i64 k∧Below w.heap.size w wr∧Row wr w.heap.size 24 [.int .i64 n,.int .i64 ins,.int .i64 outs,.slice ca cs.length cc]∧Hid (∀j,j<k→CaseFew (nthC cs j))) (fun i _ _=>cs.length - (intOf i).toNat)
  case atStart=>exact ⟨0,Nat.zero_le _,rfl,ex,R1,Lib.hid fun j hj=>by omega⟩
  case round=>
    clear ex R1
    obtain ⟨k,hk,rfl,hb,R1,H⟩:=hrel
    have t3:=R1.cell (j:=3) rfl
    have l1:=R1.lt
    by_cases hlt:k<cs.length
    case neg=>
      have HF:Hid (TaskFew cs):=Lib.hid ⟨by omega,fun j hj=>H.out j (by omega)⟩
      go_wp2
      go_ret
      exact .mk hb (.yes HF.out)
    have q1:=Q1.out k hlt
    obtain ⟨x1,x2,x3,z1,z2,z3,i1,i2,i3⟩:=(H1.out.ext hb).case hlt
    have b1:=World.block_lt_of_cell? _ _ z1
    obtain ⟨xa1,xc1,rfl,_⟩:=i1.form
    obtain ⟨xa2,xc2,rfl,_⟩:=i2.form
    obtain ⟨xa3,xc3,rfl,_⟩:=i3.form
    have KV1:Hid (∀W,Below wr.heap.size wr W→Calls Tryz.prog 99 #[.slice xa2 (nthC cs k).out.length xc2,.int .i64 30] W (Post W fun _ r=>Tells (VecsFew 30 (nthC cs k).out) r)):=Lib.hid fun W hW=>fewV_calls (i2.ext hW) 30
    have KV2:Hid (∀W,Below wr.heap.size wr W→Calls Tryz.prog 99 #[.slice xa3 (nthC cs k).calm.length xc3,.int .i64 30] W (Post W fun _ r=>Tells (VecsFew 30 (nthC cs k).calm) r)):=Lib.hid fun W hW=>fewV_calls (i3.ext hW) 30
    obtain ⟨cd,hcd⟩:∃cd,cd=nthC cs k:=⟨_,rfl⟩
    rw[←hcd]at z1 z2 z3 KV1 KV2
    obtain ⟨n1,hn1⟩:∃n,n=cd.inn.length:=⟨_,rfl⟩
    obtain ⟨n2,hn2⟩:∃n,n=cd.out.length:=⟨_,rfl⟩
    obtain ⟨n3,hn3⟩:∃n,n=cd.calm.length:=⟨_,rfl⟩
    rw[←hn1]at z1
    rw[←hn2]at z2 KV1
    rw[←hn3]at z3 KV2
    have HCD:=Lib.hid (And.intro hcd hn1)
    have RX:=row_new wr [.slice xa1 n1 xc1,.slice xa2 n2 xc2,.slice xa3 n3 xc3] 119
    have hx:=ext_alloc wr (.cells #[.slice xa1 n1 xc1,.slice xa2 n2 xc2,.slice xa3 n3 xc3] 119)
    have R1b:=R1.alloc (.cells #[.slice xa1 n1 xc1,.slice xa2 n2 xc2,.slice xa3 n3 xc3] 119)
    clear hcd hn1 hn2 hn3 i1 i2 i3
    have y0:=RX.cell (j:=0) rfl
    have y1:=RX.cell (j:=1) rfl
    by_cases h10:10<n1
    · go_wp2
      go_ret
      exact .mk (ext_trans hb hx) .no
    go_wp2_with fail
    refine (KV1.out _ hx).mono ?_
    rintro _ w2 ⟨_,rfl,hb2,b,rfl,hbt⟩
    replace RX:=RX.ext hb2
    replace R1b:=R1b.ext hb2
    replace hx:=ext_trans hx hb2
    have HBT:=Lib.hid hbt
    clear t3 l1 q1 z1 z2 z3 b1 y0 y1 hb2 KV1 hbt
    cases b with
    | false=>
      go_wp2
      go_ret
      exact .mk (ext_trans hb hx) .no
    | true=>
      have y2:=RX.cell (j:=2) rfl
      go_wp2_with fail
      refine (KV2.out _ hx).mono ?_
      rintro _ w3 ⟨_,rfl,hb3,b,rfl,hbt⟩
      replace R1b:=R1b.ext hb3
      replace hx:=ext_trans hx hb3
      have HBT2:=Lib.hid hbt
      have hbx:=ext_trans hb hx
      clear y2 hb3 KV2 hbt hx hb R1
      cases b with
      | false=>
        go_wp2
        go_ret
        exact .mk hbx .no
      | true=>
        have HX:Hid (∀j,j<k+1→CaseFew (nthC cs j)):=Lib.hid fun j hj=>by
          by_cases e:j=k
          · rw[e,←HCD.out.1];exact ⟨by rw[←HCD.out.2];omega,HBT.out (by simp),HBT2.out (by simp)⟩
          · exact H.out j (by omega)
        go_wp2
        go_roundw
        case rel=>exact ⟨k+1,by omega,by go_num,hbx,R1b,HX⟩
        case measure=>simp[intOf];omega
theorem num_few {p:ProbD} (h:1≤p.cs.length) (hx:p.cs.length * cutW p.st p.rounds.toNat 4096 0≤60):p.num≤60:=by
  unfold ProbD.num
  by_cases hc:4096<cntW p.st p.rounds.toNat 0
  · have h1:=cutW_gt.2 hc
    have h2:=Nat.mul_le_mul_right (cutW p.st p.rounds.toNat 4096 0) h
    omega
  · rw[←cutW_eq hc];exact hx
theorem fewP_calls {S S':Nat→Prop} {w:World} {vc vs:Value} {p:ProbD} (hc:Sl kCase S w vc p.cs) (hs:Sl (kSl (kFlat 8)) S' w vs p.st):
    Calls Tryz.prog 36 #[.agg #[.int .i64 p.n,.int .i64 p.ins,.int .i64 p.outs,vc,.int .i64 p.an,vs,.int .i64 p.rounds]] w (Post w fun _ r=>Tells (FewP p) r):=by
  obtain ⟨ca,cc,rfl,_⟩:=hc.form
  obtain ⟨sa,sc,rfl,_⟩:=hs.form
  have KT:Hid (∀W,Below w.heap.size w W→Calls Tryz.prog 70 #[.agg #[.int .i64 p.n,.int .i64 p.ins,.int .i64 p.outs,.slice ca p.cs.length cc]] W (Post W fun _ r=>Tells (TaskFew p.cs) r)):=Lib.hid fun W hW=>fewT_calls _ _ _ (hc.ext hW)
  have KA:Hid (∀W,Below w.heap.size w W→Calls Tryz.prog 71 #[.agg #[.int .i64 p.an,.slice sa p.st.length sc]] W (Post W fun _ r=>r=.bool (fewA p.st))):=Lib.hid fun W hW=>rfewA_calls _ (hs.ext hW)
  have KC:Hid (∀W,Below w.heap.size w W→Calls Tryz.prog 72 #[.agg #[.int .i64 p.n,.int .i64 p.ins,.int .i64 p.outs,.slice ca p.cs.length cc,.int .i64 p.an,.slice sa p.st.length sc,.int .i64 p.rounds]] W (Post W fun _ r=>r=.int .i64 (checkPr p))):=Lib.hid fun W hW=>rcheckPr_calls (hc.ext hW) (hs.ext hW)
  have KN:Hid (checkPr p=0→∀W,Below w.heap.size w W→Calls Tryz.prog 73 #[.agg #[.int .i64 p.n,.int .i64 p.ins,.int .i64 p.outs,.slice ca p.cs.length cc,.int .i64 p.an,.slice sa p.st.length sc,.int .i64 p.rounds],.int .i64 4096] W (Post W fun _ r=>r=.int .i64 (p.cs.length * cutW p.st p.rounds.toNat 4096 0:Nat))):=Lib.hid fun hz W hW=>rnumber_calls (hc.ext hW) (hs.ext hW) hz 4096 (by omega)
  have ex:=ext_alloc w (.cells #[.int .i64 p.n,.int .i64 p.ins,.int .i64 p.outs,.slice ca p.cs.length cc,.int .i64 p.an,.slice sa p.st.length sc,.int .i64 p.rounds] 29)
  have R1:=row_new w [.int .i64 p.n,.int .i64 p.ins,.int .i64 p.outs,.slice ca p.cs.length cc,.int .i64 p.an,.slice sa p.st.length sc,.int .i64 p.rounds] 29
  obtain ⟨e1,he1⟩:∃e,e=checkPr p:=⟨_,rfl⟩
  rw[←he1]at KC
  have HE1:=Lib.hid he1
  obtain ⟨fa,hfa⟩:∃fa,fa=fewA p.st:=⟨_,rfl⟩
  rw[←hfa]at KA
  have HFA:=Lib.hid hfa
  clear hc hs he1 hfa
  go_enter Tryz.func36,Tryz.ntmps36
  go_wp2_with fail
  refine (KT.out _ ex).mono ?_
  rintro _ w1 ⟨_,rfl,hb1,b,rfl,hbt⟩
  replace R1:=R1.ext hb1
  replace ex:=ext_trans ex hb1
  have HBT:=Lib.hid hbt
  clear hb1 KT hbt
  cases b with
  | false=>
    go_wp2
    go_ret
    exact .mk ex .no
  | true=>
    have HT:Hid (TaskFew p.cs):=Lib.hid (HBT.out (by simp))
    have c4:=R1.cell (j:=4) rfl
    have c5:=R1.cell (j:=5) rfl
    clear HBT
    go_wp2_with fail
    refine (KA.out _ ex).mono ?_
    rintro _ w2 ⟨_,rfl,hb2,rfl⟩
    replace R1:=R1.ext hb2
    replace ex:=ext_trans ex hb2
    clear c4 c5 hb2 KA
    cases fa with
    | false=>
      go_wp2
      go_ret
      exact .mk ex .no
    | true=>
      have c0:=R1.cell (j:=0) rfl
      have c1:=R1.cell (j:=1) rfl
      have c2:=R1.cell (j:=2) rfl
      have c3:=R1.cell (j:=3) rfl
      have c4:=R1.cell (j:=4) rfl
      have c5:=R1.cell (j:=5) rfl
      have c6:=R1.cell (j:=6) rfl
      have lR:=R1.lt
      obtain ⟨n,hn⟩:∃n,n=p.n:=⟨_,rfl⟩
      have HNN:=Lib.hid hn
      by_cases h3:3<p.n∧p.n≤5
      · obtain ⟨h31,h32⟩:=h3
        clear hn
        go_wp2
        go_ret
        exact .mk ex .no
      have HN3:=Lib.hid h3
      have fin:∀(Q:World→Prop),(3<p.n→¬p.n≤5→Q w)→(¬3<p.n→Q w)→Q w:=fun Q h1 h2=>by
        by_cases h:3<p.n
        · exact h1 h fun h'=>h3 ⟨h,h'⟩
        · exact h2 h
      clear h3 fin hn
      by_cases h3:3<p.n
      · have h5:¬p.n≤5:=fun h=>HN3.out ⟨h3,h⟩
        go_wp2_with fail
        refine (KC.out _ ex).mono ?_
        rintro _ w3 ⟨_,rfl,hb3,rfl⟩
        replace ex:=ext_trans ex hb3
        clear c0 c1 c2 c3 c4 c5 c6 lR KC hb3
        by_cases h1:e1=0
        · exfalso
          obtain ⟨N,hok⟩:=probOK (show checkPr p=0 by rw[←HE1.out];exact h1)
          have:=hok.n;have:=hok.n1;omega
        · have d1:(e1 !=0)=true:=by simp[h1]
          have HF:Hid (FewP p):=Lib.hid ⟨HT.out,HFA.out.symm,HN3.out,fun h=>absurd (by rw[HE1.out];exact h) h1⟩
          clear h1
          go_wp2
          go_ret
          exact .mk ex (.yes HF.out)
      · go_wp2_with fail
        refine (KC.out _ ex).mono ?_
        rintro _ w3 ⟨_,rfl,hb3,rfl⟩
        replace R1:=R1.ext hb3
        replace ex:=ext_trans ex hb3
        clear c0 c1 c2 c3 c4 c5 c6 lR KC hb3
        by_cases h1:e1=0
        case neg=>
          have d1:(e1 !=0)=true:=by simp[h1]
          have HF:Hid (FewP p):=Lib.hid ⟨HT.out,HFA.out.symm,HN3.out,fun h=>absurd (by rw[HE1.out];exact h) h1⟩
          clear h1
          go_wp2
          go_ret
          exact .mk ex (.yes HF.out)
        have HZ:Hid (checkPr p=0):=Lib.hid (by rw[←HE1.out];exact h1)
        have d1:(e1 !=0)=false:=by simp[h1]
        clear h1
        have c0:=R1.cell (j:=0) rfl
        have c1:=R1.cell (j:=1) rfl
        have c2:=R1.cell (j:=2) rfl
        have c3:=R1.cell (j:=3) rfl
        have c4:=R1.cell (j:=4) rfl
        have c5:=R1.cell (j:=5) rfl
        have c6:=R1.cell (j:=6) rfl
        have lR:=R1.lt
        go_wp2_with fail
        refine (KN.out HZ.out _ ex).mono ?_
        rintro _ w4 ⟨_,rfl,hb4,rfl⟩
        replace ex:=ext_trans ex hb4
        clear c0 c1 c2 c3 c4 c5 c6 lR KN hb4 d1
        have hcl:1≤p.cs.length:=by obtain ⟨N,hok⟩:=probOK HZ.out;exact hok.c1.1
        have htest:=num_test (p:=p) hcl
        have hfew:=num_few (p:=p) hcl
        obtain ⟨q,hq⟩:∃q,q=p.cs.length * cutW p.st p.rounds.toNat 4096 0:=⟨_,rfl⟩
        rw[←hq]at htest hfew ⊢
        have HTE:=Lib.hid (And.intro htest hfew)
        clear hq htest hfew
        by_cases h60:q≤60
        · have HF:Hid (FewP p):=Lib.hid ⟨HT.out,HFA.out.symm,HN3.out,fun _=>.inl (HTE.out.2 h60)⟩
          have g1:decide ((q:Int)≤60)=true:=decide_eq_true (by omega)
          go_wp2
          go_ret
          exact .mk ex (.yes HF.out)
        · have g1:decide ((q:Int)≤60)=false:=decide_eq_false (by omega)
          by_cases h40:4096<q
          · have HF:Hid (FewP p):=Lib.hid ⟨HT.out,HFA.out.symm,HN3.out,fun _=>.inr (HTE.out.1.1 h40)⟩
            have g2:decide ((4096:Int)<(q:Int))=true:=decide_eq_true (by omega)
            go_wp2
            go_ret
            exact .mk ex (.yes HF.out)
          · have g2:decide ((4096:Int)<(q:Int))=false:=decide_eq_false (by omega)
            go_wp2
            go_ret
            exact .mk ex .no
end Go.Proofs.YtcopehiceihdaaaGreat
