/- Part of the proof that the laws answer true for every input. -/
import Derived.Test.YtjpakklplhabdaaGreatPGaA07
import Derived.Test.YtjpakklplhabdaaGreatPGaA15
set_option linter.unusedSimpArgs false
set_option linter.unnecessarySimpa false
set_option linter.unusedVariables false
set_option maxRecDepth 100000
set_option maxHeartbeats 40000000
namespace Go.Proofs.YtjpakklplhabdaaGreat
open Go.RowKit Go.Shelf
attribute [local go_sem ↓] Go.wp_at_zero Go.wp_at_succ
attribute [local go_sem] Oper.semAt_some
theorem zcL {a b:Nat} (ha:a<32):inB a b=true↔without a b=0:=by
 unfold inB
 rw[yG]
 constructor
 ·intro h
  apply Nat.eq_of_testBit_eq
  intro i
  rw[yh,Nat.zero_testBit]
  by_cases hi:i<5
  ·have:=h i hi
   revert this
   cases a.testBit i<;>cases b.testBit i<;>simp
  ·have:a.testBit i=false:=Nat.testBit_lt_two_pow (Nat.lt_of_lt_of_le ha (by
    have:2 ^ 5≤2 ^ i:=Nat.pow_le_pow_right (by decide) (by omega)
    simpa using this))
   simp[this]
 ·intro h k hk
  have:=congrArg (fun x=>Nat.testBit x k) h
  simp only[yh,Nat.zero_testBit]at this
  revert this
  cases a.testBit k<;>cases b.testBit k<;>simp
theorem zcO {a b:Nat} (ha:a<32) (hb:b<32):(bits .andNot .i64 (a:Int) (b:Int) !=0)= !inB a b:=by
 rw[Yk (by omega) (by omega)]
 cases h:inB a b with
 | true=>rw[(zcL ha).1 h];rfl
 | false=>
  have h0:without a b≠0:=fun h1=>by rw[(zcL ha).2 h1]at h;cases h
  rw[Bool.not_false,bne_iff_ne]
  omega
def pairOK (st:Moves) (m:List Int):Bool:=allN (grow3 st m) (nthM st (nth m 7).toNat).length
theorem QF {st:Moves}:growsB st=true↔∀x∈pairsM st,pairOK st x.2=true:=by
 rw[Qs,yG]
 unfold pairsM
 constructor
 ·intro h x hx
  obtain ⟨s,hs,hx⟩:=List.mem_flatMap.1 hx
  obtain ⟨m,hm,rfl⟩:=List.mem_map.1 hx
  obtain ⟨i,hi,rfl⟩:=List.getElem_of_mem hm
  have:=yG.1 (h s (List.mem_range.1 hs)) i hi
  unfold grow2 at this
  rw[zM hi]at this
  exact this
 ·intro h s hs
  unfold grow1
  rw[yG]
  intro i hi
  unfold grow2
  rw[zM hi]
  exact h (s,(nthM st s)[i]) (List.mem_flatMap.2 ⟨s,List.mem_range.2 hs,List.mem_map.2 ⟨_,List.getElem_mem hi,rfl⟩⟩)
def MoveOK (n:Int) (st:Moves) (m:List Int):Prop:=checkR m=0∧nth m 0=n∧0≤nth m 7∧nth m 7<(st.length:Int)
theorem zcu {W:World} {g:Nat} {e:TypeId} {v u:Value} (h:Row W g e [v]):(W.setCell ⟨g,0,none⟩ u).cell? ⟨g,0,none⟩=some u:=(h.set 0 u).cell rfl
theorem zak {S:Nat→Prop} {w:World} {vs:Value} {st:Moves} (n:Int) (hs:Sl (kSl (kFlat 8)) S w vs st) (hl:st.length≤1000)
  (hbad:¬(¬(n<1∨5<n)∧¬(st.length<1∨256<st.length∨4096<movesN st)∧Zeros (stateE n st) st.length)):
  Calls Tryz.prog 94 #[.agg #[.int .i64 n,vs]] w (Post w fun _ r=>r=.int .i64 (checkA n st)):=by
 have HAR:=zhd (advR n st)
 have KZ:Hid (∀W,Below w.heap.size w W→Calls Tryz.prog 121 #[.agg #[.int .i64 n,vs]] W (Post W fun _ r=>r=.int .i64 (if st.length<1∨256<st.length∨4096<movesN st then 5 else 0))):=zhd fun W hW=>Zt n (hs.ext hW) hl
 have KS:Hid (∀W,Below w.heap.size w W→∀s b c,Sl (kFlat 8) S W (.slice b (nthM st s).length c) (nthM st s)→Calls Tryz.prog 122 #[.agg #[.int .i64 n,vs],.slice b (nthM st s).length c] W (Post W fun _ r=>r=.int .i64 (stateE n st s))):=zhd fun W hW s b c hr=>by rw[Yl];exact ZJ n (hs.ext hW) hr
 obtain ⟨r,hr⟩:∃r,r=checkA n st:=⟨_,rfl⟩
 rw[←hr]at HAR ⊢
 have HROW:Hid (∀W,Below w.heap.size w W→∀s,s<st.length→∃v,vs=v∧∃b c sa sc,v=.slice sa st.length sc∧W.cell? (adr sa s)=some (.slice b (nthM st s).length c)∧Sl (kFlat 8) S W (.slice b (nthM st s).length c) (nthM st s)):=zhd fun W hW s hs'=>by
  obtain ⟨sa,sc,e,_⟩:=hs.addr
  subst e
  obtain ⟨b,c,h1,h2⟩:=hs.mrow hW hs'
  exact ⟨_,rfl,b,c,sa,sc,rfl,h1,h2⟩
 obtain ⟨sa,sc,rfl,hm⟩:=hs.addr
 have Q:=hs.idxS
 have HS:=zhd hs.block
 have ex:=zg (zb w (.cells #[.int .i64 n,.slice sa st.length sc] 27)) (.cells #[.int .i64 0] 42)
 have R0:Row ((w.alloc (.cells #[.int .i64 n,.slice sa st.length sc] 27)).alloc (.cells #[.int .i64 0] 42)) w.heap.size 27 [.int .i64 n,.slice sa st.length sc]:=(ze w [_,_] _).alloc _
 have RN:Row ((w.alloc (.cells #[.int .i64 n,.slice sa st.length sc] 27)).alloc (.cells #[.int .i64 0] 42)) (w.heap.size+1) 42 [.int .i64 0]:=by
  have:=ze (w.alloc (.cells #[.int .i64 n,.slice sa st.length sc] 27)) [.int .i64 0] 42
  rwa [World.size_alloc]at this
 have HB:=zhd hbad
 have HSZ:=ex.size
 clear hs hr hbad
 by_cases g0:n<1
 ·have RR:=zhd (HAR.out.range (.inl g0))
  go_enter Tryz.func94,Tryz.ntmps94
  go_wp2
  refine bodyPost_ret (v:=.int .i64 2) (by simp[results,Tryz.results94,go_sem]) rfl ?_
  exact .mk (zg (zb w _) _) (zi RR.out.symm)
 by_cases g1:5<n
 ·have RR:=zhd (HAR.out.range (.inr g1))
  go_enter Tryz.func94,Tryz.ntmps94
  go_wp2
  refine bodyPost_ret (v:=.int .i64 2) (by simp[results,Tryz.results94,go_sem]) rfl ?_
  exact .mk (zg (zb w _) _) (zi RR.out.symm)
 have HN:=zhd (show¬(n<1∨5<n) by omega)
 have KZ:=zhd (KZ.out _ ex)
 have HGM:Hid ((if st.length<1∨256<st.length∨4096<movesN st then (5:Int) else 0)=0→¬(st.length<1∨256<st.length∨4096<movesN st)):=zhd fun h h1=>by rw[if_pos h1]at h;cases h
 have HGM2:Hid ((if st.length<1∨256<st.length∨4096<movesN st then (5:Int) else 0)≠0→(if st.length<1∨256<st.length∨4096<movesN st then (5:Int) else 0)=5∧(st.length<1∨256<st.length∨4096<movesN st)):=zhd fun h=>by
  by_cases h1:st.length<1∨256<st.length∨4096<movesN st
  ·exact ⟨by rw[if_pos h1],h1⟩
  ·rw[if_neg h1]at h;exact absurd rfl h
 obtain ⟨z,hz⟩:∃z:Int,z=if st.length<1∨256<st.length∨4096<movesN st then 5 else 0:=⟨_,rfl⟩
 rw[←hz]at KZ HGM HGM2
 clear hz
 have c0:=R0.zc 0 rfl
 have c1:=R0.zc 1 rfl
 by_cases hz0:z=0
 case neg=>
  obtain ⟨e5,hm5⟩:=HGM2.out hz0
  have RR:=zhd (HAR.out.many HN.out hm5)
  subst e5
  clear hm5 hz0
  go_enter Tryz.func94,Tryz.ntmps94
  go_wp2_with fail
  refine KZ.out.mono ?_
  rintro _ w1 ⟨_,rfl,hb1,rfl⟩
  have RN1:=RN.ext hb1
  have q:=RN1.zc 0 rfl
  have f:=RN1.free 0
  have zl:=RN1.lt
  have hx1:=za ex hb1
  clear c0 c1
  go_wp2
  have qq:=zcu (u:=.int .i64 5) RN1
  refine bodyPost_ret (v:=.int .i64 5) (by simp[results,Tryz.results94,go_sem,qq]) rfl ?_
  exact .mk (hx1.setCell (p:=⟨w.heap.size+1,0,none⟩) (by simp) (.int .i64 5)) (zi RR.out.symm)
 have HM:=zhd (HGM.out hz0)
 subst hz0
 go_enter Tryz.func94,Tryz.ntmps94
 go_wp2_with fail
 refine KZ.out.mono ?_
 rintro _ w1 ⟨_,rfl,hb1,rfl⟩
 have RN1:=RN.ext hb1
 have RA1:=R0.ext hb1
 have hx1:=za ex hb1
 have t1:=RA1.zc 1 rfl
 clear c0 c1 R0 RN ex hb1 KZ
 go_wp2
 go_loopw [5,27] (fun _ i wr=>∃k:Nat,k≤st.length∧i=.int .i64 k∧Below w.heap.size w wr∧Row wr w.heap.size 27 [.int .i64 n,.slice sa st.length sc]∧Row wr (w.heap.size+1) 42 [.int .i64 0]∧Hid (Zeros (stateE n st) k)) (fun _ i _=>st.length - (intOf i).toNat)
 case atStart=>exact ⟨0,Nat.zero_le _,rfl,hx1,RA1,RN1,zhd (.zero _)⟩
 case round=>
  clear hx1 RA1 RN1 t1
  obtain ⟨k,hk,rfl,hb,RA,RN,HZ⟩:=hrel
  by_cases hlt:k<st.length
  case neg=>
   obtain rfl:k=st.length:=by omega
   exact absurd ⟨HN.out,HM.out,HZ.out⟩ HB.out
  have q:=Q.out k hlt
  obtain ⟨_,rfl,b,c,sa',sc',ev,cu,hrow⟩:=HROW.out wr hb k hlt
  simp only[Value.slice.injEq,true_and]at ev
  obtain ⟨rfl,rfl⟩:=ev
  have KX:=zhd (KS.out wr hb k b c hrow)
  obtain ⟨ln,hln⟩:∃ln,ln=(nthM st k).length:=⟨_,rfl⟩
  rw[←hln]at cu KX
  obtain ⟨e,he⟩:∃e,e=stateE n st k:=⟨_,rfl⟩
  rw[←he]at KX
  have HE:=zhd he.symm
  have t0:=RA.zc 0 rfl
  have t1:=RA.zc 1 rfl
  clear he hln hrow
  go_wp2_with fail
  refine KX.out.mono ?_
  rintro _ w2 ⟨_,rfl,hb2,rfl⟩
  have hx2:=za hb hb2
  have RA2:=RA.ext hb2
  have RN2:=RN.ext hb2
  clear t0 t1 cu q KX
  by_cases h0:e=0
  ·subst h0
   have HZ2:=zhd (HZ.out.next HE.out)
   go_wp2
   go_roundw
   case rel=>exact ⟨k+1,by omega,by go_num,hx2,RA2,RN2,HZ2⟩
   case measure=>simp[intOf];omega
  ·have RR:=zhd (HAR.out.stop HN.out HM.out e k HZ.out HE.out h0 hlt)
   have d0:(e !=0)=true:=by simp[h0]
   have q:=RN2.zc 0 rfl
   have f:=RN2.free 0
   have zl:=RN2.lt
   clear h0
   go_wp2
   have qq:=zcu (u:=.int .i64 e) RN2
   refine bodyPost_ret (v:=.int .i64 e) (by simp[results,Tryz.results94,go_sem,qq]) rfl ?_
   exact .mk (hx2.setCell (p:=⟨w.heap.size+1,0,none⟩) (by simp) (.int .i64 e)) (zi RR.out.symm)
theorem zbM {S:Nat→Prop} {w:World} {vs:Value} {st:Moves} (n:Int) (hs:Sl (kSl (kFlat 8)) S w vs st) (hl:st.length≤1000)
  (hn:¬(n<1∨5<n)) (hmm:¬(st.length<1∨256<st.length∨4096<movesN st)) (hz:Zeros (stateE n st) st.length):
  Calls Tryz.prog 94 #[.agg #[.int .i64 n,vs]] w (Post w fun _ r=>r=.int .i64 (checkA n st)):=by
 have HAR:=zhd (advR n st)
 have HN:=zhd hn
 have HM:=zhd hmm
 have HZT:=zhd hz
 have HOK:=zhd (movesOK hz)
 have HGP:=zhd (QF (st:=st))
 have KZ:Hid (∀W,Below w.heap.size w W→Calls Tryz.prog 121 #[.agg #[.int .i64 n,vs]] W (Post W fun _ r=>r=.int .i64 (if st.length<1∨256<st.length∨4096<movesN st then 5 else 0))):=zhd fun W hW=>Zt n (hs.ext hW) hl
 rw[if_neg hmm]at KZ
 have KS:Hid (∀W,Below w.heap.size w W→∀s,s<st.length→∀b c,Sl (kFlat 8) S W (.slice b (nthM st s).length c) (nthM st s)→Calls Tryz.prog 122 #[.agg #[.int .i64 n,vs],.slice b (nthM st s).length c] W (Post W fun _ r=>r=.int .i64 0)):=zhd fun W hW s hs' b c hr=>by
  have:=ZJ n (hs.ext hW) hr
  rw[←Yl,hz s hs']at this
  exact this
 obtain ⟨r,hr⟩:∃r,r=checkA n st:=⟨_,rfl⟩
 rw[←hr]at HAR ⊢
 have HROW:Hid (∀W,Below w.heap.size w W→∀s,s<st.length→∃v,vs=v∧∃b c sa sc,v=.slice sa st.length sc∧W.cell? (adr sa s)=some (.slice b (nthM st s).length c)∧Sl (kFlat 8) S W (.slice b (nthM st s).length c) (nthM st s)):=zhd fun W hW s hs'=>by
  obtain ⟨sa,sc,e,_⟩:=hs.addr
  subst e
  obtain ⟨b,c,h1,h2⟩:=hs.mrow hW hs'
  exact ⟨_,rfl,b,c,sa,sc,rfl,h1,h2⟩
 obtain ⟨sa,sc,rfl,hm⟩:=hs.addr
 have Q:=hs.idxS
 have HS:=zhd hs.block
 have ex:=zg (zb w (.cells #[.int .i64 n,.slice sa st.length sc] 27)) (.cells #[.int .i64 0] 42)
 have R0:Row ((w.alloc (.cells #[.int .i64 n,.slice sa st.length sc] 27)).alloc (.cells #[.int .i64 0] 42)) w.heap.size 27 [.int .i64 n,.slice sa st.length sc]:=(ze w [_,_] _).alloc _
 have RN:Row ((w.alloc (.cells #[.int .i64 n,.slice sa st.length sc] 27)).alloc (.cells #[.int .i64 0] 42)) (w.heap.size+1) 42 [.int .i64 0]:=by
  have:=ze (w.alloc (.cells #[.int .i64 n,.slice sa st.length sc] 27)) [.int .i64 0] 42
  rwa [World.size_alloc]at this
 clear hs hr hz
 have KZ:=zhd (KZ.out _ ex)
 have c0:=R0.zc 0 rfl
 have c1:=R0.zc 1 rfl
 have g0:¬n<1:=by omega
 have g1:¬5<n:=by omega
 refine (callsIn_wide (n:=6)).1 ?_
 refine callsIn_of_wp_marks Tryz.func94 rfl trivial ?_ rfl
 simp only[Tryz.ntmps94,List.size_toArray,List.length_cons,List.length_nil,Nat.reduceAdd,Nat.reduceSub,Array.replicate_succ,Array.replicate_zero,List.push_toArray,List.append_toArray,List.nil_append,List.cons_append]
 gi_wp2_with fail
 refine ⟨trivial,(callsIn_wide.2 KZ.out).mono ?_⟩
 rintro _ w1 ⟨_,rfl,hb1,rfl⟩
 have RN1:=RN.ext hb1
 have RA1:=R0.ext hb1
 have hx1:=za ex hb1
 have t1:=RA1.zc 1 rfl
 clear c0 c1 R0 RN ex hb1 KZ hn hmm g0 g1
 gi_wp2
 clear t1
 gi_loopw [5,27] (fun _ i wr=>∃k:Nat,k≤st.length∧i=.int .i64 k∧Below w.heap.size w wr∧Row wr w.heap.size 27 [.int .i64 n,.slice sa st.length sc]∧Row wr (w.heap.size+1) 42 [.int .i64 0]) (fun _ i _=>st.length - (intOf i).toNat)
 case atStart=>exact ⟨0,Nat.zero_le _,rfl,hx1,RA1,RN1⟩
 case round=>
  clear hx1 RA1 RN1
  obtain ⟨k,hk,rfl,hb,RA,RN⟩:=hrel
  by_cases hlt:k<st.length
  case pos=>
   have q:=Q.out k hlt
   obtain ⟨_,rfl,b,c,sa',sc',ev,cu,hrow⟩:=HROW.out wr hb k hlt
   simp only[Value.slice.injEq,true_and]at ev
   obtain ⟨rfl,rfl⟩:=ev
   have KX:=zhd (KS.out wr hb k hlt b c hrow)
   obtain ⟨ln,hln⟩:∃ln,ln=(nthM st k).length:=⟨_,rfl⟩
   rw[←hln]at cu KX
   have t0:=RA.zc 0 rfl
   have t1:=RA.zc 1 rfl
   clear hln hrow
   gi_wp2_with fail
   refine ⟨trivial,(callsIn_wide.2 KX.out).mono ?_⟩
   rintro _ w2 ⟨_,rfl,hb2,rfl⟩
   have hx2:=za hb hb2
   have RA2:=RA.ext hb2
   have RN2:=RN.ext hb2
   clear t0 t1 cu q KX
   gi_wp2
   go_roundw
   case rel=>exact ⟨k+1,by omega,by go_num,hx2,RA2,RN2⟩
   case measure=>simp[intOf];omega
  obtain rfl:k=st.length:=by omega
  have t0:=RA.zc 0 rfl
  have t1:=RA.zc 1 rfl
  obtain ⟨w2,hw2⟩:∃w2:World,w2=wr:=⟨_,rfl⟩
  rw[←hw2]at hb RA RN t0 t1 ⊢
  have KM:=zhd (qV w2 n (.slice sa st.length sc) rfl rfl)
  clear hw2 hk hlt HROW
  gi_wp2_with fail
  refine ⟨trivial,(callsIn_wide.2 KM.out).mono ?_⟩
  rintro _ _ ⟨rfl,rfl⟩
  clear t0 t1 KM
  have RB:=ze w2 [.int .i64 n,.slice sa st.length sc] 27
  have hx3:=zg hb (.cells #[.int .i64 n,.slice sa st.length sc] 27)
  have RA:=RA.alloc (.cells #[.int .i64 n,.slice sa st.length sc] 27)
  have RN:=RN.alloc (.cells #[.int .i64 n,.slice sa st.length sc] 27)
  obtain ⟨B1,hB1⟩:∃B1,B1=w2.heap.size:=⟨_,rfl⟩
  obtain ⟨w3,hw3⟩:∃w3,w3=w2.alloc (.cells #[.int .i64 n,.slice sa st.length sc] 27):=⟨_,rfl⟩
  rw[←hB1]at RB ⊢
  rw[←hw3]at RB hx3 RA RN ⊢
  clear hw3 hB1 hb
  have zw:=hx3.size
  have zB:=RB.lt
  have zA:=RA.lt
  have zN:=RN.lt
  gi_wp2_with fail
  have HST:=qU (Px:=fun x=>MoveOK n st x.2) (T:=fun b=>b<w3.heap.size) (n:=5) (by decide) RB (HS.out.ext hx3) zB (fun b hb=>by have:=hb.2;omega) (fun b hb=>hb) (fun k hk j hj=>(HOK.out k hk).2 j hj)
  apply xT (n:=6) rfl (by decide) (gf:=140) (lb:=#[.pointer (some ⟨B1,0,none⟩)]) rfl trivial (enters_of Tryz.func140 (by kernel_rfl) rfl)
   HST xt (xr (fun b hb=>hb)) YO (fun _=>rfl)
   (fun (pre:List {x:Nat×List Int // MoveOK n st x.2}) W=>(∀x∈pre,pairOK st x.1.2=true)∧Below w3.heap.size w3 W)
   (fun c (pre:List {x:Nat×List Int // MoveOK n st x.2}) W=>c=.ret∧(∃x∈pre,pairOK st x.1.2=false)∧Row W (w.heap.size+1) 42 [.int .i64 21]∧Below w.heap.size w W)
   (OwnFrom.and (ownFrom_pure _ _) (ownFrom_below (Nat.le_refl _) (Nat.le_refl _)))
   (fun c=>OwnFrom.and (ownFrom_pure _ _) (OwnFrom.and (ownFrom_pure _ _) (OwnFrom.and (qj (xs:=fun _=>[.int .i64 21]) zN) (ownFrom_below (Nat.le_refl _) zw))))
   ⟨by simp,Below.refl _ _⟩ (fun x=>.cells #[.int .i64 (nth x.1.2 0),.int .i64 (nth x.1.2 1),.int .i64 (nth x.1.2 2),.int .i64 (nth x.1.2 3),.int .i64 (nth x.1.2 4),.int .i64 (nth x.1.2 5),.int .i64 (nth x.1.2 6),.int .i64 (nth x.1.2 7)] 69)
  case hassign=>
   intro l x W g K hgW hK
   unfold mL
   gi_wp2
   rw[←hgW]
   exact hK
  case hbody=>
   rintro l pre ⟨⟨s,m⟩,hmk⟩ W ⟨hgd,hB⟩ hsW hlen
   dsimp only at hmk ⊢
   have hmk2:=hmk
   obtain ⟨hc1,hc2,hc3,hc4⟩:=hmk2
   obtain ⟨_,_,hc5,hc6⟩:=yH hc1
   have PA:=RA.ext hB
   have PN:=RN.ext hB
   have pn0:=PN.zc 0 rfl
   have hBw:Below w.heap.size w W:=hx3.trans (hB.mono zw)
   obtain ⟨to,hto⟩:∃t:Nat,nth m 7=t:=⟨(nth m 7).toNat,by omega⟩
   obtain ⟨fa,hfa⟩:∃t:Nat,nth m 6=t:=⟨(nth m 6).toNat,by omega⟩
   have htl:to<st.length:=by omega
   have hfl:fa<32:=by omega
   have HPO:Hid (pairOK st m=allN (grow3 st m) (nthM st to).length):=zhd (by unfold pairOK;rw[hto,Int.toNat_natCast])
   have HG3:Hid (∀k,grow3 st m k=inB fa (nth (nthL (nthM st to) k) 6).toNat):=zhd fun k=>by unfold grow3;rw[hto,hfa,Int.toNat_natCast,Int.toNat_natCast]
   have HOT:Hid (∀k,k<(nthM st to).length→∃f:Nat,f<32∧nth (nthL (nthM st to) k) 6=f):=zhd fun k hk=>by
    obtain ⟨_,_,h5,h6⟩:=yH ((HOK.out to htl).2 k hk).1
    exact ⟨(nth (nthL (nthM st to) k) 6).toNat,by omega,by omega⟩
   have HGD:=zhd hgd
   have q:=Q.out to htl
   obtain ⟨b,c,cu,hrow⟩:=(HS.out.ext hBw).mrow (.refl _ _) htl
   have HRW:Hid (∀W',Below W.heap.size W W'→Sl (kFlat 8) (fun b=>S b∧b<w.heap.size) W' (.slice b (nthM st to).length c) (nthM st to)):=zhd fun W' hW'=>hrow.ext hW'
   have QM:=hrow.idxM
   have hbs:=Nat.lt_of_lt_of_le (zI (HS.out.ad.1) (show 0<st.length by omega) to) hBw.size
   have hrl:(nthM st to).length≤140737488355328:=hrow.few
   obtain ⟨lk,hlk⟩:∃ln,ln=nthM st to:=⟨_,rfl⟩
   rw[←hlk]at HPO HG3 HOT cu HRW QM hrl
   have exb:=zb W (.cells #[.int .i64 (nth m 0),.int .i64 (nth m 1),.int .i64 (nth m 2),.int .i64 (nth m 3),.int .i64 (nth m 4),.int .i64 (nth m 5),.int .i64 (nth m 6),.int .i64 (nth m 7)] 69)
   have RM:Row (W.alloc (.cells #[.int .i64 (nth m 0),.int .i64 (nth m 1),.int .i64 (nth m 2),.int .i64 (nth m 3),.int .i64 (nth m 4),.int .i64 (nth m 5),.int .i64 (nth m 6),.int .i64 (nth m 7)] 69)) W.heap.size 69 [.int .i64 (nth m 0),.int .i64 (nth m 1),.int .i64 (nth m 2),.int .i64 (nth m 3),.int .i64 (nth m 4),.int .i64 (nth m 5),.int .i64 (nth m 6),.int .i64 (nth m 7)]:=ze W [_,_,_,_,_,_,_,_] _
   obtain ⟨g,hg⟩:∃g,g=W.heap.size:=⟨_,rfl⟩
   have hgW:w.heap.size+1<W.heap.size:=PN.lt
   have zA2:w.heap.size<W.heap.size:=PA.lt
   obtain ⟨w0,hw0⟩:∃w0,w0=W.alloc (.cells #[.int .i64 (nth m 0),.int .i64 (nth m 1),.int .i64 (nth m 2),.int .i64 (nth m 3),.int .i64 (nth m 4),.int .i64 (nth m 5),.int .i64 (nth m 6),.int .i64 (nth m 7)] 69):=⟨_,rfl⟩
   have HW0:=zhd hw0
   have HBB:=zhd hB
   have EXB:Hid (Below W.heap.size W w0):=zhd (by rw[hw0];exact exb)
   have HTO:=zhd hto
   have HFA:=zhd hfa
   rw[←hg]
   clear hgd hc1 hc2 hc3 hc4 hc5 hc6 hto hfa hrow hlk hlen hB
   rw[←hw0]
   have pa1:=(PA.ext exb).zc 1 rfl
   have cu:=zm cu exb
   rw[←hg]at RM
   rw[←hw0]at RM exb pa1 cu
   have m7:w0.cell? ⟨g,7,none⟩=some (.int .i64 (to:Int)):=by rw[←HTO.out];exact RM.zc 7 rfl
   clear hw0 hg
   gi_wp2
   clear HW0 cu q pa1 hbs pn0 zA2 m7
   gi_loopw [49] (fun i wr=>∃k:Nat,k≤lk.length∧i=.int .i64 k∧Below w0.heap.size w0 wr∧Row wr g 69 [.int .i64 (nth m 0),.int .i64 (nth m 1),.int .i64 (nth m 2),.int .i64 (nth m 3),.int .i64 (nth m 4),.int .i64 (nth m 5),.int .i64 (nth m 6),.int .i64 (nth m 7)]∧Hid (Alls (grow3 st m) k)) (fun i _=>lk.length - (intOf i).toNat)
   case atStart=>exact ⟨0,Nat.zero_le _,rfl,.refl _ _,RM,zhd (.zero _)⟩
   case round=>
    clear RM exb
    obtain ⟨k,hk,rfl,hb0,RM,HA⟩:=hrel
    have hb:=za EXB.out hb0
    by_cases hkt:k<lk.length
    case neg=>
     obtain rfl:k=lk.length:=by omega
     have HP:Hid (pairOK st m=true):=zhd (by rw[HPO.out];exact HA.out.done (Nat.le_refl _))
     gi_wp2
     refine ⟨yU hb0,Agree.of_ext hb0,fun x hx=>?_,HBB.out.trans (hb.mono HBB.out.size)⟩
     rcases List.mem_append.1 hx with h | h
     ·exact HGD.out x h
     ·rw[List.mem_singleton.1 h];exact HP.out
    have qm:=QM.out k hkt
    have hz:=(HRW.out wr hb).nums hkt (by decide)
    have z0:=hz.1
    have z1:=hz.2 1 (by decide)
    have z2:=hz.2 2 (by decide)
    have z3:=hz.2 3 (by decide)
    have z4:=hz.2 4 (by decide)
    have z5:=hz.2 5 (by decide)
    have z6:=hz.2 6 (by decide)
    have z7:=hz.2 7 (by decide)
    have hbk:=zI (HRW.out wr hb).ad.1 (by omega) (k * 8)
    obtain ⟨fb,hfb,hfe⟩:=HOT.out k hkt
    obtain ⟨m2,hm2⟩:∃m,m=nthL lk k:=⟨_,rfl⟩
    rw[←hm2]at z0 z1 z2 z3 z4 z5 z6 z7 hfe
    rw[hfe]at z6
    have HX:=zhd (zcO hfl hfb)
    have HB3:Hid (grow3 st m k=inB fa fb):=zhd (by rw[HG3.out k,←hm2,hfe,Int.toNat_natCast])
    obtain ⟨x,hx⟩:∃x,x=inB fa fb:=⟨_,rfl⟩
    rw[←hx]at HX HB3
    have m6:wr.cell? ⟨g,6,none⟩=some (.int .i64 (fa:Int)):=by rw[←HFA.out];exact RM.zc 6 rfl
    have hgl:=RM.lt
    have hb2:=hb0.alloc hb0.size (.cells #[.int .i64 (nth m2 0),.int .i64 (nth m2 1),.int .i64 (nth m2 2),.int .i64 (nth m2 3),.int .i64 (nth m2 4),.int .i64 (nth m2 5),.int .i64 fb,.int .i64 (nth m2 7)] 69)
    have RM2:=RM.alloc (.cells #[.int .i64 (nth m2 0),.int .i64 (nth m2 1),.int .i64 (nth m2 2),.int .i64 (nth m2 3),.int .i64 (nth m2 4),.int .i64 (nth m2 5),.int .i64 fb,.int .i64 (nth m2 7)] 69)
    have PN2:=(PN.ext hb).alloc (.cells #[.int .i64 (nth m2 0),.int .i64 (nth m2 1),.int .i64 (nth m2 2),.int .i64 (nth m2 3),.int .i64 (nth m2 4),.int .i64 (nth m2 5),.int .i64 fb,.int .i64 (nth m2 7)] 69)
    have pn0:=(PN.ext hb).zc 0 rfl
    have pf0:=(PN.ext hb).free 0
    have pl0:=(PN.ext hb).lt
    have hx2:=HX.out
    clear hz hfe hm2 hx
    cases x with
    | true=>
     have HN3:=zhd (HA.out.next HB3.out)
     simp only[Bool.not_true]at hx2
     gi_wp2
     go_roundw
     case rel=>exact ⟨k+1,by omega,by go_num,hb2,RM2,HN3⟩
     case measure=>simp[intOf];omega
    | false=>
     have HP:Hid (pairOK st m=false):=zhd (by rw[HPO.out];exact Zy HB3.out hkt)
     simp only[Bool.not_false]at hx2
     have FIN:Hid (∀W',W'=(wr.alloc (.cells #[.int .i64 (nth m2 0),.int .i64 (nth m2 1),.int .i64 (nth m2 2),.int .i64 (nth m2 3),.int .i64 (nth m2 4),.int .i64 (nth m2 5),.int .i64 fb,.int .i64 (nth m2 7)] 69)).setCell ⟨w.heap.size+1,0,none⟩ (.int .i64 21)∨W'=(wr.setCell ⟨w.heap.size+1,0,none⟩ (.int .i64 21)).alloc (.cells #[.int .i64 (nth m2 0),.int .i64 (nth m2 1),.int .i64 (nth m2 2),.int .i64 (nth m2 3),.int .i64 (nth m2 4),.int .i64 (nth m2 5),.int .i64 fb,.int .i64 (nth m2 7)] 69)→KeepsOthers w0 W'∧Row W' (w.heap.size+1) 42 [.int .i64 21]∧Below w.heap.size w W'):=zhd fun W' h=>by
      rcases h with h | h
      ·subst h
       exact ⟨(yU hb2).trans (.setCell _ _ _),PN2.set 0 _,((hBw.trans (hb.mono hBw.size)).alloc (hBw.trans (hb.mono hBw.size)).size _).setCell (by simp) _⟩
      ·subst h
       exact ⟨((yU hb0).trans (.setCell _ _ _)).trans (.alloc _ _),((PN.ext hb).set 0 _).alloc _,((hBw.trans (hb.mono hBw.size)).setCell (by simp) _).alloc (by have:=(hBw.trans (hb.mono hBw.size)).size;simp;omega) _⟩
     gi_wp2
     exact ⟨(FIN.out _ (by first | exact .inl rfl | exact .inr rfl)).1,rfl,⟨_,List.mem_append.2 (.inr (List.mem_singleton.2 rfl)),HP.out⟩,(FIN.out _ (by first | exact .inl rfl | exact .inr rfl)).2.1,(FIN.out _ (by first | exact .inl rfl | exact .inr rfl)).2.2⟩
  case hstop=>
   rintro D c pre W hD hSp ⟨rfl,⟨x,hx,hxb⟩,P1,hBw⟩ hK
   have hgf:growsB st=false:=by
    cases hg:growsB st with
    | false=>rfl
    | true=>
     have:=HGP.out.1 hg x.1 (hSp.subset (List.mem_map.2 ⟨x,hx,rfl⟩))
     rw[hxb]at this
     cases this
   have RR:=zhd (HAR.out.grow HN.out HM.out HZT.out hgf)
   gi_wp2
   refine ⟨by simp,.inl ⟨_,_,rfl,run_takeDeferred hK,?_⟩⟩
   have P9:=P1.putObj (.deferred none) hK rfl
   have hB9:=hBw.grown (grownBy_putObj' _ D (.deferred none)) hBw.size (fun k hk=>by cases hk;omega)
   have q9:=P9.zc 0 rfl
   exact ⟨.int .i64 21,by simp[results,Tryz.results94,go_sem,q9],.mk hB9 (zi RR.out.symm)⟩
  case hdone=>
   rintro D xs W hD hS ⟨hgd,hB⟩ hK
   have hgt:growsB st=true:=HGP.out.2 fun x hx=>by
    rw[←hS]at hx
    obtain ⟨y,hy,rfl⟩:=List.mem_map.1 hx
    exact hgd y hy
   have RR:=zhd (HAR.out.fine HN.out HM.out HZT.out hgt)
   have PN:=RN.ext hB
   have hBw:Below w.heap.size w W:=hx3.trans (hB.mono zw)
   have q0:=PN.zc 0 rfl
   have f0:=PN.free 0
   have l0:=PN.lt
   clear hgd hgt hS
   have KD:(W.setCell ⟨w.heap.size+1,0,none⟩ (.int .i64 0)).heap[D]? =some (.deferred (some [])):=(KeepsOthers.setCell W _ _).same D _ hK rfl
   have P9:=(PN.set 0 (.int .i64 0)).putObj (.deferred none) KD rfl
   have hB8:Below w.heap.size w (W.setCell ⟨w.heap.size+1,0,none⟩ (.int .i64 0)):=hBw.setCell (by simp) _
   have hB9:=hB8.grown (grownBy_putObj' _ D (.deferred none)) hB8.size (fun k hk=>by cases hk;omega)
   have q9:=P9.zc 0 rfl
   gi_wp2
   refine ⟨by simp,.inl ⟨_,_,rfl,run_takeDeferred KD,?_⟩⟩
   exact ⟨.int .i64 0,by simp[results,Tryz.results94,go_sem,q9],.mk hB9 (zi RR.out.symm)⟩
theorem xg {S:Nat→Prop} {w:World} {vs:Value} {st:Moves} (n:Int) (hs:Sl (kSl (kFlat 8)) S w vs st) (hl:st.length≤1000):
  Calls Tryz.prog 94 #[.agg #[.int .i64 n,vs]] w (Post w fun _ r=>r=.int .i64 (checkA n st)):=by
 by_cases h:¬(n<1∨5<n)∧¬(st.length<1∨256<st.length∨4096<movesN st)∧Zeros (stateE n st) st.length
 ·exact zbM n hs hl h.1 h.2.1 h.2.2
 ·exact zak n hs hl h
end Go.Proofs.YtjpakklplhabdaaGreat
