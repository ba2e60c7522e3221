/- Part of the proof that the laws answer true for every input. -/
import Derived.Test.YtiabbjolepnjkaaGreatPDfA02
import Derived.Test.YtiabbjolepnjkaaGreatPDfA06
set_option linter.unusedSimpArgs false
set_option linter.unnecessarySimpa false
set_option linter.unusedVariables false
set_option maxRecDepth 100000
set_option maxHeartbeats 40000000
namespace Go.Proofs.YtiabbjolepnjkaaGreat
open Go.RowKit Go.Shelf
attribute [local go_sem ↓] Go.wp_at_zero Go.wp_at_succ
attribute [local go_sem] Oper.semAt_some
theorem zfC {a b:Nat} (ha:a<32):inB a b=true↔without a b=0:=by
 unfold inB;rw[qS];constructor
 ·intro h;apply Nat.eq_of_testBit_eq;intro i;rw[qE,Nat.zero_testBit];by_cases hi:i<5
  ·have:=h i hi
   revert this
   cases a.testBit i<;>cases b.testBit i<;>simp
  ·have:a.testBit i=false:=Nat.testBit_lt_two_pow (Nat.lt_of_lt_of_le ha (by
    have:2 ^ 5≤2 ^ i:=Nat.pow_le_pow_right (by decide) (by omega);simpa using this))
   simp[this]
 ·intro h k hk;have:=congrArg (fun x=>Nat.testBit x k) h;simp only[qE,Nat.zero_testBit]at this
  revert this
  cases a.testBit k<;>cases b.testBit k<;>simp
theorem zhc {a b:Nat} (ha:a<32) (hb:b<32):(bits .andNot .i64 (a:Int) (b:Int) !=0)= !inB a b:=by
 rw[zfe (by omega) (by omega)];cases h:inB a b with
 | true=>rw[(zfC ha).1 h];rfl
 | false=>
  have h0:without a b≠0:=fun h1=>by rw[(zfC ha).2 h1]at h;cases h
  rw[Bool.not_false,bne_iff_ne];omega
def pairOK (st:Moves) (m:List Int):Bool:=allN (grow3 st m) (nthM st (nth m 7).toNat).length
theorem zcu {st:Moves}:growsB st=true↔∀x∈pairsM st,pairOK st x.2=true:=by
 rw[zb8,qS];unfold pairsM;constructor
 ·intro h x hx;obtain ⟨s,hs,hx⟩:=List.mem_flatMap.1 hx;obtain ⟨m,hm,rfl⟩:=List.mem_map.1 hx;obtain ⟨i,hi,rfl⟩:=List.getElem_of_mem hm;have:=qS.1 (h s (List.mem_range.1 hs)) i hi;unfold grow2 at this;rw[ya hi]at this;exact this
 ·intro h s hs;unfold grow1;rw[qS];intro i hi;unfold grow2;rw[ya hi];exact h (s,(nthM st s)[i]) (List.mem_flatMap.2 ⟨s,List.mem_range.2 hs,List.mem_map.2 ⟨_,List.getElem_mem hi,rfl⟩⟩)
def MoveOK (n:Int) (st:Moves) (m:List Int):Prop:=checkR m=0∧nth m 0=n∧0≤nth m 7∧nth m 7<(st.length:Int)
theorem zf3 {W:World} {g:Nat} {e:TypeId} {v u:Value} (h:Row W g e [v]):(W.setCell ⟨g,0,none⟩ u).cell? ⟨g,0,none⟩=some u:=(h.set 0 u).cell rfl
theorem zdj {S:Nat→Prop} {w:World} {vs:Value} {st:Moves} (n:Int) (hs:Sl (kSl (kFlat 8)) S w vs st) (hl:st.length≤1000)
  (hbad:¬(¬(n<1∨5<n)∧¬(st.length<1∨256<st.length∨4096<movesN st)∧Zeros (stateE n st) st.length)):
  Calls Tryz.prog 155 #[.agg #[n,vs]] w (Post w fun _ r=>r=.int .i64 (checkA n st)):=by
 have HAR:=zhd (advR n st);have KZ:Hid (∀W,Below w.heap.size w W→Calls Tryz.prog 170 #[.agg #[n,vs]] W (Post W fun _ r=>r=.int .i64 (if st.length<1∨256<st.length∨4096<movesN st then 5 else 0))):=zhd fun W hW=>Qy n (hs.ext hW) hl;have KS:Hid (∀W,Below w.heap.size w W→∀s b c,Sl (kFlat 8) S W (.slice b (nthM st s).length c) (nthM st s)→Calls Tryz.prog 171 #[.agg #[n,vs],.slice b (nthM st s).length c] W (Post W fun _ r=>r=.int .i64 (stateE n st s))):=zhd fun W hW s b c hr=>by rw[zad];exact Q5 n (hs.ext hW) hr
 obtain ⟨r,hr⟩:=zn (checkA n st);rw[←hr]at HAR ⊢;have HROW:Hid (∀W,Below w.heap.size w W→∀s,s<st.length→∃v,vs=v∧∃b c sa sc,v=.slice sa st.length sc∧W.cell? (adr sa s)=some (.slice b (nthM st s).length c)∧Sl (kFlat 8) S W (.slice b (nthM st s).length c) (nthM st s)):=zhd fun W hW s hs'=>by
  obtain ⟨sa,sc,e,_⟩:=hs.addr;subst e;obtain ⟨b,c,h1,h2⟩:=hs.mrow hW hs';exact ⟨_,rfl,b,c,sa,sc,rfl,h1,h2⟩
 obtain ⟨sa,sc,rfl,hm⟩:=hs.addr;have Q:=hs.idxS;have HS:=zhd hs.block;have ex:=zh (ze w (.cells #[n,.slice sa st.length sc] 27)) (.cells #[.int .i64 0] 42);have R0:Row ((w.alloc (.cells #[n,.slice sa st.length sc] 27)).alloc (.cells #[.int .i64 0] 42)) w.heap.size 27 [n,.slice sa st.length sc]:=(zi w [_,_] _).alloc _;have RN:Row ((w.alloc (.cells #[n,.slice sa st.length sc] 27)).alloc (.cells #[.int .i64 0] 42)) (w.heap.size+1) 42 [.int .i64 0]:=by
  have:=zi (w.alloc (.cells #[n,.slice sa st.length sc] 27)) [.int .i64 0] 42
  rwa [World.size_alloc]at this
 have HB:=zhd hbad;have HSZ:=ex.size;clear hs hr hbad;by_cases g0:n<1
 ·have RR:=zhd (HAR.out.range (.inl g0));go_enter Tryz.func155,Tryz.ntmps155;go_wp2;refine bodyPost_ret (v:=.int .i64 2) (by simp[results,Tryz.results155,go_sem]) rfl ?_;exact .mk (zh (ze w _) _) (zr RR.out.symm)
 by_cases g1:5<n
 ·have RR:=zhd (HAR.out.range (.inr g1));go_enter Tryz.func155,Tryz.ntmps155;go_wp2;refine bodyPost_ret (v:=.int .i64 2) (by simp[results,Tryz.results155,go_sem]) rfl ?_;exact .mk (zh (ze w _) _) (zr RR.out.symm)
 have HN:=zhd (show¬(n<1∨5<n) by omega);have KZ:=zhd (KZ.out _ ex);have HGM:Hid ((if st.length<1∨256<st.length∨4096<movesN st then (5:Int) else 0)=0→¬(st.length<1∨256<st.length∨4096<movesN st)):=zhd fun h h1=>by rw[if_pos h1]at h;cases h
 have HGM2:Hid ((if st.length<1∨256<st.length∨4096<movesN st then (5:Int) else 0)≠0→(if st.length<1∨256<st.length∨4096<movesN st then (5:Int) else 0)=5∧(st.length<1∨256<st.length∨4096<movesN st)):=zhd fun h=>by
  by_cases h1:st.length<1∨256<st.length∨4096<movesN st
  ·exact ⟨by rw[if_pos h1],h1⟩
  ·rw[if_neg h1]at h;exact absurd rfl h
 obtain ⟨z,hz⟩:∃z:Int,z=if st.length<1∨256<st.length∨4096<movesN st then 5 else 0:=⟨_,rfl⟩;rw[←hz]at KZ HGM HGM2;clear hz;have c0:=R0.zc 0 rfl;have c1:=R0.zc 1 rfl;by_cases hz0:z=0
 case neg=>
  obtain ⟨e5,hm5⟩:=HGM2.out hz0;have RR:=zhd (HAR.out.many HN.out hm5);subst e5;clear hm5 hz0;go_enter Tryz.func155,Tryz.ntmps155;go_wp2_with fail;refine KZ.out.mono ?_;rintro _ w1 ⟨_,rfl,hb1,rfl⟩;have RN1:=RN.ext hb1;have q:=RN1.zc 0 rfl;have f:=RN1.free 0;have zl:=RN1.lt;have hx1:=za ex hb1;clear c0 c1;go_wp2;have qq:=zf3 (u:=.int .i64 5) RN1;refine bodyPost_ret (v:=.int .i64 5) (by simp[results,Tryz.results155,go_sem,qq]) rfl ?_;exact .mk (hx1.setCell (p:=⟨w.heap.size+1,0,none⟩) (by simp) (.int .i64 5)) (zr RR.out.symm)
 have HM:=zhd (HGM.out hz0);subst hz0;go_enter Tryz.func155,Tryz.ntmps155;go_wp2_with fail;refine KZ.out.mono ?_;rintro _ w1 ⟨_,rfl,hb1,rfl⟩;have RN1:=RN.ext hb1;have RA1:=R0.ext hb1;have hx1:=za ex hb1;have t1:=RA1.zc 1 rfl;clear c0 c1 R0 RN ex hb1 KZ;go_wp2;go_loopw [5,27] (fun _ i wr=>∃k:Nat,k≤st.length∧i=.int .i64 k∧Below w.heap.size w wr∧Row wr w.heap.size 27 [n,.slice sa st.length sc]∧Row wr (w.heap.size+1) 42 [.int .i64 0]∧Hid (Zeros (stateE n st) k)) (fun _ i _=>st.length - (intOf i).toNat)
 case atStart=>exact ⟨0,Nat.zero_le _,rfl,hx1,RA1,RN1,zhd (.zero _)⟩
 case round=>
  clear hx1 RA1 RN1 t1;obtain ⟨k,hk,rfl,hb,RA,RN,HZ⟩:=hrel;by_cases hlt:k<st.length
  case neg=>
   obtain rfl:k=st.length:=by omega
   exact absurd ⟨HN.out,HM.out,HZ.out⟩ HB.out
  have q:=Q.out k hlt;obtain ⟨_,rfl,b,c,sa',sc',ev,cu,hrow⟩:=HROW.out wr hb k hlt;simp only[Value.slice.injEq,true_and]at ev;obtain ⟨rfl,rfl⟩:=ev;have KX:=zhd (KS.out wr hb k b c hrow);obtain ⟨ln,hln⟩:=zn ((nthM st k).length);rw[←hln]at cu KX;obtain ⟨e,he⟩:=zn (stateE n st k);rw[←he]at KX;have HE:=zhd he.symm;have t0:=RA.zc 0 rfl;have t1:=RA.zc 1 rfl;clear he hln hrow;go_wp2_with fail;refine KX.out.mono ?_;rintro _ w2 ⟨_,rfl,hb2,rfl⟩;have hx2:=za hb hb2;have RA2:=RA.ext hb2;have RN2:=RN.ext hb2;clear t0 t1 cu q KX;by_cases h0:e=0
  ·subst h0;have HZ2:=zhd (HZ.out.next HE.out);go_wp2;go_roundw
   case rel=>exact ⟨k+1,by omega,by go_num,hx2,RA2,RN2,HZ2⟩
   case measure=>simp[intOf];omega
  ·have RR:=zhd (HAR.out.stop HN.out HM.out e k HZ.out HE.out h0 hlt);have d0:(e !=0)=true:=by simp[h0]
   have q:=RN2.zc 0 rfl;have f:=RN2.free 0;have zl:=RN2.lt;clear h0;go_wp2;have qq:=zf3 (u:=.int .i64 e) RN2;refine bodyPost_ret (v:=.int .i64 e) (by simp[results,Tryz.results155,go_sem,qq]) rfl ?_;exact .mk (hx2.setCell (p:=⟨w.heap.size+1,0,none⟩) (by simp) (.int .i64 e)) (zr RR.out.symm)
theorem zeX {S:Nat→Prop} {w:World} {vs:Value} {st:Moves} (n:Int) (hs:Sl (kSl (kFlat 8)) S w vs st) (hl:st.length≤1000)
  (hn:¬(n<1∨5<n)) (hmm:¬(st.length<1∨256<st.length∨4096<movesN st)) (hz:Zeros (stateE n st) st.length):
  Calls Tryz.prog 155 #[.agg #[n,vs]] w (Post w fun _ r=>r=.int .i64 (checkA n st)):=by
 have HAR:=zhd (advR n st);have HN:=zhd hn;have HM:=zhd hmm;have HZT:=zhd hz;have HOK:=zhd (movesOK hz);have HGP:=zhd (zcu (st:=st));have KZ:Hid (∀W,Below w.heap.size w W→Calls Tryz.prog 170 #[.agg #[n,vs]] W (Post W fun _ r=>r=.int .i64 (if st.length<1∨256<st.length∨4096<movesN st then 5 else 0))):=zhd fun W hW=>Qy n (hs.ext hW) hl;rw[if_neg hmm]at KZ;have KS:Hid (∀W,Below w.heap.size w W→∀s,s<st.length→∀b c,Sl (kFlat 8) S W (.slice b (nthM st s).length c) (nthM st s)→Calls Tryz.prog 171 #[.agg #[n,vs],.slice b (nthM st s).length c] W (Post W fun _ r=>r=.int .i64 0)):=zhd fun W hW s hs' b c hr=>by
  have:=Q5 n (hs.ext hW) hr;rw[←zad,hz s hs']at this;exact this
 obtain ⟨r,hr⟩:=zn (checkA n st);rw[←hr]at HAR ⊢;have HROW:Hid (∀W,Below w.heap.size w W→∀s,s<st.length→∃v,vs=v∧∃b c sa sc,v=.slice sa st.length sc∧W.cell? (adr sa s)=some (.slice b (nthM st s).length c)∧Sl (kFlat 8) S W (.slice b (nthM st s).length c) (nthM st s)):=zhd fun W hW s hs'=>by
  obtain ⟨sa,sc,e,_⟩:=hs.addr;subst e;obtain ⟨b,c,h1,h2⟩:=hs.mrow hW hs';exact ⟨_,rfl,b,c,sa,sc,rfl,h1,h2⟩
 obtain ⟨sa,sc,rfl,hm⟩:=hs.addr;have Q:=hs.idxS;have HS:=zhd hs.block;have ex:=zh (ze w (.cells #[n,.slice sa st.length sc] 27)) (.cells #[.int .i64 0] 42);have R0:Row ((w.alloc (.cells #[n,.slice sa st.length sc] 27)).alloc (.cells #[.int .i64 0] 42)) w.heap.size 27 [n,.slice sa st.length sc]:=(zi w [_,_] _).alloc _;have RN:Row ((w.alloc (.cells #[n,.slice sa st.length sc] 27)).alloc (.cells #[.int .i64 0] 42)) (w.heap.size+1) 42 [.int .i64 0]:=by
  have:=zi (w.alloc (.cells #[n,.slice sa st.length sc] 27)) [.int .i64 0] 42
  rwa [World.size_alloc]at this
 clear hs hr hz;have KZ:=zhd (KZ.out _ ex);have c0:=R0.zc 0 rfl;have c1:=R0.zc 1 rfl;have g0:¬n<1:=by omega
 have g1:¬5<n:=by omega
 refine (callsIn_wide (n:=6)).1 ?_;refine callsIn_of_wp_marks Tryz.func155 rfl trivial ?_ rfl;simp only[Tryz.ntmps155,List.size_toArray,List.length_cons,List.length_nil,Nat.reduceAdd,Nat.reduceSub,Array.replicate_succ,Array.replicate_zero,List.push_toArray,List.append_toArray,List.nil_append,List.cons_append];gi_wp2_with fail
 refine ⟨trivial,(callsIn_wide.2 KZ.out).mono ?_⟩;rintro _ w1 ⟨_,rfl,hb1,rfl⟩;have RN1:=RN.ext hb1;have RA1:=R0.ext hb1;have hx1:=za ex hb1;have t1:=RA1.zc 1 rfl;clear c0 c1 R0 RN ex hb1 KZ hn hmm g0 g1;gi_wp2;clear t1;gi_loopw [5,27] (fun _ i wr=>∃k:Nat,k≤st.length∧i=.int .i64 k∧Below w.heap.size w wr∧Row wr w.heap.size 27 [n,.slice sa st.length sc]∧Row wr (w.heap.size+1) 42 [.int .i64 0]) (fun _ i _=>st.length - (intOf i).toNat)
 case atStart=>exact ⟨0,Nat.zero_le _,rfl,hx1,RA1,RN1⟩
 case round=>
  clear hx1 RA1 RN1;obtain ⟨k,hk,rfl,hb,RA,RN⟩:=hrel;by_cases hlt:k<st.length
  case pos=>
   have q:=Q.out k hlt;obtain ⟨_,rfl,b,c,sa',sc',ev,cu,hrow⟩:=HROW.out wr hb k hlt;simp only[Value.slice.injEq,true_and]at ev;obtain ⟨rfl,rfl⟩:=ev;have KX:=zhd (KS.out wr hb k hlt b c hrow);obtain ⟨ln,hln⟩:=zn ((nthM st k).length);rw[←hln]at cu KX;have t0:=RA.zc 0 rfl;have t1:=RA.zc 1 rfl;clear hln hrow;gi_wp2_with fail
   refine ⟨trivial,(callsIn_wide.2 KX.out).mono ?_⟩;rintro _ w2 ⟨_,rfl,hb2,rfl⟩;have hx2:=za hb hb2;have RA2:=RA.ext hb2;have RN2:=RN.ext hb2;clear t0 t1 cu q KX;gi_wp2;go_roundw
   case rel=>exact ⟨k+1,by omega,by go_num,hx2,RA2,RN2⟩
   case measure=>simp[intOf];omega
  obtain rfl:k=st.length:=by omega
  have t0:=RA.zc 0 rfl;have t1:=RA.zc 1 rfl;obtain ⟨w2,hw2⟩:∃w2:World,w2=wr:=⟨_,rfl⟩;rw[←hw2]at hb RA RN t0 t1 ⊢;have KM:=zhd (ZK w2 n (.slice sa st.length sc) rfl rfl);clear hw2 hk hlt HROW;gi_wp2_with fail
  refine ⟨trivial,(callsIn_wide.2 KM.out).mono ?_⟩;rintro _ _ ⟨rfl,rfl⟩;clear t0 t1 KM;have RB:=zi w2 [n,.slice sa st.length sc] 27;have hx3:=zh hb (.cells #[n,.slice sa st.length sc] 27);have RA:=RA.alloc (.cells #[n,.slice sa st.length sc] 27);have RN:=RN.alloc (.cells #[n,.slice sa st.length sc] 27);obtain ⟨B1,hB1⟩:=zn w2.heap.size;obtain ⟨w3,hw3⟩:=zn (w2.alloc (.cells #[n,.slice sa st.length sc] 27));rw[←hB1]at RB ⊢;rw[←hw3]at RB hx3 RA RN ⊢;clear hw3 hB1 hb;have zw:=hx3.size;have zB:=RB.lt;have zA:=RA.lt;have zN:=RN.lt;gi_wp2_with fail
  have HST:=ZJ (Px:=fun x=>MoveOK n st x.2) (T:=fun b=>b<w3.heap.size) (n:=5) (by decide) RB (HS.out.ext hx3) zB (fun b hb=>by have:=hb.2;omega) (fun b hb=>hb) (fun k hk j hj=>(HOK.out k hk).2 j hj);apply xT (n:=6) rfl (by decide) (gf:=188) (lb:=#[.pointer (some ⟨B1,0,none⟩)]) rfl trivial (enters_of Tryz.func188 (by kernel_rfl) rfl)
   HST xI (xH (fun b hb=>hb)) zas (fun _=>rfl)
   (fun (pre:List {x:Nat×List Int // MoveOK n st x.2}) W=>(∀x∈pre,pairOK st x.1.2=true)∧Below w3.heap.size w3 W)
   (fun c (pre:List {x:Nat×List Int // MoveOK n st x.2}) W=>c=.ret∧(∃x∈pre,pairOK st x.1.2=false)∧Row W (w.heap.size+1) 42 [.int .i64 21]∧Below w.heap.size w W)
   (OwnFrom.and (ownFrom_pure _ _) (ownFrom_below (Nat.le_refl _) (Nat.le_refl _)))
   (fun c=>OwnFrom.and (ownFrom_pure _ _) (OwnFrom.and (ownFrom_pure _ _) (OwnFrom.and (yF (xs:=fun _=>[.int .i64 21]) zN) (ownFrom_below (Nat.le_refl _) zw))))
   ⟨by simp,Below.refl _ _⟩ (fun x=>.cells #[.int .i64 (nth x.1.2 0),.int .i64 (nth x.1.2 1),.int .i64 (nth x.1.2 2),.int .i64 (nth x.1.2 3),.int .i64 (nth x.1.2 4),.int .i64 (nth x.1.2 5),.int .i64 (nth x.1.2 6),.int .i64 (nth x.1.2 7)] 155)
  case hassign=>
   intro l x W g K hgW hK;unfold mL;gi_wp2;rw[←hgW];exact hK
  case hbody=>
   rintro l pre ⟨⟨s,m⟩,hmk⟩ W ⟨hgd,hB⟩ hsW hlen;dsimp only at hmk ⊢;have hmk2:=hmk;obtain ⟨hc1,hc2,hc3,hc4⟩:=hmk2;obtain ⟨_,_,hc5,hc6⟩:=qH hc1;have PA:=RA.ext hB;have PN:=RN.ext hB;have pn0:=PN.zc 0 rfl;have hBw:Below w.heap.size w W:=hx3.trans (hB.mono zw);obtain ⟨to,hto⟩:∃t:Nat,nth m 7=t:=⟨(nth m 7).toNat,by omega⟩;obtain ⟨fa,hfa⟩:∃t:Nat,nth m 6=t:=⟨(nth m 6).toNat,by omega⟩;have htl:to<st.length:=by omega
   have hfl:fa<32:=by omega
   have HPO:Hid (pairOK st m=allN (grow3 st m) (nthM st to).length):=zhd (by unfold pairOK;rw[hto,Int.toNat_natCast]);have HG3:Hid (∀k,grow3 st m k=inB fa (nth (nthL (nthM st to) k) 6).toNat):=zhd fun k=>by unfold grow3;rw[hto,hfa,Int.toNat_natCast,Int.toNat_natCast]
   have HOT:Hid (∀k,k<(nthM st to).length→∃f:Nat,f<32∧nth (nthL (nthM st to) k) 6=f):=zhd fun k hk=>by
    obtain ⟨_,_,h5,h6⟩:=qH ((HOK.out to htl).2 k hk).1;exact ⟨(nth (nthL (nthM st to) k) 6).toNat,by omega,by omega⟩
   have HGD:=zhd hgd;have q:=Q.out to htl;obtain ⟨b,c,cu,hrow⟩:=(HS.out.ext hBw).mrow (.refl _ _) htl;have HRW:Hid (∀W',Below W.heap.size W W'→Sl (kFlat 8) (fun b=>S b∧b<w.heap.size) W' (.slice b (nthM st to).length c) (nthM st to)):=zhd fun W' hW'=>hrow.ext hW';have QM:=hrow.idxM;have hbs:=Nat.lt_of_lt_of_le (zZ (HS.out.ad.1) (show 0<st.length by omega) to) hBw.size;have hrl:(nthM st to).length≤140737488355328:=hrow.few;obtain ⟨lk,hlk⟩:∃ln,ln=nthM st to:=⟨_,rfl⟩;rw[←hlk]at HPO HG3 HOT cu HRW QM hrl;have exb:=ze W (.cells #[nth m 0,nth m 1,nth m 2,nth m 3,nth m 4,nth m 5,nth m 6,nth m 7] 155);have RM:Row (W.alloc (.cells #[nth m 0,nth m 1,nth m 2,nth m 3,nth m 4,nth m 5,nth m 6,nth m 7] 155)) W.heap.size 155 [nth m 0,nth m 1,nth m 2,nth m 3,nth m 4,nth m 5,nth m 6,nth m 7]:=zi W [_,_,_,_,_,_,_,_] _;obtain ⟨g,hg⟩:=zn W.heap.size;have hgW:w.heap.size+1<W.heap.size:=PN.lt;have zA2:w.heap.size<W.heap.size:=PA.lt;obtain ⟨w0,hw0⟩:=zn (W.alloc (.cells #[nth m 0,nth m 1,nth m 2,nth m 3,nth m 4,nth m 5,nth m 6,nth m 7] 155));have HW0:=zhd hw0;have HBB:=zhd hB;have EXB:Hid (Below W.heap.size W w0):=zhd (by rw[hw0];exact exb);have HTO:=zhd hto;have HFA:=zhd hfa;rw[←hg];clear hgd hc1 hc2 hc3 hc4 hc5 hc6 hto hfa hrow hlk hlen hB;rw[←hw0];have pa1:=(PA.ext exb).zc 1 rfl;have cu:=zm cu exb;rw[←hg]at RM;rw[←hw0]at RM exb pa1 cu;have m7:w0.cell? ⟨g,7,none⟩=some (.int .i64 (to:Int)):=by rw[←HTO.out];exact RM.zc 7 rfl
   clear hw0 hg;gi_wp2;clear HW0 cu q pa1 hbs pn0 zA2 m7;gi_loopw [49] (fun i wr=>∃k:Nat,k≤lk.length∧i=.int .i64 k∧Below w0.heap.size w0 wr∧Row wr g 155 [nth m 0,nth m 1,nth m 2,nth m 3,nth m 4,nth m 5,nth m 6,nth m 7]∧Hid (Alls (grow3 st m) k)) (fun i _=>lk.length - (intOf i).toNat)
   case atStart=>exact ⟨0,Nat.zero_le _,rfl,.refl _ _,RM,zhd (.zero _)⟩
   case round=>
    clear RM exb;obtain ⟨k,hk,rfl,hb0,RM,HA⟩:=hrel;have hb:=za EXB.out hb0;by_cases hkt:k<lk.length
    case neg=>
     obtain rfl:k=lk.length:=by omega
     have HP:Hid (pairOK st m=true):=zhd (by rw[HPO.out];exact HA.out.done (Nat.le_refl _));gi_wp2;refine ⟨zY hb0,Agree.of_ext hb0,fun x hx=>?_,HBB.out.trans (hb.mono HBB.out.size)⟩;rcases List.mem_append.1 hx with h | h
     ·exact HGD.out x h
     ·rw[List.mem_singleton.1 h];exact HP.out
    have qm:=QM.out k hkt;have hz:=(HRW.out wr hb).nums hkt (by decide);have z0:=hz.1;have z1:=hz.2 1 (by decide);have z2:=hz.2 2 (by decide);have z3:=hz.2 3 (by decide);have z4:=hz.2 4 (by decide);have z5:=hz.2 5 (by decide);have z6:=hz.2 6 (by decide);have z7:=hz.2 7 (by decide);have hbk:=zZ (HRW.out wr hb).ad.1 (by omega) (k * 8);obtain ⟨fb,hfb,hfe⟩:=HOT.out k hkt;obtain ⟨m2,hm2⟩:∃m,m=nthL lk k:=⟨_,rfl⟩;rw[←hm2]at z0 z1 z2 z3 z4 z5 z6 z7 hfe;rw[hfe]at z6;have HX:=zhd (zhc hfl hfb);have HB3:Hid (grow3 st m k=inB fa fb):=zhd (by rw[HG3.out k,←hm2,hfe,Int.toNat_natCast]);obtain ⟨x,hx⟩:=zn (inB fa fb);rw[←hx]at HX HB3;have m6:wr.cell? ⟨g,6,none⟩=some (.int .i64 (fa:Int)):=by rw[←HFA.out];exact RM.zc 6 rfl
    have hgl:=RM.lt;have hb2:=hb0.alloc hb0.size (.cells #[nth m2 0,nth m2 1,nth m2 2,nth m2 3,nth m2 4,nth m2 5,fb,nth m2 7] 155);have RM2:=RM.alloc (.cells #[nth m2 0,nth m2 1,nth m2 2,nth m2 3,nth m2 4,nth m2 5,fb,nth m2 7] 155);have PN2:=(PN.ext hb).alloc (.cells #[nth m2 0,nth m2 1,nth m2 2,nth m2 3,nth m2 4,nth m2 5,fb,nth m2 7] 155);have pn0:=(PN.ext hb).zc 0 rfl;have pf0:=(PN.ext hb).free 0;have pl0:=(PN.ext hb).lt;have hx2:=HX.out;clear hz hfe hm2 hx;cases x with
    | true=>
     have HN3:=zhd (HA.out.next HB3.out);simp only[Bool.not_true]at hx2;gi_wp2;go_roundw
     case rel=>exact ⟨k+1,by omega,by go_num,hb2,RM2,HN3⟩
     case measure=>simp[intOf];omega
    | false=>
     have HP:Hid (pairOK st m=false):=zhd (by rw[HPO.out];exact Q0 HB3.out hkt);simp only[Bool.not_false]at hx2;have FIN:Hid (∀W',W'=(wr.alloc (.cells #[nth m2 0,nth m2 1,nth m2 2,nth m2 3,nth m2 4,nth m2 5,fb,nth m2 7] 155)).setCell ⟨w.heap.size+1,0,none⟩ (.int .i64 21)∨W'=(wr.setCell ⟨w.heap.size+1,0,none⟩ (.int .i64 21)).alloc (.cells #[nth m2 0,nth m2 1,nth m2 2,nth m2 3,nth m2 4,nth m2 5,fb,nth m2 7] 155)→KeepsOthers w0 W'∧Row W' (w.heap.size+1) 42 [.int .i64 21]∧Below w.heap.size w W'):=zhd fun W' h=>by
      rcases h with h | h
      ·subst h;exact ⟨(zY hb2).trans (.setCell _ _ _),PN2.set 0 _,((hBw.trans (hb.mono hBw.size)).alloc (hBw.trans (hb.mono hBw.size)).size _).setCell (by simp) _⟩
      ·subst h;exact ⟨((zY hb0).trans (.setCell _ _ _)).trans (.alloc _ _),((PN.ext hb).set 0 _).alloc _,((hBw.trans (hb.mono hBw.size)).setCell (by simp) _).alloc (by have:=(hBw.trans (hb.mono hBw.size)).size;simp;omega) _⟩
     gi_wp2;exact ⟨(FIN.out _ (by first | exact .inl rfl | exact .inr rfl)).1,rfl,⟨_,List.mem_append.2 (.inr (List.mem_singleton.2 rfl)),HP.out⟩,(FIN.out _ (by first | exact .inl rfl | exact .inr rfl)).2.1,(FIN.out _ (by first | exact .inl rfl | exact .inr rfl)).2.2⟩
  case hstop=>
   rintro D c pre W hD hSp ⟨rfl,⟨x,hx,hxb⟩,P1,hBw⟩ hK;have hgf:growsB st=false:=by
    cases hg:growsB st with
    | false=>rfl
    | true=>
     have:=HGP.out.1 hg x.1 (hSp.subset (List.mem_map.2 ⟨x,hx,rfl⟩));rw[hxb]at this;cases this
   have RR:=zhd (HAR.out.grow HN.out HM.out HZT.out hgf);gi_wp2;refine ⟨by simp,.inl ⟨_,_,rfl,run_takeDeferred hK,?_⟩⟩;have P9:=P1.putObj (.deferred none) hK rfl;have hB9:=hBw.grown (grownBy_putObj' _ D (.deferred none)) hBw.size (fun k hk=>by cases hk;omega);have q9:=P9.zc 0 rfl;exact ⟨.int .i64 21,by simp[results,Tryz.results155,go_sem,q9],.mk hB9 (zr RR.out.symm)⟩
  case hdone=>
   rintro D xs W hD hS ⟨hgd,hB⟩ hK;have hgt:growsB st=true:=HGP.out.2 fun x hx=>by
    rw[←hS]at hx;obtain ⟨y,hy,rfl⟩:=List.mem_map.1 hx;exact hgd y hy
   have RR:=zhd (HAR.out.fine HN.out HM.out HZT.out hgt);have PN:=RN.ext hB;have hBw:Below w.heap.size w W:=hx3.trans (hB.mono zw);have q0:=PN.zc 0 rfl;have f0:=PN.free 0;have l0:=PN.lt;clear hgd hgt hS;have KD:(W.setCell ⟨w.heap.size+1,0,none⟩ (.int .i64 0)).heap[D]? =some (.deferred (some [])):=(KeepsOthers.setCell W _ _).same D _ hK rfl;have P9:=(PN.set 0 (.int .i64 0)).putObj (.deferred none) KD rfl;have hB8:Below w.heap.size w (W.setCell ⟨w.heap.size+1,0,none⟩ (.int .i64 0)):=hBw.setCell (by simp) _;have hB9:=hB8.grown (grownBy_putObj' _ D (.deferred none)) hB8.size (fun k hk=>by cases hk;omega);have q9:=P9.zc 0 rfl;gi_wp2;refine ⟨by simp,.inl ⟨_,_,rfl,run_takeDeferred KD,?_⟩⟩;exact ⟨.int .i64 0,by simp[results,Tryz.results155,go_sem,q9],.mk hB9 (zr RR.out.symm)⟩
theorem Ya {S:Nat→Prop} {w:World} {vs:Value} {st:Moves} (n:Int) (hs:Sl (kSl (kFlat 8)) S w vs st) (hl:st.length≤1000):
  Calls Tryz.prog 155 #[.agg #[n,vs]] w (Post w fun _ r=>r=.int .i64 (checkA n st)):=by
 by_cases h:¬(n<1∨5<n)∧¬(st.length<1∨256<st.length∨4096<movesN st)∧Zeros (stateE n st) st.length
 ·exact zeX n hs hl h.1 h.2.1 h.2.2
 ·exact zdj n hs hl h
end Go.Proofs.YtiabbjolepnjkaaGreat
namespace Go.Proofs.YtiabbjolepnjkaaGreat
open Go.RowKit
attribute [local go_sem ↓] Go.wp_at_zero Go.wp_at_succ
structure PrR (p:ProbD) (r:Int):Prop where
 task:∀e,checkT p.n p.ins p.outs p.cs=e→e≠0→r=e
 adv:checkT p.n p.ins p.outs p.cs=0→∀e,checkA p.an p.st=e→e≠0→r=e
 mis:checkT p.n p.ins p.outs p.cs=0→checkA p.an p.st=0→p.n≠p.an→r=22
 rng:checkT p.n p.ins p.outs p.cs=0→checkA p.an p.st=0→p.n=p.an→p.rounds<0∨6<p.rounds→r=2
 fine:checkT p.n p.ins p.outs p.cs=0→checkA p.an p.st=0→p.n=p.an→¬(p.rounds<0∨6<p.rounds)→r=0
theorem prR (p:ProbD):PrR p (checkPr p):=by
 refine ⟨fun e h h0=>?_,fun h e h1 h0=>?_,fun h h1 h2=>?_,fun h h1 h2 h3=>?_,fun h h1 h2 h3=>?_⟩<;>unfold checkPr
 ·rw[h,if_neg h0]
 ·rw[h,if_pos rfl,h1,if_neg h0]
 ·rw[h,if_pos rfl,h1,if_pos rfl,if_neg h2]
 ·rw[h,if_pos rfl,h1,if_pos rfl,if_pos h2,if_pos h3]
 ·rw[h,if_pos rfl,h1,if_pos rfl,if_pos h2,if_neg h3]
theorem Za {p:ProbD} (h:checkPr p=0):checkT p.n p.ins p.outs p.cs=0∧checkA p.an p.st=0∧p.n=p.an∧0≤p.rounds∧p.rounds≤6:=by
 unfold checkPr at h;by_cases h1:checkT p.n p.ins p.outs p.cs=0
 ·rw[if_pos h1]at h;by_cases h2:checkA p.an p.st=0
  ·rw[if_pos h2]at h;by_cases h3:p.n=p.an
   ·rw[if_pos h3]at h;by_cases h4:p.rounds<0∨6<p.rounds
    ·rw[if_pos h4]at h;cases h
    ·exact ⟨h1,h2,h3,by omega,by omega⟩
   ·rw[if_neg h3]at h;cases h
  ·rw[if_neg h2]at h;exact absurd h h2
 ·rw[if_neg h1]at h;exact absurd h h1
theorem ZA {S S':Nat→Prop} {w:World} {vc vs:Value} {p:ProbD} (hc:Sl kCase S w vc p.cs) (hs:Sl (kSl (kFlat 8)) S' w vs p.st):
  Calls Tryz.prog 115 #[.agg #[p.n,p.ins,p.outs,vc,p.an,vs,p.rounds]] w (Post w fun _ r=>r=.int .i64 (checkPr p)):=by
 have HPR:=zhd (prR p);obtain ⟨r,hr⟩:=zn (checkPr p);rw[←hr]at HPR ⊢;obtain ⟨ca,cc,rfl,_⟩:=hc.form;obtain ⟨sa,sc,rfl,_⟩:=hs.form;have KT:Hid (∀W,Below w.heap.size w W→Calls Tryz.prog 140 #[.agg #[p.n,p.ins,p.outs,.slice ca p.cs.length cc]] W (Post W fun _ r=>r=.int .i64 (checkT p.n p.ins p.outs p.cs))):=zhd fun W hW=>zaN _ _ _ (hc.ext hW);have KA:Hid (∀W,Below w.heap.size w W→Calls Tryz.prog 141 #[.agg #[p.an,.slice sa p.st.length sc]] W (Post W fun _ r=>r=.int .i64 (checkA p.an p.st))):=zhd fun W hW=>zaM _ (hs.ext hW);obtain ⟨e1,he1⟩:∃e,e=checkT p.n p.ins p.outs p.cs:=⟨_,rfl⟩;obtain ⟨e2,he2⟩:∃e,e=checkA p.an p.st:=⟨_,rfl⟩;rw[←he1]at KT;rw[←he2]at KA;have HE1:=zhd he1.symm;have HE2:=zhd he2.symm;clear hr he1 he2 hc hs;have ex:=ze w (.cells #[p.n,p.ins,p.outs,.slice ca p.cs.length cc,p.an,.slice sa p.st.length sc,p.rounds] 29);have R:Row (w.alloc (.cells #[p.n,p.ins,p.outs,.slice ca p.cs.length cc,p.an,.slice sa p.st.length sc,p.rounds] 29)) w.heap.size 29 [p.n,p.ins,p.outs,.slice ca p.cs.length cc,p.an,.slice sa p.st.length sc,p.rounds]:=zi w [_,_,_,_,_,_,_] _;go_enter Tryz.func115,Tryz.ntmps115;go_wp2_with fail;refine (KT.out _ ex).mono ?_;rintro _ w1 ⟨_,rfl,hb1,rfl⟩;replace R:=R.ext hb1;replace ex:=za ex hb1;clear hb1;by_cases h1:e1=0
 case neg=>
  have RR:=zhd (HPR.out.task e1 HE1.out h1);have d1:(e1 !=0)=true:=by simp[h1]
  clear h1;go_wp2;go_ret;exact .mk ex (zr RR.out.symm)
 subst h1;have t4:=R.zc 4 rfl;have t5:=R.zc 5 rfl;go_wp2_with fail;refine (KA.out _ ex).mono ?_;rintro _ w2 ⟨_,rfl,hb2,rfl⟩;clear t4 t5;replace R:=R.ext hb2;replace ex:=za ex hb2;clear hb2;by_cases h2:e2=0
 case neg=>
  have RR:=zhd (HPR.out.adv HE1.out e2 HE2.out h2);have d2:(e2 !=0)=true:=by simp[h2]
  clear h2;go_wp2;go_ret;exact .mk ex (zr RR.out.symm)
 subst h2;have t0:=R.zc 0 rfl;have t4:=R.zc 4 rfl;have t6:=R.zc 6 rfl;obtain ⟨n,hn⟩:=zn p.n;obtain ⟨an,han⟩:∃n,n=p.an:=⟨_,rfl⟩;obtain ⟨k,hk⟩:∃n,n=p.rounds:=⟨_,rfl⟩;rw[←hn]at t0;rw[←han]at t4;rw[←hk]at t6;have HM:Hid (n≠an→r=22):=zhd fun h=>HPR.out.mis HE1.out HE2.out (by rw[←hn,←han];exact h);have HR:Hid (n=an→k<0∨6<k→r=2):=zhd fun h h'=>HPR.out.rng HE1.out HE2.out (by rw[←hn,←han];exact h) (by rw[←hk];exact h');have HF:Hid (n=an→¬(k<0∨6<k)→r=0):=zhd fun h h'=>HPR.out.fine HE1.out HE2.out (by rw[←hn,←han];exact h) (by rw[←hk];exact h');clear hn han hk;by_cases h3:n=an
 case neg=>
  have RR:=zhd (HM.out h3);have d3:(n !=an)=true:=by simp[h3]
  clear h3;go_wp2;go_ret;exact .mk ex (zr RR.out.symm)
 have d3:(n !=an)=false:=by simp[h3]
 have HE:=zhd h3;clear h3;by_cases h4:k<0
 ·have RR:=zhd (HR.out HE.out (.inl h4));go_wp2;go_ret;exact .mk ex (zr RR.out.symm)
 by_cases h5:6<k
 ·have RR:=zhd (HR.out HE.out (.inr h5));go_wp2;go_ret;exact .mk ex (zr RR.out.symm)
 ·have RR:=zhd (HF.out HE.out (by omega));go_wp2;go_ret;exact .mk ex (zr RR.out.symm)
theorem XG {S S':Nat→Prop} {w:World} {vc vs:Value} {p:ProbD} (hc:Sl kCase S w vc p.cs) (hs:Sl (kSl (kFlat 8)) S' w vs p.st) (hl:p.st.length≤1000):
  Calls Tryz.prog 126 #[.agg #[p.n,p.ins,p.outs,vc,p.an,vs,p.rounds]] w (Post w fun _ r=>r=.int .i64 (checkPr p)):=by
 have HPR:=zhd (prR p);obtain ⟨r,hr⟩:=zn (checkPr p);rw[←hr]at HPR ⊢;obtain ⟨ca,cc,rfl,_⟩:=hc.form;obtain ⟨sa,sc,rfl,_⟩:=hs.form;have KT:Hid (∀W,Below w.heap.size w W→Calls Tryz.prog 154 #[.agg #[p.n,p.ins,p.outs,.slice ca p.cs.length cc]] W (Post W fun _ r=>r=.int .i64 (checkT p.n p.ins p.outs p.cs))):=zhd fun W hW=>zaq _ _ _ (hc.ext hW);have KA:Hid (∀W,Below w.heap.size w W→Calls Tryz.prog 155 #[.agg #[p.an,.slice sa p.st.length sc]] W (Post W fun _ r=>r=.int .i64 (checkA p.an p.st))):=zhd fun W hW=>Ya _ (hs.ext hW) hl;obtain ⟨e1,he1⟩:∃e,e=checkT p.n p.ins p.outs p.cs:=⟨_,rfl⟩;obtain ⟨e2,he2⟩:∃e,e=checkA p.an p.st:=⟨_,rfl⟩;rw[←he1]at KT;rw[←he2]at KA;have HE1:=zhd he1.symm;have HE2:=zhd he2.symm;clear hr he1 he2 hc hs;have ex:=ze w (.cells #[p.n,p.ins,p.outs,.slice ca p.cs.length cc,p.an,.slice sa p.st.length sc,p.rounds] 29);have R:Row (w.alloc (.cells #[p.n,p.ins,p.outs,.slice ca p.cs.length cc,p.an,.slice sa p.st.length sc,p.rounds] 29)) w.heap.size 29 [p.n,p.ins,p.outs,.slice ca p.cs.length cc,p.an,.slice sa p.st.length sc,p.rounds]:=zi w [_,_,_,_,_,_,_] _;go_enter Tryz.func126,Tryz.ntmps126;go_wp2_with fail;refine (KT.out _ ex).mono ?_;rintro _ w1 ⟨_,rfl,hb1,rfl⟩;replace R:=R.ext hb1;replace ex:=za ex hb1;clear hb1;by_cases h1:e1=0
 case neg=>
  have RR:=zhd (HPR.out.task e1 HE1.out h1);have d1:(e1 !=0)=true:=by simp[h1]
  clear h1;go_wp2;go_ret;exact .mk ex (zr RR.out.symm)
 subst h1;have t4:=R.zc 4 rfl;have t5:=R.zc 5 rfl;go_wp2_with fail;refine (KA.out _ ex).mono ?_;rintro _ w2 ⟨_,rfl,hb2,rfl⟩;clear t4 t5;replace R:=R.ext hb2;replace ex:=za ex hb2;clear hb2;by_cases h2:e2=0
 case neg=>
  have RR:=zhd (HPR.out.adv HE1.out e2 HE2.out h2);have d2:(e2 !=0)=true:=by simp[h2]
  clear h2;go_wp2;go_ret;exact .mk ex (zr RR.out.symm)
 subst h2;have t0:=R.zc 0 rfl;have t4:=R.zc 4 rfl;have t6:=R.zc 6 rfl;obtain ⟨n,hn⟩:=zn p.n;obtain ⟨an,han⟩:∃n,n=p.an:=⟨_,rfl⟩;obtain ⟨k,hk⟩:∃n,n=p.rounds:=⟨_,rfl⟩;rw[←hn]at t0;rw[←han]at t4;rw[←hk]at t6;have HM:Hid (n≠an→r=22):=zhd fun h=>HPR.out.mis HE1.out HE2.out (by rw[←hn,←han];exact h);have HR:Hid (n=an→k<0∨6<k→r=2):=zhd fun h h'=>HPR.out.rng HE1.out HE2.out (by rw[←hn,←han];exact h) (by rw[←hk];exact h');have HF:Hid (n=an→¬(k<0∨6<k)→r=0):=zhd fun h h'=>HPR.out.fine HE1.out HE2.out (by rw[←hn,←han];exact h) (by rw[←hk];exact h');clear hn han hk;by_cases h3:n=an
 case neg=>
  have RR:=zhd (HM.out h3);have d3:(n !=an)=true:=by simp[h3]
  clear h3;go_wp2;go_ret;exact .mk ex (zr RR.out.symm)
 have d3:(n !=an)=false:=by simp[h3]
 have HE:=zhd h3;clear h3;by_cases h4:k<0
 ·have RR:=zhd (HR.out HE.out (.inl h4));go_wp2;go_ret;exact .mk ex (zr RR.out.symm)
 by_cases h5:6<k
 ·have RR:=zhd (HR.out HE.out (.inr h5));go_wp2;go_ret;exact .mk ex (zr RR.out.symm)
 ·have RR:=zhd (HF.out HE.out (by omega));go_wp2;go_ret;exact .mk ex (zr RR.out.symm)
def sumW (st:Moves) (k:Nat) (l:List (List Int)) (i:Nat):Nat:=((l.take i).map fun m=>cntW st k (nth m 7).toNat).sum
theorem zgn (st:Moves) (k:Nat) (l:List (List Int)):sumW st k l 0=0:=rfl
theorem zgo {st:Moves} {k:Nat} {l:List (List Int)} {i:Nat} (h:i<l.length):sumW st k l (i+1)=sumW st k l i+cntW st k (nth (nthL l i) 7).toNat:=by
 unfold sumW;rw[yW h,List.map_append,List.sum_append];simp
theorem zhF (st:Moves) (k s:Nat):sumW st k (nthM st s) (nthM st s).length=cntW st (k+1) s:=by unfold sumW;rw[List.take_length];rfl
def cutW (st:Moves) (k L s:Nat):Nat:=min (cntW st k s) (L+1)
def cntsL (st:Moves) (k L n:Nat):List Int:=(List.range n).map fun s=>(cutW st k L s:Int)
theorem zS (st:Moves) (k L n:Nat):(cntsL st k L n).length=n:=by simp[cntsL]
theorem ZZ {st:Moves} {k L n s:Nat} (h:s<n):nth (cntsL st k L n) s=(cutW st k L s:Int):=by simp[nth,cntsL,h]
theorem zfl (st:Moves) (k L n:Nat):cntsL st k L (n+1)=cntsL st k L n++[(cutW st k L n:Int)]:=by simp[cntsL,List.range_succ]
theorem zae (st:Moves) (L n:Nat):cntsL st 0 L n=List.replicate n 1:=by
 apply List.ext_getElem (by simp[cntsL]);intro i h1 h2;simp[cntsL,cutW,cntW]
theorem Q7 (st:Moves) (k L s:Nat):cutW st k L s≤L+1:=Nat.min_le_right _ _
theorem Qk {st:Moves} {k L n:Nat} (hL:L≤1048576):∀x∈cntsL st k L n,WF x:=by
 intro x hx;obtain ⟨s,_,rfl⟩:=List.mem_map.1 hx;have:=Q7 st k L s;exact WF.small (by omega)
theorem zf2 (a b L:Nat):min (min a (L+1)+min b (L+1)) (L+1)=min (a+b) (L+1):=by omega
def Cnts (base:Nat) (W:World) (v:Value) (l:List Int):Prop:=W.ownsRow base 3 1 v l.length (l.map (Value.int .i64))
theorem Cnts.read {base:Nat} {W:World} {v:Value} {l:List Int} (h:Cnts base W v l) (hw:∀x∈l,WF x):Ints (fun b=>base≤b) W v l:=.of_own h hw
theorem Cnts.ext {base:Nat} {W W':World} {v:Value} {l:List Int} (h:Cnts base W v l) (hb:Below W.heap.size W W'):Cnts base W' v l:=yd h hb
theorem Cnts.snoc {base:Nat} {W:World} {v:Value} {l:List Int} {x:Int} (h:W.ownsRow base 3 1 v (l.length+1) (l.map (Value.int .i64)++[.int .i64 x])):Cnts base W v (l++[x]):=by
 unfold Cnts;simpa using h
theorem Cnts.lt {base:Nat} {W:World} {v:Value} {l:List Int} (h:Cnts base W v l):∀k,v.ownBlock=some k→base≤k∧k<W.heap.size:=World.ownsRow.lt h
theorem Cnts.idx {base:Nat} {W:World} {a:Option Addr} {n c:Nat} {l:List Int} (h:Cnts base W (.slice a n c) l) (hn:n=l.length):∀k:Nat,k<l.length→∀W':World,(Instr.indexAt 36 (.slice a n c) (.int .i64 k)).run Tryz.prog W'=.ok (.pointer (some (adr a k))) W':=by
 obtain ⟨i,hi,_,h1,_⟩:=info_parts zI;intro k hk W';have had:Ad (fun _=>True) W a n c:=by
  rcases World.ownsRow.lt h with _
  rcases (h:W.ownsRow base 3 1 _ _ _).2 with ⟨e,h0⟩ | ⟨g,cap,cur,e,hb,hg,_⟩
  ·omega
  ·injection e with e1 e2 e3;subst e1;exact .inr ⟨g,0,rfl,(Array.getElem?_eq_some_iff.1 hg).1,trivial⟩
 exact zL Tryz.underlying36 hi h1 had k (by omega) W'
theorem za0 {w W W':World} {xs:List Value} {e:TypeId} (R:Row W w.heap.size e xs) (h:Below (w.heap.size+1) W W'):Row W' w.heap.size e xs:=R.agree (S:=fun b=>b=w.heap.size) (.of_below h fun b hb _=>by omega) rfl
theorem ze0 {S:Nat→Prop} {w:World} {vs:Value} {st:Moves} (n:Int) (hs:Sl (kSl (kFlat 8)) S w vs st) (hok:MovesOK n st) (h1:1≤st.length) (hl:st.length≤1000) (K L:Nat) (hK:K≤6) (hL:L≤1048576):
  Calls Tryz.prog 142 #[.agg #[n,vs],K,L] w (Post w fun _ r=>r=.int .i64 (cutW st K L 0:Nat)):=by
 obtain ⟨sa,sc,rfl,hm⟩:=hs.addr;have Q:=hs.idxS;have HS:=zhd hs;have HOK:=zhd hok;have HRF:=zhd hs.rows_few;clear hs hok;have ex:=ze w (.cells #[n,.slice sa st.length sc] 27);have R:Row (w.alloc (.cells #[n,.slice sa st.length sc] 27)) w.heap.size 27 [n,.slice sa st.length sc]:=zi w [_,_] _;have HO0:=zhd (World.ownsRow_nil (w.alloc (.cells #[n,.slice sa st.length sc] 27)) (w.heap.size+1) 3 1);go_enter Tryz.func142,Tryz.ntmps142;go_wp2;go_loopw [7,8] (fun v i wr=>∃s:Nat,s≤st.length∧i=.int .i64 s∧Below w.heap.size w wr∧Row wr w.heap.size 27 [n,.slice sa st.length sc]∧∃a c,v=.slice a s c∧Hid (wr.ownsRow (w.heap.size+1) 3 1 (.slice a s c) s (List.replicate s (.int .i64 1)))) (fun _ i _=>st.length - (intOf i).toNat)
 case atStart=>exact ⟨0,Nat.zero_le _,rfl,ex,R,none,0,rfl,HO0⟩
 case round=>
  clear ex R HO0;obtain ⟨s,hs,rfl,hb,R,va,vc,rfl,HO⟩:=hrel;have t1:=R.zc 1 rfl;have hbs:=R.lt;by_cases hlt:s<st.length
  ·go_wp2_with (at_builtin;refine zQ rfl (.tmp 21) (.tmp 22) 36 rfl 3 _ 8 Tryz.underlying36 zI rfl (w.heap.size+1) _ s (List.replicate s (.int .i64 1)) rfl HO.out (.int .i64 1) rfl rfl (by omega) (by omega) (by omega) ?_;intro g' c' w' ho hb' hag _);have HO2:Hid (w'.ownsRow (w.heap.size+1) 3 1 (.slice (some ⟨g',0,none⟩) (s+1) c') (s+1) (List.replicate (s+1) (.int .i64 1))):=zhd (by rw[List.replicate_succ'];exact ho);have R':=za0 R hb';have hb2:=hb.trans (hb'.mono (Nat.le_succ _));clear ho hb' hag R hb;go_wp2;go_roundw
   case rel=>exact ⟨s+1,by omega,by go_num,hb2,R',_,_,rfl,HO2⟩
   case measure=>simp[intOf];omega
  obtain rfl:s=st.length:=by omega
  have HC:Hid (Cnts (w.heap.size+1) wr (.slice va st.length vc) (cntsL st 0 L st.length)):=zhd (by unfold Cnts;rw[zS,zae,List.map_replicate];exact HO.out);clear HO;obtain ⟨wo,rfl⟩:∃wo:World,wo=wr:=⟨_,rfl⟩;go_wp2;clear t1 hbs;go_loopw [7,9,10,11,12,13] (fun v i _ _ _ _ wr=>∃k:Nat,k≤K∧i=.int .i64 k∧Below w.heap.size w wr∧Row wr w.heap.size 27 [n,.slice sa st.length sc]∧∃a c,v=.slice a st.length c∧Hid (Cnts (w.heap.size+1) wr (.slice a st.length c) (cntsL st k L st.length))) (fun _ i _ _ _ _ _=>K - (intOf i).toNat)
  case atStart=>exact ⟨0,Nat.zero_le _,rfl,hb,R,va,vc,rfl,HC⟩
  case round=>
   clear hb R HC;obtain ⟨k,hk,rfl,hb,R,va,vc,rfl,HC⟩:=hrel;by_cases hkt:k<K
   case neg=>
    obtain rfl:k=K:=by omega
    have hci:∀W':World,(Instr.indexAt 36 (.slice va st.length vc) (.int .i64 0)).run Tryz.prog W'=.ok (.pointer (some (adr va 0))) W':=HC.out.idx (zS _ _ _ _).symm 0 (by rw[zS];omega);have hcc:=yv (HC.out.read (Qk hL)) (.refl _ _) 0 (by rw[zS];omega);have hcv:((cntsL st k L st.length).map (Value.int .i64)).getD 0 undef=.int .i64 (cutW st k L 0:Nat):=by
     rw[←ZZ (show 0<st.length by omega)];rw[List.getD_eq_getElem?_getD,List.getElem?_map,get?_nth (by rw[zS];omega)];rfl
    rw[hcv]at hcc;have hbk:=World.block_lt_of_cell? _ _ hcc;clear hcv;go_wp2;go_ret;exact .mk hb rfl
   obtain ⟨wo,rfl⟩:∃wo:World,wo=wr:=⟨_,rfl⟩;have HC0:=zhd (World.ownsRow_nil wo (w.heap.size+1) 3 1);have HC1:Hid (Cnts (w.heap.size+1) wo (.slice none 0 0) (cntsL st (k+1) L 0)):=zhd HC0.out;clear HC0;go_wp2;go_loopw [10,11,12,13] (fun v i _ _ wr=>∃s:Nat,s≤st.length∧i=.int .i64 s∧Below w.heap.size w wr∧Row wr w.heap.size 27 [n,.slice sa st.length sc]∧Hid (Cnts (w.heap.size+1) wr (.slice va st.length vc) (cntsL st k L st.length))∧∃a c,v=.slice a s c∧Hid (Cnts (w.heap.size+1) wr (.slice a s c) (cntsL st (k+1) L s))∧(∀g,(Value.slice a s c).ownBlock=some g→(Value.slice va st.length vc).ownBlock≠some g)) (fun _ i _ _ _=>st.length - (intOf i).toNat)
   case atStart=>exact ⟨0,Nat.zero_le _,rfl,hb,R,HC,none,0,rfl,HC1,fun g e=>by cases e⟩
   case round=>
    clear hb R HC HC1;obtain ⟨s,hs,rfl,hb,R,HC,na,nc,rfl,HN,hne⟩:=hrel;have t1:=R.zc 1 rfl;by_cases hst:s<st.length
    case neg=>
     obtain rfl:s=st.length:=by omega
     go_wp2;go_roundw
     case rel=>exact ⟨k+1,by omega,by go_num,hb,R,na,nc,rfl,HN⟩
     case measure=>simp[intOf];omega
    have q:=Q.out s hst;obtain ⟨b,c,cu,hrow⟩:=HS.out.mrow hb hst;have hlm:=HRF.out s hst;have HSM:=zhd fun i (h:i<(nthM st s).length)=>zgo (st:=st) (k:=k) h;have HSA:=zhd (zhF st k s);have HTO:=zhd (HOK.out s hst).2;have HROW:Hid (∀W,Below w.heap.size w W→∃b c,W.cell? (adr sa s)=some (.slice b (nthM st s).length c)∧Sl (kFlat 8) S W (.slice b (nthM st s).length c) (nthM st s)):=zhd fun W hW=>HS.out.mrow hW hst;obtain ⟨row,hrw⟩:=zn (nthM st s);rw[←hrw]at cu hlm HSM HSA HTO HROW;have HZ:Hid (min (sumW st k row 0) (L+1)=0):=zhd (by rw[zgn];simp);clear hrw hrow q cu;obtain ⟨wo,rfl⟩:∃wo:World,wo=wr:=⟨_,rfl⟩;go_wp2;clear t1;go_loopw [12,13] (fun m i W=>∃j:Nat,j≤row.length∧i=.int .i64 j∧W=wo∧∃x:Nat,m=.int .i64 x∧Hid (x=min (sumW st k row j) (L+1))) (fun _ i _=>row.length - (intOf i).toNat)
    case atStart=>exact ⟨0,Nat.zero_le _,rfl,rfl,0,rfl,zhd HZ.out.symm⟩
    case round=>
     obtain ⟨j,hj,rfl,rfl,x,rfl,HX⟩:=hrel;have t1:=R.zc 1 rfl;have q:=Q.out s hst;obtain ⟨b,c,cu,hrow⟩:=HROW.out wr hb;by_cases hjt:j<row.length
     case neg=>
      obtain rfl:j=row.length:=by omega
      have HV:Hid (x=cutW st (k+1) L s):=zhd (by rw[HX.out,HSA.out];rfl);have hbs:=R.lt;have hbl:=HC.out.lt;have hsl:(cntsL st (k+1) L s).length=s:=zS _ _ _ _;have HNN:Hid (wr.ownsRow (w.heap.size+1) 3 1 (.slice na s nc) s ((cntsL st (k+1) L s).map (Value.int .i64))):=zhd (by have:=HN.out;unfold Cnts at this;rwa [hsl]at this);have HSL:=zhd hsl;clear hsl hrow;go_wp2_with (at_builtin;refine zQ rfl (.tmp 63) (.tmp 65) 36 rfl 3 _ 8 Tryz.underlying36 zI rfl (w.heap.size+1) _ s ((cntsL st (k+1) L s).map (Value.int .i64)) rfl HNN.out (.int .i64 x) rfl rfl (by omega) (by omega) (by omega) ?_;intro g' c' w' ho hb' hag hg');have HN2:Hid (Cnts (w.heap.size+1) w' (.slice (some ⟨g',0,none⟩) (s+1) c') (cntsL st (k+1) L (s+1))):=zhd (by rw[zfl,←HV.out];exact Cnts.snoc (by rw[HSL.out];exact ho));have R':=za0 R hb';have hb2:=hb.trans (hb'.mono (Nat.le_succ _));have HC2:Hid (Cnts (w.heap.size+1) w' (.slice va st.length vc) (cntsL st k L st.length)):=zhd (zJ (S:=fun b=>(Value.slice na s nc).ownBlock≠some b) HC.out (hag _ fun g hg h=>h hg) fun g hg h=>hne g h hg);have hne2:∀g,(Value.slice (some ⟨g',0,none⟩) (s+1) c').ownBlock=some g→(Value.slice va st.length vc).ownBlock≠some g:=fun g e1 e2=>by
       have e3:g'=g:=by simpa[Value.ownBlock] using e1
       subst e3;rcases hg' with h | h
       ·exact hne _ h e2
       ·have:=(hbl _ e2).2;omega
      clear ho hb' hag R hb HC HN HNN hg' hne t1;go_wp2;go_roundw
      case rel=>exact ⟨s+1,by omega,by go_num,hb2,R',HC2,_,_,rfl,HN2,hne2⟩
      case measure=>simp[intOf];omega
     have qm:=hrow.idxM.out j hjt;have hz:=hrow.nums hjt (by decide);have z7:=hz.2 7 (by decide);have hbk:=zZ hrow.ad.1 (by omega) (j * 8);obtain ⟨_,_,hto1,hto2⟩:=HTO.out j hjt;obtain ⟨to,hto⟩:∃t:Nat,nth (nthL row j) 7=t:=⟨(nth (nthL row j) 7).toNat,by omega⟩;rw[hto]at z7 hto1 hto2;have htl:to<st.length:=by omega
     have hci:=HC.out.idx (zS _ _ _ _).symm to (by rw[zS];omega);have hcc:=yv (HC.out.read (Qk hL)) (.refl _ _) to (by rw[zS];omega);have hcv:((cntsL st k L st.length).map (Value.int .i64)).getD to undef=.int .i64 (cutW st k L to:Nat):=by
      rw[←ZZ (show to<st.length by omega)];rw[List.getD_eq_getElem?_getD,List.getElem?_map,get?_nth (by rw[zS];omega)];rfl
     rw[hcv]at hcc;have hbk2:=World.block_lt_of_cell? _ _ hcc;obtain ⟨y,hy⟩:=zn (cutW st k L to);have hxl:x≤L+1:=by rw[HX.out];exact Nat.min_le_right _ _
     have hyl:y≤L+1:=by rw[hy];exact Q7 _ _ _ _
     have HN3:Hid (min (x+y) (L+1)=min (sumW st k row (j+1)) (L+1)):=zhd (by rw[HX.out,hy,HSM.out j hjt,hto,Int.toNat_natCast];exact zf2 _ _ _);rw[←hy]at hcc;have hw1:IntKind.i64.wrap ((x:Int)+(y:Int))=((x+y:Nat):Int):=by rw[IntKind.wrap_i64];omega
     have hw2:IntKind.i64.wrap ((L:Int)+1)=((L+1:Nat):Int):=by rw[IntKind.wrap_i64];omega
     clear hy hcv hz hto hto1 hto2;go_wp2;go_roundw
     case rel=>exact ⟨j+1,by omega,by go_num,trivial,min (x+y) (L+1),zr (by split<;>omega),HN3⟩
     case measure=>simp[intOf];omega
end Go.Proofs.YtiabbjolepnjkaaGreat
