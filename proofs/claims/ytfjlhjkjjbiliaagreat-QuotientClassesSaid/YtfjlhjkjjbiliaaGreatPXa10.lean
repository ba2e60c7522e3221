/- Part of the proof that the laws answer true for every input. -/
import Derived.Test.YtfjlhjkjjbiliaaGreatPXa09
import Derived.StillTailTactics
set_option linter.unusedSimpArgs false
set_option linter.unnecessarySimpa false
set_option linter.unusedVariables false
set_option maxRecDepth 100000
set_option maxHeartbeats 40000000
namespace Go.Proofs.YtfjlhjkjjbiliaaGreat
open Go.RowKit
attribute [local go_sem ↓] Go.wp_at_zero Go.wp_at_succ
theorem Yz {P:Program} {ops:Array Oper} {Q:Exit→Act→World→Prop} {rest:List Oper} {a:Act} {w:World} (h:∀w',QW w w'→wpList P ops Q rest a w'):wpList P ops Q rest a w.drew:=h _ ⟨1,rfl⟩
theorem zex:∃i,Tryz.prog.info? 118=some i∧i.size=8:=zE (by kernel_rfl)
theorem Yg:(Tryz.prog.info? 112).map (fun i=>(i.zero,i.size,i.bytes))=some (some (.slice none 0 0),1,24):=by kernel_rfl
theorem Sl.idxM {S:Nat→Prop} {w:World} {a:Option Addr} {m cap:Nat} {l:List (List Int)} (h:Sl (kFlat 8) S w (.slice a m cap) l):
  Hid (∀k:Nat,k<l.length→∀W:World,(Instr.indexAt 112 (.slice a l.length cap) (.int .i64 k)).run Tryz.prog W=.ok (.pointer (some (adr a (k * 8)))) W):=by
 obtain ⟨i,hi,h1⟩:=zex
 exact zhd (zC Tryz.underlying112 hi h1 h.ad.1)
theorem Sl.idxS {S:Nat→Prop} {w:World} {a:Option Addr} {m cap:Nat} {st:Moves} (h:Sl (kSl (kFlat 8)) S w (.slice a m cap) st):
  Hid (∀k:Nat,k<st.length→∀W:World,(Instr.indexAt 25 (.slice a st.length cap) (.int .i64 k)).run Tryz.prog W=.ok (.pointer (some (adr a k))) W):=by
 obtain ⟨i,hi,_,h1,_⟩:=info_parts Yg
 exact zhd (zz Tryz.underlying25 hi h1 h.ad.1)
theorem Sl.mrow {S:Nat→Prop} {w W:World} {a:Option Addr} {m cap:Nat} {st:Moves} (h:Sl (kSl (kFlat 8)) S w (.slice a m cap) st) (hb:Below w.heap.size w W) {k:Nat} (hk:k<st.length):
  ∃b c,W.cell? (adr a k)=some (.slice b (nthM st k).length c)∧Sl (kFlat 8) S W (.slice b (nthM st k).length c) (nthM st k):=by
 obtain ⟨v,h1,h2⟩:=(h.ext hb).row hk
 have e:nthM st k=st[k]:=by simp[nthM,hk]
 rw[←e]at h2
 obtain ⟨b,c,rfl,_⟩:=h2.form
 exact ⟨b,c,h1,h2⟩
structure MoveR (n:Int) (ns:Nat) (l:List (List Int)) (i:Nat) (r:Int):Prop where
 bad:∀e,checkR (nthL l i)=e→e≠0→r=e
 mis:checkR (nthL l i)=0→nth (nthL l i) 0≠n→r=22
 un:checkR (nthL l i)=0→nth (nthL l i) 0=n→0<i→∀j,j=i - 1→0≤lexN (nthL l j) (nthL l i) 7→r=14
 to:checkR (nthL l i)=0→nth (nthL l i) 0=n→(0<i→∀j,j=i - 1→lexN (nthL l j) (nthL l i) 7<0)→(nth (nthL l i) 7<0∨(ns:Int)≤nth (nthL l i) 7)→r=2
 fine:checkR (nthL l i)=0→nth (nthL l i) 0=n→(0<i→∀j,j=i - 1→lexN (nthL l j) (nthL l i) 7<0)→¬(nth (nthL l i) 7<0∨(ns:Int)≤nth (nthL l i) 7)→r=0
theorem moveR (n:Int) (ns:Nat) (l:List (List Int)) (i:Nat):MoveR n ns l i (moveE n ns l i):=by
 refine ⟨fun e he h0=>?_,fun he h=>?_,fun he h hi j hj hle=>?_,fun he h hu ht=>?_,fun he h hu ht=>?_⟩
 ·unfold moveE;rw[he,if_neg h0]
 ·unfold moveE;rw[he,if_pos rfl,if_pos h]
 ·subst hj;unfold moveE;rw[he,if_pos rfl,if_neg (fun h'=>h' h)];simp[hi,hle]
 all_goals
  have hd:(decide (0<i)&&decide (0≤lexN (nthL l (i - 1)) (nthL l i) 7))=false:=by
   by_cases hi:0<i
   ·have:=hu hi _ rfl;simp;intro _;omega
   ·simp[hi]
  unfold moveE;rw[he,if_pos rfl,if_neg (fun h'=>h' h),hd]
  simp[ht]
theorem za1 {S S':Nat→Prop} {w:World} {vs vl:Value} {st:Moves} {l:List (List Int)} (n:Int) (hs:Sl (kSl (kFlat 8)) S' w vs st) (hv:Sl (kFlat 8) S w vl l) {i:Nat} (hi:i<l.length):
  Calls Tryz.prog 120 #[.agg #[.int .i64 n,vs],vl,.int .i64 i] w (Post w fun _ r=>r=.int .i64 (moveE n st.length l i)):=by
 have HMR:=zhd (moveR n st.length l i)
 obtain ⟨r,hr⟩:∃r,r=moveE n st.length l i:=⟨_,rfl⟩
 rw[←hr]at HMR ⊢
 obtain ⟨sa,sc,rfl,_⟩:=hs.form
 obtain ⟨a,cap,rfl,ad,lo,lm⟩:=hv.form
 unfold maxLen at lm
 have HV:=zhd hv
 have Q:=hv.idxM
 have hz:=hv.nums hi (by decide)
 have z0:=hz.1
 have z1:=hz.2 1 (by decide)
 have z2:=hz.2 2 (by decide)
 have z3:=hz.2 3 (by decide)
 have z4:=hz.2 4 (by decide)
 have z5:=hz.2 5 (by decide)
 have z6:=hz.2 6 (by decide)
 have hbk:=zO ad (show 0<l.length by omega) (i * 8)
 have q:=Q.out i hi
 obtain ⟨m,hm⟩:∃m,m=nthL l i:=⟨_,rfl⟩
 have HM:=zhd hm
 rw[←hm]at z0 z1 z2 z3 z4 z5 z6
 have KR:Hid (∀W,Calls Tryz.prog 138 #[.agg #[.int .i64 (nth m 0),.int .i64 (nth m 1),.int .i64 (nth m 2),.int .i64 (nth m 3),.int .i64 (nth m 4),.int .i64 (nth m 5),.int .i64 (nth m 6)]] W (Post W fun _ r=>r=.int .i64 (checkR m))):=zhd fun W=>Q9 W m
 obtain ⟨e,he⟩:∃e,e=checkR m:=⟨_,rfl⟩
 rw[←he]at KR
 have HE:Hid (checkR (nthL l i)=e):=zhd (by rw[he,hm])
 have exb:=zg (ze w (.cells #[.int .i64 n,.slice sa st.length sc] 27)) (.cells #[.int .i64 (nth m 0),.int .i64 (nth m 1),.int .i64 (nth m 2),.int .i64 (nth m 3),.int .i64 (nth m 4),.int .i64 (nth m 5),.int .i64 (nth m 6)] 116)
 have RA:Row ((w.alloc (.cells #[.int .i64 n,.slice sa st.length sc] 27)).alloc (.cells #[.int .i64 (nth m 0),.int .i64 (nth m 1),.int .i64 (nth m 2),.int .i64 (nth m 3),.int .i64 (nth m 4),.int .i64 (nth m 5),.int .i64 (nth m 6)] 116)) w.heap.size 27 [.int .i64 n,.slice sa st.length sc]:=(zh w [_,_] _).alloc _
 have RM:Row ((w.alloc (.cells #[.int .i64 n,.slice sa st.length sc] 27)).alloc (.cells #[.int .i64 (nth m 0),.int .i64 (nth m 1),.int .i64 (nth m 2),.int .i64 (nth m 3),.int .i64 (nth m 4),.int .i64 (nth m 5),.int .i64 (nth m 6)] 116)) (w.heap.size+1) 116 [.int .i64 (nth m 0),.int .i64 (nth m 1),.int .i64 (nth m 2),.int .i64 (nth m 3),.int .i64 (nth m 4),.int .i64 (nth m 5),.int .i64 (nth m 6)]:=by
  have:=zh (w.alloc (.cells #[.int .i64 n,.slice sa st.length sc] 27)) [.int .i64 (nth m 0),.int .i64 (nth m 1),.int .i64 (nth m 2),.int .i64 (nth m 3),.int .i64 (nth m 4),.int .i64 (nth m 5),.int .i64 (nth m 6)] 116
  rwa [World.size_alloc]at this
 clear hr hs hv hz hm he ad
 go_enter Tryz.func120,Tryz.ntmps120
 go_wp2_with fail
 refine (KR.out _).mono ?_
 rintro _ w1 ⟨_,rfl,hb1,rfl⟩
 have RA1:=RA.ext hb1
 have RM1:=RM.ext hb1
 have hx1:=zb exb hb1
 clear z0 z1 z2 z3 z4 z5 z6 q hbk KR RA RM exb hb1
 by_cases h0:e=0
 case neg=>
  have RR:=zhd (HMR.out.bad e HE.out h0)
  have d0:(e !=0)=true:=by simp[h0]
  clear h0
  go_wp2
  go_ret
  exact .mk hx1 (zk RR.out.symm)
 subst h0
 have t0:=RA1.zc 0 rfl
 have m0:=RM1.zc 0 rfl
 obtain ⟨mn,hmn⟩:∃x,x=nth m 0:=⟨_,rfl⟩
 rw[←hmn]at m0
 have HMN:Hid (nth (nthL l i) 0=mn):=zhd (by rw[hmn,HM.out])
 clear hmn
 by_cases hn:mn=n
 case neg=>
  have RR:=zhd (HMR.out.mis HE.out (by rw[HMN.out];exact hn))
  have d0:(mn !=n)=true:=by simp[hn]
  clear hn
  go_wp2
  go_ret
  exact .mk hx1 (zk RR.out.symm)
 have d0:(mn !=n)=false:=by simp[hn]
 have HN:Hid (nth (nthL l i) 0=n):=zhd (by rw[HMN.out,hn])
 clear hn
 by_cases hi0:0<i
 case pos=>
  obtain ⟨j,hj⟩:∃j,j=i - 1:=⟨_,rfl⟩
  have hjl:j<l.length:=by omega
  have q1:=Q.out j hjl
  have hz:=(HV.out.ext hx1).nums hjl (by decide)
  have z0:=hz.1
  have z1:=hz.2 1 (by decide)
  have z2:=hz.2 2 (by decide)
  have z3:=hz.2 3 (by decide)
  have z4:=hz.2 4 (by decide)
  have z5:=hz.2 5 (by decide)
  have z6:=hz.2 6 (by decide)
  obtain ⟨m',hm'⟩:∃m,m=nthL l j:=⟨_,rfl⟩
  rw[←hm']at z0 z1 z2 z3 z4 z5 z6
  have KO:Hid (∀W,Calls Tryz.prog 139 #[.agg #[.int .i64 (nth m' 0),.int .i64 (nth m' 1),.int .i64 (nth m' 2),.int .i64 (nth m' 3),.int .i64 (nth m' 4),.int .i64 (nth m' 5),.int .i64 (nth m' 6)],.agg #[.int .i64 (nth m 0),.int .i64 (nth m 1),.int .i64 (nth m 2),.int .i64 (nth m 3),.int .i64 (nth m 4),.int .i64 (nth m 5),.int .i64 (nth m 6)]] W (Post W fun _ r=>r=.int .i64 (lexN m' m 7))):=zhd fun W=>zbb W m' m
  obtain ⟨c,hc⟩:∃c,c=lexN m' m 7:=⟨_,rfl⟩
  rw[←hc]at KO
  have w1':IntKind.i64.wrap ((i:Int) - 1)=j:=by rw[IntKind.wrap_i64];omega
  have w2':decide ((0:Int)<(i:Int))=true:=decide_eq_true (by omega)
  have w3':decide (0<i)=true:=decide_eq_true hi0
  have w4':(0:Int)≤(j:Int):=by omega
  have w5':(j:Int)<(l.length:Int):=by omega
  have HUN:Hid (0≤c→r=14):=zhd fun h=>HMR.out.un HE.out HN.out hi0 j hj (by rw[←hm',←HM.out,←hc];exact h)
  have HFI:Hid (c<0→(0<i→∀j,j=i - 1→lexN (nthL l j) (nthL l i) 7<0)):=zhd fun h _ j2 hj2=>by
   subst hj2;rw[←hj,←hm',←HM.out,←hc];exact h
  clear hc hj hz hm'
  go_wp2
  clear m0
  have m0:=RM1.zc 0 rfl
  have m1:=RM1.zc 1 rfl
  have m2:=RM1.zc 2 rfl
  have m3:=RM1.zc 3 rfl
  have m4:=RM1.zc 4 rfl
  have m5:=RM1.zc 5 rfl
  have m6:=RM1.zc 6 rfl
  go_still_tail 10,(by kernel_rfl)
  refine Yz fun w2 hq2=>?_
  clear q1 z0 z1 z2 z3 z4 z5 z6 m0 m1 m2 m3 m4 m5 m6 t0 w1' w4' w5'
  go_wp2_with fail
  refine (KO.out _).mono ?_
  rintro _ w3 ⟨_,rfl,hb3,rfl⟩
  have hq3:=zb hq2.ext hb3
  have hx3:=zb hx1 hq3
  have RA3:=RA1.ext hq3
  clear KO hb3
  by_cases hc0:0≤c
  ·have RR:=zhd (HUN.out hc0)
   go_wp2
   go_ret
   exact .mk hx3 (zk RR.out.symm)
  have HF:=zhd (HFI.out (by omega))
  have t1:=RA3.zc 1 rfl
  have q:=Q.out i hi
  have z7:=((HV.out.ext hx3).nums hi (by decide)).2 7 (by decide)
  obtain ⟨to,hto⟩:∃x,x=nth (nthL l i) 7:=⟨_,rfl⟩
  rw[←hto]at z7
  have HTO:=zhd hto.symm
  have w6':(0:Int)≤(i:Int):=by omega
  have w7':(i:Int)<(l.length:Int):=by omega
  clear hto
  by_cases ht1:to<0
  ·have RR:=zhd (HMR.out.to HE.out HN.out HF.out (.inl (by rw[HTO.out];exact ht1)))
   have dt:decide (to<0)=true:=decide_eq_true ht1
   go_wp2
   go_quiet (fail)
   go_wp2
   go_ret
   exact .mk (zm hx3 _) (zk RR.out.symm)
  have dt:decide (to<0)=false:=decide_eq_false ht1
  by_cases ht2:(st.length:Int)≤to
  ·have RR:=zhd (HMR.out.to HE.out HN.out HF.out (.inr (by rw[HTO.out];exact ht2)))
   go_wp2
   go_quiet (fail)
   go_wp2
   go_ret
   exact .mk (zm hx3 _) (zk RR.out.symm)
  ·have RR:=zhd (HMR.out.fine HE.out HN.out HF.out (by rw[HTO.out];omega))
   go_wp2
   go_quiet (fail)
   go_wp2
   go_ret
   exact .mk (zm hx3 _) (zk RR.out.symm)
 case neg=>
  have HF:Hid (0<i→∀j,j=i - 1→lexN (nthL l j) (nthL l i) 7<0):=zhd fun h=>by omega
  have w2':decide ((0:Int)<(i:Int))=false:=decide_eq_false (by omega)
  have w3':decide (0<i)=false:=decide_eq_false hi0
  go_wp2
  go_quiet (fail)
  refine zQ fun w3 hq3'=>?_
  have hq3:=hq3'.ext
  have hx3:=zb hx1 hq3
  have RA3:=RA1.ext hq3
  clear t0 m0
  have t1:=RA3.zc 1 rfl
  have q:=Q.out i hi
  have z7:=((HV.out.ext hx3).nums hi (by decide)).2 7 (by decide)
  obtain ⟨to,hto⟩:∃x,x=nth (nthL l i) 7:=⟨_,rfl⟩
  rw[←hto]at z7
  have HTO:=zhd hto.symm
  have w6':(0:Int)≤(i:Int):=by omega
  have w7':(i:Int)<(l.length:Int):=by omega
  clear hto
  by_cases ht1:to<0
  ·have RR:=zhd (HMR.out.to HE.out HN.out HF.out (.inl (by rw[HTO.out];exact ht1)))
   have dt:decide (to<0)=true:=decide_eq_true ht1
   go_wp2
   go_quiet (fail)
   go_wp2
   go_ret
   exact .mk (zm hx3 _) (zk RR.out.symm)
  have dt:decide (to<0)=false:=decide_eq_false ht1
  by_cases ht2:(st.length:Int)≤to
  ·have RR:=zhd (HMR.out.to HE.out HN.out HF.out (.inr (by rw[HTO.out];exact ht2)))
   go_wp2
   go_quiet (fail)
   go_wp2
   go_ret
   exact .mk (zm hx3 _) (zk RR.out.symm)
  ·have RR:=zhd (HMR.out.fine HE.out HN.out HF.out (by rw[HTO.out];omega))
   go_wp2
   go_quiet (fail)
   go_wp2
   go_ret
   exact .mk (zm hx3 _) (zk RR.out.symm)
def MovesOK (n:Int) (st:Moves):Prop:=∀s,s<st.length→0<(nthM st s).length∧∀i,i<(nthM st s).length→checkR (nthL (nthM st s) i)=0∧nth (nthL (nthM st s) i) 0=n∧0≤nth (nthL (nthM st s) i) 7∧nth (nthL (nthM st s) i) 7<(st.length:Int)
theorem zco {n:Int} {ns:Nat} {l:List (List Int)} {i:Nat} (h:moveE n ns l i=0):checkR (nthL l i)=0∧nth (nthL l i) 0=n∧0≤nth (nthL l i) 7∧nth (nthL l i) 7<(ns:Int):=by
 unfold moveE at h
 by_cases h1:checkR (nthL l i)=0
 ·rw[if_pos h1]at h
  by_cases h2:nth (nthL l i) 0≠n
  ·rw[if_pos h2]at h;cases h
  ·rw[if_neg h2]at h
   split at h
   ·cases h
   ·split at h
    ·cases h
    ·rename_i h3;exact ⟨h1,by omega,by omega,by omega⟩
 ·rw[if_neg h1]at h;exact absurd h h1
theorem movesOK {n:Int} {st:Moves} (h:Zeros (stateE n st) st.length):MovesOK n st:=by
 intro s hs
 have:=h s hs
 unfold stateE at this
 split at this
 ·cases this
 ·rename_i h0
  exact ⟨by omega,fun i hi=>zco (yX.1 this i hi)⟩
theorem zaf {l:List Int} (h:checkG l=0):1≤nth l 0∧nth l 0≤5:=by
 unfold checkG at h
 split at h
 ·cases h
 ·omega
theorem yL {l:List Int} (h:checkR l=0):1≤nth l 0∧nth l 0≤5∧0≤nth l 6∧nth l 6<32:=by
 unfold checkR at h
 split at h
 ·rename_i hg
  obtain ⟨h1,h5⟩:=zaf hg
  unfold checkP at h
  rw[if_neg (by omega)]at h
  split at h
  ·cases h
  ·rename_i h2
   have:2 ^ (nth l 0).toNat≤32:=(yH (p:=(nth l 0).toNat) (by omega)).1
   omega
 ·rename_i hg;exact absurd h hg
theorem zbv (l:Moves) (x:List (List Int)):movesN (l++[x])=movesN l+x.length:=by simp[movesN,List.foldl_append]
theorem zfW {st:Moves} {k:Nat} (h:k<st.length):nthM st k=st[k]:=by simp[nthM,h]
theorem xK {st:Moves} {k:Nat} (h:k<st.length):movesN (st.take (k+1))=movesN (st.take k)+(nthM st k).length:=by
 rw[List.take_succ_eq_append_getElem h,zbv,zfW h]
theorem ZM {st:Moves} {B:Nat} (hB:∀k,k<st.length→(nthM st k).length≤B):∀k,k≤st.length→movesN (st.take k)≤k * B:=by
 intro k
 induction k with
 | zero=>intro _;simp[movesN]
 | succ k ih=>
  intro hk
  rw[xK (by omega),Nat.succ_mul]
  have:=ih (by omega)
  have:=hB k (by omega)
  omega
theorem Sl.rows_few {S:Nat→Prop} {w:World} {v:Value} {st:Moves} (h:Sl (kSl (kFlat 8)) S w v st):∀k,k<st.length→(nthM st k).length≤140737488355328:=by
 intro k hk
 obtain ⟨a,cap,rfl,_⟩:=h.form
 obtain ⟨b,c,_,h2⟩:=h.mrow (.refl _ _) hk
 exact h2.few
theorem Sl.addr {α:Type} {K:Kd α} {S:Nat→Prop} {w:World} {v:Value} {l:List α} (h:Sl K S w v l):∃a cap,v=.slice a l.length cap∧l.length≤9223372036854775807:=by
 obtain ⟨a,cap,e,_⟩:=h.form
 have:=h.len
 exact ⟨a,cap,e,by unfold maxLen at this;omega⟩
theorem ZU {S:Nat→Prop} {w:World} {vs:Value} {st:Moves} (n:Int) (hs:Sl (kSl (kFlat 8)) S w vs st) (hl:st.length≤1000):
  Calls Tryz.prog 101 #[.agg #[.int .i64 n,vs]] w (Post w fun _ r=>r=.int .i64 (movesN st)):=by
 have HS:=zhd hs
 have HB:Hid (∀k,k≤st.length→movesN (st.take k)≤k * 140737488355328):=zhd (ZM hs.rows_few)
 have HL:Hid (∀k,k<st.length→(nthM st k).length≤140737488355328):=zhd hs.rows_few
 have HF:Hid (movesN (st.take st.length)=movesN st):=zhd (by rw[List.take_length])
 have HX:=zhd fun k (h:k<st.length)=>xK h
 obtain ⟨sa,sc,rfl,hm⟩:=hs.addr
 have Q:=hs.idxS
 clear hs
 have ex:=ze w (.cells #[.int .i64 n,.slice sa st.length sc] 27)
 have R:Row (w.alloc (.cells #[.int .i64 n,.slice sa st.length sc] 27)) w.heap.size 27 [.int .i64 n,.slice sa st.length sc]:=zh w [_,_] _
 go_enter Tryz.func101,Tryz.ntmps101
 go_wp2
 go_loopw [3,4] (fun s i wr=>∃k z:Nat,k≤st.length∧i=.int .i64 k∧s=.int .i64 z∧Hid (z=movesN (st.take k))∧Below w.heap.size w wr∧Row wr w.heap.size 27 [.int .i64 n,.slice sa st.length sc]) (fun _ i _=>st.length - (intOf i).toNat)
 case atStart=>exact ⟨0,0,Nat.zero_le _,rfl,rfl,zhd rfl,ex,R⟩
 case round=>
  clear ex R
  obtain ⟨k,z,hk,rfl,rfl,HZ,hb,R⟩:=hrel
  have t1:=R.zc 1 rfl
  by_cases hlt:k<st.length
  ·have q:=Q.out k hlt
   obtain ⟨b,c,cu,_⟩:=HS.out.mrow hb hlt
   obtain ⟨m,hm⟩:∃m,m=(nthM st k).length:=⟨_,rfl⟩
   rw[←hm]at cu
   have hz1:z≤k * 140737488355328:=by rw[HZ.out];exact HB.out k hk
   have hz2:m≤140737488355328:=by rw[hm];exact HL.out k hlt
   have HN:Hid (z+m=movesN (st.take (k+1))):=zhd (by rw[HX.out k hlt,HZ.out,hm])
   have hz3:k * 140737488355328≤1000 * 140737488355328:=Nat.mul_le_mul_right _ (by omega)
   have hz4:z≤140737488355328000:=by omega
   clear hm hz1 hz3
   go_wp2
   go_roundw
   case rel=>exact ⟨k+1,z+m,by omega,by go_num,by go_num,HN,hb,R⟩
   case measure=>simp[intOf];omega
  ·obtain rfl:k=st.length:=by omega
   have HR:Hid (z=movesN st):=zhd (by rw[HZ.out,HF.out])
   go_wp2
   go_ret
   exact .mk hb (by rw[←HR.out];rfl)
theorem zft (w:World) {a b:Nat} (ha:a<4294967296) (hb:b<4294967296):Calls Tryz.prog 140 #[.int .i64 a,.int .i64 b] w (QuietP w (.bool (inB a b))):=by
 obtain ⟨r,hr⟩:∃r,r=inB a b:=⟨_,rfl⟩
 rw[←hr]
 have HR:=zhd hr
 have KA:=zhd fun W (p:Nat) (hp:p≤5)=>((qP W ha hp).mono fun _ _ h=>h.take)
 have KB:=zhd fun W (p:Nat) (hp:p≤5)=>((qP W hb hp).mono fun _ _ h=>h.take)
 clear hr
 go_enter Tryz.func140,Tryz.ntmps140
 go_wp2
 go_loopw [5] (fun i wr=>∃k:Nat,k≤5∧i=.int .i64 k∧QW w wr∧Hid (Alls (fun p=> !a.testBit p||b.testBit p) k)) (fun i _=>5 - (intOf i).toNat)
 case atStart=>exact ⟨0,Nat.zero_le _,rfl,.refl _,zhd (.zero _)⟩
 case round=>
  obtain ⟨k,hk,rfl,hQ,HA⟩:=hrel
  by_cases hlt:k<5
  ·have K1:=zhd fun W=>KA.out W k (by omega)
   have K2:=zhd fun W=>KB.out W k (by omega)
   have HN:Hid ((!a.testBit k||b.testBit k)=true→Alls (fun p=> !a.testBit p||b.testBit p) (k+1)):=zhd fun h=>HA.out.next h
   have HO:Hid ((!a.testBit k||b.testBit k)=false→r=false):=zhd fun h=>by rw[HR.out];exact YS h hlt
   obtain ⟨x,hx⟩:∃x,x=a.testBit k:=⟨_,rfl⟩
   obtain ⟨y,hy⟩:∃x,x=b.testBit k:=⟨_,rfl⟩
   rw[←hx]at K1 HN HO
   rw[←hy]at K2 HN HO
   clear hx hy
   go_wp2_with fail
   refine (K1.out _).mono ?_
   rintro _ w1 ⟨_,rfl,hq1,rfl⟩
   cases x with
   | false=>
    have HN2:=zhd (HN.out rfl)
    go_wp2
    go_roundw
    case rel=>exact ⟨k+1,by omega,by go_num,hQ.trans hq1,HN2⟩
    case measure=>simp[intOf];omega
   | true=>
    go_wp2_with fail
    refine (K2.out _).mono ?_
    rintro _ w2 ⟨_,rfl,hq2,rfl⟩
    have hq:=(hQ.trans hq1).trans hq2
    cases y with
    | true=>
     have HN2:=zhd (HN.out rfl)
     go_wp2
     go_roundw
     case rel=>exact ⟨k+1,by omega,by go_num,hq,HN2⟩
     case measure=>simp[intOf];omega
    | false=>
     have HRR:=zhd (HO.out rfl)
     go_wp2
     go_ret
     exact .fin (zr HRR.out.symm) hq
  ·obtain rfl:k=5:=by omega
   have HRR:Hid (r=true):=zhd (by rw[HR.out];exact HA.out.done (by omega))
   go_wp2
   go_ret
   exact .fin (zr HRR.out.symm) hQ
def grow3 (st:Moves) (m:List Int) (k:Nat):Bool:=inB (nth m 6).toNat (nth (nthL (nthM st (nth m 7).toNat) k) 6).toNat
def grow2 (st:Moves) (s i:Nat):Bool:=allN (grow3 st (nthL (nthM st s) i)) (nthM st (nth (nthL (nthM st s) i) 7).toNat).length
def grow1 (st:Moves) (s:Nat):Bool:=allN (grow2 st s) (nthM st s).length
theorem zaJ (st:Moves):growsB st=allN (grow1 st) st.length:=rfl
theorem X6 {S:Nat→Prop} {w:World} {vs:Value} {st:Moves} (n:Int) (hs:Sl (kSl (kFlat 8)) S w vs st) (hok:MovesOK n st):
  Calls Tryz.prog 121 #[.agg #[.int .i64 n,vs]] w (Post w fun _ r=>r=.bool (growsB st)):=by
 have HS:=zhd hs
 have HO:=zhd hok
 obtain ⟨sa,sc,rfl,hm⟩:=hs.addr
 have Q:=hs.idxS
 rw[zaJ]
 obtain ⟨r,hr⟩:∃r,r=allN (grow1 st) st.length:=⟨_,rfl⟩
 rw[←hr]
 have HR:=zhd hr
 clear hs hok hr
 have ex:=ze w (.cells #[.int .i64 n,.slice sa st.length sc] 27)
 have R:Row (w.alloc (.cells #[.int .i64 n,.slice sa st.length sc] 27)) w.heap.size 27 [.int .i64 n,.slice sa st.length sc]:=zh w [_,_] _
 go_enter Tryz.func121,Tryz.ntmps121
 go_wp2
 go_loopw [3] (fun i wr=>∃s:Nat,s≤st.length∧i=.int .i64 s∧Hid (Alls (grow1 st) s)∧Below w.heap.size w wr∧Row wr w.heap.size 27 [.int .i64 n,.slice sa st.length sc]) (fun i _=>st.length - (intOf i).toNat)
 case atStart=>exact ⟨0,Nat.zero_le _,rfl,zhd (.zero _),ex,R⟩
 case round=>
  clear ex R
  obtain ⟨s,hs,rfl,HA,hb,R⟩:=hrel
  have t1:=R.zc 1 rfl
  by_cases hlt:s<st.length
  case neg=>
   obtain rfl:s=st.length:=by omega
   have HRR:Hid (r=true):=zhd (by rw[HR.out];exact HA.out.done (Nat.le_refl _))
   go_wp2
   go_ret
   exact .mk hb (zr HRR.out.symm)
  have q:=Q.out s hlt
  obtain ⟨ln,hln⟩:∃ln,ln=(nthM st s).length:=⟨_,rfl⟩
  have HLN:=zhd hln
  have HNX:Hid (Alls (grow2 st s) ln→Alls (grow1 st) (s+1)):=zhd fun h=>HA.out.next (by subst hln;exact h.done (Nat.le_refl _))
  have HNO:Hid (∀i,i<ln→grow2 st s i=false→r=false):=zhd fun i hi h=>by
   subst hln
   rw[HR.out];exact YS (YS h hi) hlt
  have hlm:ln≤140737488355328:=by rw[hln];exact HS.out.rows_few s hlt
  clear hln
  obtain ⟨wo,rfl⟩:∃wo:World,wo=wr:=⟨_,rfl⟩
  go_wp2
  clear t1 q
  go_loopw [4] (fun i wr=>∃i':Nat,i'≤ln∧i=.int .i64 i'∧Hid (Alls (grow2 st s) i')∧Below w.heap.size w wr∧Row wr w.heap.size 27 [.int .i64 n,.slice sa st.length sc]) (fun i _=>ln - (intOf i).toNat)
  case atStart=>exact ⟨0,Nat.zero_le _,rfl,zhd (.zero _),hb,R⟩
  case round=>
   clear hb R
   obtain ⟨i,hi,rfl,HA2,hb,R⟩:=hrel
   have t1:=R.zc 1 rfl
   have tl:=R.lt
   have q:=Q.out s hlt
   obtain ⟨b,c,cu,hrow⟩:=HS.out.mrow hb hlt
   have QM:=hrow.idxM
   rw[←HLN.out]at cu QM
   by_cases hit:i<ln
   case neg=>
    obtain rfl:i=ln:=by omega
    have HN2:=zhd (HNX.out HA2.out)
    go_wp2
    go_roundw
    case rel=>exact ⟨s+1,by omega,by go_num,HN2,hb,R⟩
    case measure=>simp[intOf];omega
   have qm:=QM.out i hit
   have hil:i<(nthM st s).length:=by rw[←HLN.out];exact hit
   have hz:=hrow.nums hil (by decide)
   have z0:=hz.1
   have z1:=hz.2 1 (by decide)
   have z2:=hz.2 2 (by decide)
   have z3:=hz.2 3 (by decide)
   have z4:=hz.2 4 (by decide)
   have z5:=hz.2 5 (by decide)
   have z6:=hz.2 6 (by decide)
   have z7:=hz.2 7 (by decide)
   have hbk:=zO hrow.ad.1 (by omega) (i * 8)
   have hbs:=zO (HS.out.ad.1) (show 0<st.length by omega) s
   have hbs:=Nat.lt_of_lt_of_le hbs hb.size
   obtain ⟨hc1,hc2,hc3,hc4⟩:=(HO.out s hlt).2 i hil
   obtain ⟨_,_,hc5,hc6⟩:=yL hc1
   have HG2:Hid (grow2 st s i=allN (grow3 st (nthL (nthM st s) i)) (nthM st (nth (nthL (nthM st s) i) 7).toNat).length):=zhd rfl
   obtain ⟨m,hm⟩:∃m,m=nthL (nthM st s) i:=⟨_,rfl⟩
   rw[←hm]at z0 z1 z2 z3 z4 z5 z6 z7 hc3 hc4 hc5 hc6 HG2
   obtain ⟨to,hto⟩:∃t:Nat,nth m 7=t:=⟨(nth m 7).toNat,by omega⟩
   obtain ⟨fa,hfa⟩:∃t:Nat,nth m 6=t:=⟨(nth m 6).toNat,by omega⟩
   have htl:to<st.length:=by omega
   have hfl:fa<32:=by omega
   have HTO:=zhd hto
   have HFA:=zhd hfa
   rw[hto]at z7 HG2
   rw[hfa]at z6
   have exb:=ze wr (.cells #[.int .i64 (nth m 0),.int .i64 (nth m 1),.int .i64 (nth m 2),.int .i64 (nth m 3),.int .i64 (nth m 4),.int .i64 (nth m 5),.int .i64 fa,.int .i64 to] 118)
   have RM:Row (wr.alloc (.cells #[.int .i64 (nth m 0),.int .i64 (nth m 1),.int .i64 (nth m 2),.int .i64 (nth m 3),.int .i64 (nth m 4),.int .i64 (nth m 5),.int .i64 fa,.int .i64 to] 118)) wr.heap.size 118 [.int .i64 (nth m 0),.int .i64 (nth m 1),.int .i64 (nth m 2),.int .i64 (nth m 3),.int .i64 (nth m 4),.int .i64 (nth m 5),.int .i64 fa,.int .i64 to]:=zh wr [_,_,_,_,_,_,_,_] _
   have hb2:=zb hb exb
   have RA:=R.ext exb
   obtain ⟨lk,hlk⟩:∃ln,ln=(nthM st to).length:=⟨_,rfl⟩
   have HLK:=zhd hlk
   rw[Int.toNat_natCast,←hlk]at HG2
   obtain ⟨g,hg⟩:∃g,g=wr.heap.size:=⟨_,rfl⟩
   have hgl:w.heap.size<g:=by rw[hg];exact tl
   have hlkm:lk≤140737488355328:=by rw[hlk];exact HS.out.rows_few to htl
   have HG3:Hid (∀k,k<lk→grow3 st m k=inB fa (nth (nthL (nthM st to) k) 6).toNat):=zhd fun k hk=>by unfold grow3;rw[hto,hfa,Int.toNat_natCast,Int.toNat_natCast]
   have HOT:Hid (∀k,k<lk→∃f:Nat,f<32∧nth (nthL (nthM st to) k) 6=f):=zhd fun k hk=>by
    obtain ⟨_,_,h5,h6⟩:=yL ((HO.out to htl).2 k (by rw[←hlk];exact hk)).1
    exact ⟨(nth (nthL (nthM st to) k) 6).toNat,by omega,by omega⟩
   clear hz hrow hm hto hfa hc1 hc2 hc3 hc4 hc5 hc6 hlk R hb
   obtain ⟨w0,hw0⟩:∃w0,w0=wr.alloc (.cells #[.int .i64 (nth m 0),.int .i64 (nth m 1),.int .i64 (nth m 2),.int .i64 (nth m 3),.int .i64 (nth m 4),.int .i64 (nth m 5),.int .i64 fa,.int .i64 to] 118):=⟨_,rfl⟩
   have HW0:=zhd hw0
   go_wp2
   rw[←HW0.out,←hg]
   rw[←hw0]at hb2 RA
   rw[←hw0,←hg]at RM
   clear hw0 HW0 exb z0 z1 z2 z3 z4 z5 z6 z7 qm q cu t1 hbk hbs tl hg
   clear wr
   go_loopw [6] (fun i wr=>∃k:Nat,k≤lk∧i=.int .i64 k∧Hid (Alls (grow3 st m) k)∧Below w.heap.size w wr∧Row wr w.heap.size 27 [.int .i64 n,.slice sa st.length sc]∧Row wr g 118 [.int .i64 (nth m 0),.int .i64 (nth m 1),.int .i64 (nth m 2),.int .i64 (nth m 3),.int .i64 (nth m 4),.int .i64 (nth m 5),.int .i64 fa,.int .i64 to]) (fun i _=>lk - (intOf i).toNat)
   case atStart=>exact ⟨0,Nat.zero_le _,rfl,zhd (.zero _),hb2,RA,RM⟩
   case round=>
    clear hb2 RA RM
    obtain ⟨k,hk,rfl,HA3,hb,R,RM⟩:=hrel
    have t1:=R.zc 1 rfl
    have m6:=RM.zc 6 rfl
    have m7:=RM.zc 7 rfl
    have q:=Q.out to htl
    obtain ⟨b2,c2,cu2,hrow2⟩:=HS.out.mrow hb htl
    have QM2:=hrow2.idxM
    rw[←HLK.out]at cu2 QM2
    by_cases hkt:k<lk
    case neg=>
     obtain rfl:k=lk:=by omega
     have HN2:Hid (Alls (grow2 st s) (i+1)):=zhd (HA2.out.next (by rw[HG2.out];exact HA3.out.done (Nat.le_refl _)))
     go_wp2
     go_roundw
     case rel=>exact ⟨i+1,by omega,by go_num,HN2,hb,R⟩
     case measure=>simp[intOf];omega
    have qm2:=QM2.out k hkt
    have hkl:k<(nthM st to).length:=by rw[←HLK.out];exact hkt
    have y6:=(hrow2.nums hkl (by decide)).2 6 (by decide)
    obtain ⟨fb,hfb,hfe⟩:=HOT.out k hkt
    rw[hfe]at y6
    have KI:Hid (∀m,Calls Tryz.prog 140 #[.int .i64 fa,.int .i64 fb] (wr.drewN m) (QuietP (wr.drewN m) (.bool (inB fa fb)))):=zhd fun m=>zft _ (by omega) (by omega)
    have HB3:Hid (grow3 st m k=inB fa fb):=zhd (by rw[HG3.out k hkt,hfe,Int.toNat_natCast])
    obtain ⟨x,hx⟩:∃x,x=inB fa fb:=⟨_,rfl⟩
    rw[←hx]at KI HB3
    have w4':(0:Int)≤(k:Int):=by omega
    have w5':(k:Int)<(lk:Int):=by omega
    have w6':(0:Int)≤(to:Int):=by omega
    have w7':(to:Int)<(st.length:Int):=by omega
    clear hrow2 hfe hx
    cases x with
    | true=>
     have HN3:=zhd (HA3.out.next HB3.out)
     go_wp2
     go_quiet ((go_at_call 140;exact zv (KI.out _)))
     go_wp2
     go_roundw
     case rel=>exact ⟨k+1,by omega,by go_num,HN3,zm hb _,R,RM⟩
     case measure=>simp[intOf];omega
    | false=>
     have HRR:Hid (r=false):=zhd (HNO.out i hit (by rw[HG2.out];exact YS HB3.out hkt))
     go_wp2
     go_quiet ((go_at_call 140;exact zv (KI.out _)))
     go_wp2
     go_ret
     exact .mk (zm hb _) (zr HRR.out.symm)
end Go.Proofs.YtfjlhjkjjbiliaaGreat
