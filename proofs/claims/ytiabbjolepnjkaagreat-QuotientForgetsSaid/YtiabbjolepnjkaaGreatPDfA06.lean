/- Part of the proof that the laws answer true for every input. -/
import Derived.Test.YtiabbjolepnjkaaGreatPDfA04
import Derived.StillTailTactics
import Derived.RangeFuncNested
import Derived.RangeFuncBound
import Derived.RangeFuncCalls
import Derived.RangeFuncLeaves
import Derived.RangeFuncFrom
import Derived.Shelf.Abstract
import Derived.Shelf.RegionOpen
import Derived.OwnWalkIn
import Derived.TacticsInMore
import Derived.LoopNIn
import Derived.LoopIn
set_option linter.unusedSimpArgs false
set_option linter.unnecessarySimpa false
set_option linter.unusedVariables false
set_option maxRecDepth 100000
set_option maxHeartbeats 40000000
namespace Go.Proofs.YtiabbjolepnjkaaGreat
open Go.RowKit
attribute [local go_sem ↓] Go.wp_at_zero Go.wp_at_succ
theorem Xq {P:Program} {ops:Array Oper} {Q:Exit→Act→World→Prop} {rest:List Oper} {a:Act} {w:World} (h:∀w',QW w w'→wpList P ops Q rest a w'):wpList P ops Q rest a w.drew:=h _ ⟨1,rfl⟩
theorem zfv:∃i,Tryz.prog.info? 155=some i∧i.size=8:=zK (by kernel_rfl)
theorem Xr:(Tryz.prog.info? 149).map (fun i=>(i.zero,i.size,i.bytes))=some (some (.slice none 0 0),1,24):=by kernel_rfl
theorem Sl.idxM {S:Nat→Prop} {w:World} {a:Option Addr} {m cap:Nat} {l:List (List Int)} (h:Sl (kFlat 8) S w (.slice a m cap) l):
  Hid (∀k:Nat,k<l.length→∀W:World,(Instr.indexAt 149 (.slice a l.length cap) (.int .i64 k)).run Tryz.prog W=.ok (.pointer (some (adr a (k * 8)))) W):=by
 obtain ⟨i,hi,h1⟩:=zfv;exact zhd (zM Tryz.underlying149 hi h1 h.ad.1)
theorem Sl.idxS {S:Nat→Prop} {w:World} {a:Option Addr} {m cap:Nat} {st:Moves} (h:Sl (kSl (kFlat 8)) S w (.slice a m cap) st):
  Hid (∀k:Nat,k<st.length→∀W:World,(Instr.indexAt 25 (.slice a st.length cap) (.int .i64 k)).run Tryz.prog W=.ok (.pointer (some (adr a k))) W):=by
 obtain ⟨i,hi,_,h1,_⟩:=info_parts Xr;exact zhd (zL Tryz.underlying25 hi h1 h.ad.1)
theorem Sl.mrow {S:Nat→Prop} {w W:World} {a:Option Addr} {m cap:Nat} {st:Moves} (h:Sl (kSl (kFlat 8)) S w (.slice a m cap) st) (hb:Below w.heap.size w W) {k:Nat} (hk:k<st.length):
  ∃b c,W.cell? (adr a k)=some (.slice b (nthM st k).length c)∧Sl (kFlat 8) S W (.slice b (nthM st k).length c) (nthM st k):=by
 obtain ⟨v,h1,h2⟩:=(h.ext hb).row hk;have e:nthM st k=st[k]:=by simp[nthM,hk]
 rw[←e]at h2;obtain ⟨b,c,rfl,_⟩:=h2.form;exact ⟨b,c,h1,h2⟩
structure MoveR (n:Int) (ns:Nat) (l:List (List Int)) (i:Nat) (r:Int):Prop where
 bad:∀e,checkR (nthL l i)=e→e≠0→r=e
 mis:checkR (nthL l i)=0→nth (nthL l i) 0≠n→r=22
 un:checkR (nthL l i)=0→nth (nthL l i) 0=n→0<i→∀j,j=i - 1→0≤lexN (nthL l j) (nthL l i) 7→r=14
 to:checkR (nthL l i)=0→nth (nthL l i) 0=n→(0<i→∀j,j=i - 1→lexN (nthL l j) (nthL l i) 7<0)→(nth (nthL l i) 7<0∨(ns:Int)≤nth (nthL l i) 7)→r=2
 fine:checkR (nthL l i)=0→nth (nthL l i) 0=n→(0<i→∀j,j=i - 1→lexN (nthL l j) (nthL l i) 7<0)→¬(nth (nthL l i) 7<0∨(ns:Int)≤nth (nthL l i) 7)→r=0
theorem moveR (n:Int) (ns:Nat) (l:List (List Int)) (i:Nat):MoveR n ns l i (moveE n ns l i):=by
 refine ⟨fun e he h0=>?_,fun he h=>?_,fun he h hi j hj hle=>?_,fun he h hu ht=>?_,fun he h hu ht=>?_⟩
 ·unfold moveE;rw[he,if_neg h0]
 ·unfold moveE;rw[he,if_pos rfl,if_pos h]
 ·subst hj;unfold moveE;rw[he,if_pos rfl,if_neg (fun h'=>h' h)];simp[hi,hle]
 all_goals
  have hd:(decide (0<i)&&decide (0≤lexN (nthL l (i - 1)) (nthL l i) 7))=false:=by
   by_cases hi:0<i
   ·have:=hu hi _ rfl;simp;intro _;omega
   ·simp[hi]
  unfold moveE;rw[he,if_pos rfl,if_neg (fun h'=>h' h),hd];simp[ht]
theorem zc3 {S S':Nat→Prop} {w:World} {vs vl:Value} {st:Moves} {l:List (List Int)} (n:Int) (hs:Sl (kSl (kFlat 8)) S' w vs st) (hv:Sl (kFlat 8) S w vl l) {i:Nat} (hi:i<l.length):
  Calls Tryz.prog 158 #[.agg #[n,vs],vl,i] w (Post w fun _ r=>r=.int .i64 (moveE n st.length l i)):=by
 have HMR:=zhd (moveR n st.length l i);obtain ⟨r,hr⟩:=zn (moveE n st.length l i);rw[←hr]at HMR ⊢;obtain ⟨sa,sc,rfl,_⟩:=hs.form;obtain ⟨a,cap,rfl,ad,lo,lm⟩:=hv.form;unfold maxLen at lm;have HV:=zhd hv;have Q:=hv.idxM;have hz:=hv.nums hi (by decide);have z0:=hz.1;have z1:=hz.2 1 (by decide);have z2:=hz.2 2 (by decide);have z3:=hz.2 3 (by decide);have z4:=hz.2 4 (by decide);have z5:=hz.2 5 (by decide);have z6:=hz.2 6 (by decide);have hbk:=zZ ad (show 0<l.length by omega) (i * 8);have q:=Q.out i hi;obtain ⟨m,hm⟩:=zn (nthL l i);have HM:=zhd hm;rw[←hm]at z0 z1 z2 z3 z4 z5 z6;have KR:Hid (∀W,Calls Tryz.prog 176 #[.agg #[nth m 0,nth m 1,nth m 2,nth m 3,nth m 4,nth m 5,nth m 6]] W (Post W fun _ r=>r=.int .i64 (checkR m))):=zhd fun W=>zaB W m;obtain ⟨e,he⟩:=zn (checkR m);rw[←he]at KR;have HE:Hid (checkR (nthL l i)=e):=zhd (by rw[he,hm]);have exb:=zh (ze w (.cells #[n,.slice sa st.length sc] 27)) (.cells #[nth m 0,nth m 1,nth m 2,nth m 3,nth m 4,nth m 5,nth m 6] 153);have RA:Row ((w.alloc (.cells #[n,.slice sa st.length sc] 27)).alloc (.cells #[nth m 0,nth m 1,nth m 2,nth m 3,nth m 4,nth m 5,nth m 6] 153)) w.heap.size 27 [n,.slice sa st.length sc]:=(zi w [_,_] _).alloc _;have RM:Row ((w.alloc (.cells #[n,.slice sa st.length sc] 27)).alloc (.cells #[nth m 0,nth m 1,nth m 2,nth m 3,nth m 4,nth m 5,nth m 6] 153)) (w.heap.size+1) 153 [nth m 0,nth m 1,nth m 2,nth m 3,nth m 4,nth m 5,nth m 6]:=by
  have:=zi (w.alloc (.cells #[n,.slice sa st.length sc] 27)) [nth m 0,nth m 1,nth m 2,nth m 3,nth m 4,nth m 5,nth m 6] 153
  rwa [World.size_alloc]at this
 clear hr hs hv hz hm he ad;go_enter Tryz.func158,Tryz.ntmps158;go_wp2_with fail;refine (KR.out _).mono ?_;rintro _ w1 ⟨_,rfl,hb1,rfl⟩;have RA1:=RA.ext hb1;have RM1:=RM.ext hb1;have hx1:=za exb hb1;clear z0 z1 z2 z3 z4 z5 z6 q hbk KR RA RM exb hb1;by_cases h0:e=0
 case neg=>
  have RR:=zhd (HMR.out.bad e HE.out h0);have d0:(e !=0)=true:=by simp[h0]
  clear h0;go_wp2;go_ret;exact .mk hx1 (zr RR.out.symm)
 subst h0;have t0:=RA1.zc 0 rfl;have m0:=RM1.zc 0 rfl;obtain ⟨mn,hmn⟩:∃x,x=nth m 0:=⟨_,rfl⟩;rw[←hmn]at m0;have HMN:Hid (nth (nthL l i) 0=mn):=zhd (by rw[hmn,HM.out]);clear hmn;by_cases hn:mn=n
 case neg=>
  have RR:=zhd (HMR.out.mis HE.out (by rw[HMN.out];exact hn));have d0:(mn !=n)=true:=by simp[hn]
  clear hn;go_wp2;go_ret;exact .mk hx1 (zr RR.out.symm)
 have d0:(mn !=n)=false:=by simp[hn]
 have HN:Hid (nth (nthL l i) 0=n):=zhd (by rw[HMN.out,hn]);clear hn;by_cases hi0:0<i
 case pos=>
  obtain ⟨j,hj⟩:=zn (i - 1);have hjl:j<l.length:=by omega
  have q1:=Q.out j hjl;have hz:=(HV.out.ext hx1).nums hjl (by decide);have z0:=hz.1;have z1:=hz.2 1 (by decide);have z2:=hz.2 2 (by decide);have z3:=hz.2 3 (by decide);have z4:=hz.2 4 (by decide);have z5:=hz.2 5 (by decide);have z6:=hz.2 6 (by decide);obtain ⟨m',hm'⟩:∃m,m=nthL l j:=⟨_,rfl⟩;rw[←hm']at z0 z1 z2 z3 z4 z5 z6;have KO:Hid (∀W,Calls Tryz.prog 177 #[.agg #[nth m' 0,nth m' 1,nth m' 2,nth m' 3,nth m' 4,nth m' 5,nth m' 6],.agg #[nth m 0,nth m 1,nth m 2,nth m 3,nth m 4,nth m 5,nth m 6]] W (Post W fun _ r=>r=.int .i64 (lexN m' m 7))):=zhd fun W=>zdq W m' m;obtain ⟨c,hc⟩:=zn (lexN m' m 7);rw[←hc]at KO;have w1':IntKind.i64.wrap ((i:Int) - 1)=j:=by rw[IntKind.wrap_i64];omega
  have w2':decide ((0:Int)<(i:Int))=true:=decide_eq_true (by omega);have w3':decide (0<i)=true:=decide_eq_true hi0;have w4':(0:Int)≤(j:Int):=by omega
  have w5':(j:Int)<(l.length:Int):=by omega
  have HUN:Hid (0≤c→r=14):=zhd fun h=>HMR.out.un HE.out HN.out hi0 j hj (by rw[←hm',←HM.out,←hc];exact h);have HFI:Hid (c<0→(0<i→∀j,j=i - 1→lexN (nthL l j) (nthL l i) 7<0)):=zhd fun h _ j2 hj2=>by
   subst hj2;rw[←hj,←hm',←HM.out,←hc];exact h
  clear hc hj hz hm';go_wp2;clear m0;have m0:=RM1.zc 0 rfl;have m1:=RM1.zc 1 rfl;have m2:=RM1.zc 2 rfl;have m3:=RM1.zc 3 rfl;have m4:=RM1.zc 4 rfl;have m5:=RM1.zc 5 rfl;have m6:=RM1.zc 6 rfl;go_still_tail 10,(by kernel_rfl)
  refine Xq fun w2 hq2=>?_;clear q1 z0 z1 z2 z3 z4 z5 z6 m0 m1 m2 m3 m4 m5 m6 t0 w1' w4' w5';go_wp2_with fail;refine (KO.out _).mono ?_;rintro _ w3 ⟨_,rfl,hb3,rfl⟩;have hq3:=za hq2.ext hb3;have hx3:=za hx1 hq3;have RA3:=RA1.ext hq3;clear KO hb3;by_cases hc0:0≤c
  ·have RR:=zhd (HUN.out hc0);go_wp2;go_ret;exact .mk hx3 (zr RR.out.symm)
  have HF:=zhd (HFI.out (by omega));have t1:=RA3.zc 1 rfl;have q:=Q.out i hi;have z7:=((HV.out.ext hx3).nums hi (by decide)).2 7 (by decide);obtain ⟨to,hto⟩:∃x,x=nth (nthL l i) 7:=⟨_,rfl⟩;rw[←hto]at z7;have HTO:=zhd hto.symm;have w6':(0:Int)≤(i:Int):=by omega
  have w7':(i:Int)<(l.length:Int):=by omega
  clear hto;by_cases ht1:to<0
  ·have RR:=zhd (HMR.out.to HE.out HN.out HF.out (.inl (by rw[HTO.out];exact ht1)));have dt:decide (to<0)=true:=decide_eq_true ht1;go_wp2;go_quiet (fail);go_wp2;go_ret;exact .mk (zv hx3 _) (zr RR.out.symm)
  have dt:decide (to<0)=false:=decide_eq_false ht1;by_cases ht2:(st.length:Int)≤to
  ·have RR:=zhd (HMR.out.to HE.out HN.out HF.out (.inr (by rw[HTO.out];exact ht2)));go_wp2;go_quiet (fail);go_wp2;go_ret;exact .mk (zv hx3 _) (zr RR.out.symm)
  ·have RR:=zhd (HMR.out.fine HE.out HN.out HF.out (by rw[HTO.out];omega));go_wp2;go_quiet (fail);go_wp2;go_ret;exact .mk (zv hx3 _) (zr RR.out.symm)
 case neg=>
  have HF:Hid (0<i→∀j,j=i - 1→lexN (nthL l j) (nthL l i) 7<0):=zhd fun h=>by omega
  have w2':decide ((0:Int)<(i:Int))=false:=decide_eq_false (by omega);have w3':decide (0<i)=false:=decide_eq_false hi0;go_wp2;go_quiet (fail);refine zU fun w3 hq3'=>?_;have hq3:=hq3'.ext;have hx3:=za hx1 hq3;have RA3:=RA1.ext hq3;clear t0 m0;have t1:=RA3.zc 1 rfl;have q:=Q.out i hi;have z7:=((HV.out.ext hx3).nums hi (by decide)).2 7 (by decide);obtain ⟨to,hto⟩:∃x,x=nth (nthL l i) 7:=⟨_,rfl⟩;rw[←hto]at z7;have HTO:=zhd hto.symm;have w6':(0:Int)≤(i:Int):=by omega
  have w7':(i:Int)<(l.length:Int):=by omega
  clear hto;by_cases ht1:to<0
  ·have RR:=zhd (HMR.out.to HE.out HN.out HF.out (.inl (by rw[HTO.out];exact ht1)));have dt:decide (to<0)=true:=decide_eq_true ht1;go_wp2;go_quiet (fail);go_wp2;go_ret;exact .mk (zv hx3 _) (zr RR.out.symm)
  have dt:decide (to<0)=false:=decide_eq_false ht1;by_cases ht2:(st.length:Int)≤to
  ·have RR:=zhd (HMR.out.to HE.out HN.out HF.out (.inr (by rw[HTO.out];exact ht2)));go_wp2;go_quiet (fail);go_wp2;go_ret;exact .mk (zv hx3 _) (zr RR.out.symm)
  ·have RR:=zhd (HMR.out.fine HE.out HN.out HF.out (by rw[HTO.out];omega));go_wp2;go_quiet (fail);go_wp2;go_ret;exact .mk (zv hx3 _) (zr RR.out.symm)
def MovesOK (n:Int) (st:Moves):Prop:=∀s,s<st.length→0<(nthM st s).length∧∀i,i<(nthM st s).length→checkR (nthL (nthM st s) i)=0∧nth (nthL (nthM st s) i) 0=n∧0≤nth (nthL (nthM st s) i) 7∧nth (nthL (nthM st s) i) 7<(st.length:Int)
theorem zeA {n:Int} {ns:Nat} {l:List (List Int)} {i:Nat} (h:moveE n ns l i=0):checkR (nthL l i)=0∧nth (nthL l i) 0=n∧0≤nth (nthL l i) 7∧nth (nthL l i) 7<(ns:Int):=by
 unfold moveE at h;by_cases h1:checkR (nthL l i)=0
 ·rw[if_pos h1]at h;by_cases h2:nth (nthL l i) 0≠n
  ·rw[if_pos h2]at h;cases h
  ·rw[if_neg h2]at h;split at h
   ·cases h
   ·split at h
    ·cases h
    ·rename_i h3;exact ⟨h1,by omega,by omega,by omega⟩
 ·rw[if_neg h1]at h;exact absurd h h1
theorem movesOK {n:Int} {st:Moves} (h:Zeros (stateE n st) st.length):MovesOK n st:=by
 intro s hs;have:=h s hs;unfold stateE at this;split at this
 ·cases this
 ·rename_i h0;exact ⟨by omega,fun i hi=>zeA (yJ.1 this i hi)⟩
theorem zcy {l:List Int} (h:checkG l=0):1≤nth l 0∧nth l 0≤5:=by
 unfold checkG at h;split at h
 ·cases h
 ·omega
theorem qH {l:List Int} (h:checkR l=0):1≤nth l 0∧nth l 0≤5∧0≤nth l 6∧nth l 6<32:=by
 unfold checkR at h;split at h
 ·rename_i hg;obtain ⟨h1,h5⟩:=zcy hg;unfold checkP at h;rw[if_neg (by omega)]at h;split at h
  ·cases h
  ·rename_i h2;have:2 ^ (nth l 0).toNat≤32:=(xh (p:=(nth l 0).toNat) (by omega)).1;omega
 ·rename_i hg;exact absurd h hg
theorem zdh (l:Moves) (x:List (List Int)):movesN (l++[x])=movesN l+x.length:=by simp[movesN,List.foldl_append]
theorem zjk {st:Moves} {k:Nat} (h:k<st.length):nthM st k=st[k]:=by simp[nthM,h]
theorem ZL {st:Moves} {k:Nat} (h:k<st.length):movesN (st.take (k+1))=movesN (st.take k)+(nthM st k).length:=by
 rw[List.take_succ_eq_append_getElem h,zdh,zjk h]
theorem Y5 {st:Moves} {B:Nat} (hB:∀k,k<st.length→(nthM st k).length≤B):∀k,k≤st.length→movesN (st.take k)≤k * B:=by
 intro k;induction k with
 | zero=>intro _;simp[movesN]
 | succ k ih=>
  intro hk;rw[ZL (by omega),Nat.succ_mul];have:=ih (by omega);have:=hB k (by omega);omega
theorem Sl.rows_few {S:Nat→Prop} {w:World} {v:Value} {st:Moves} (h:Sl (kSl (kFlat 8)) S w v st):∀k,k<st.length→(nthM st k).length≤140737488355328:=by
 intro k hk;obtain ⟨a,cap,rfl,_⟩:=h.form;obtain ⟨b,c,_,h2⟩:=h.mrow (.refl _ _) hk;exact h2.few
theorem Sl.addr {α:Type} {K:Kd α} {S:Nat→Prop} {w:World} {v:Value} {l:List α} (h:Sl K S w v l):∃a cap,v=.slice a l.length cap∧l.length≤9223372036854775807:=by
 obtain ⟨a,cap,e,_⟩:=h.form;have:=h.len;exact ⟨a,cap,e,by unfold maxLen at this;omega⟩
theorem Y9 {S:Nat→Prop} {w:World} {vs:Value} {st:Moves} (n:Int) (hs:Sl (kSl (kFlat 8)) S w vs st) (hl:st.length≤1000):
  Calls Tryz.prog 139 #[.agg #[n,vs]] w (Post w fun _ r=>r=.int .i64 (movesN st)):=by
 have HS:=zhd hs;have HB:Hid (∀k,k≤st.length→movesN (st.take k)≤k * 140737488355328):=zhd (Y5 hs.rows_few);have HL:Hid (∀k,k<st.length→(nthM st k).length≤140737488355328):=zhd hs.rows_few;have HF:Hid (movesN (st.take st.length)=movesN st):=zhd (by rw[List.take_length]);have HX:=zhd fun k (h:k<st.length)=>ZL h;obtain ⟨sa,sc,rfl,hm⟩:=hs.addr;have Q:=hs.idxS;clear hs;have ex:=ze w (.cells #[n,.slice sa st.length sc] 27);have R:Row (w.alloc (.cells #[n,.slice sa st.length sc] 27)) w.heap.size 27 [n,.slice sa st.length sc]:=zi w [_,_] _;go_enter Tryz.func139,Tryz.ntmps139;go_wp2;go_loopw [3,4] (fun s i wr=>∃k z:Nat,k≤st.length∧i=.int .i64 k∧s=.int .i64 z∧Hid (z=movesN (st.take k))∧Below w.heap.size w wr∧Row wr w.heap.size 27 [n,.slice sa st.length sc]) (fun _ i _=>st.length - (intOf i).toNat)
 case atStart=>exact ⟨0,0,Nat.zero_le _,rfl,rfl,zhd rfl,ex,R⟩
 case round=>
  clear ex R;obtain ⟨k,z,hk,rfl,rfl,HZ,hb,R⟩:=hrel;have t1:=R.zc 1 rfl;by_cases hlt:k<st.length
  ·have q:=Q.out k hlt;obtain ⟨b,c,cu,_⟩:=HS.out.mrow hb hlt;obtain ⟨m,hm⟩:=zn ((nthM st k).length);rw[←hm]at cu;have hz1:z≤k * 140737488355328:=by rw[HZ.out];exact HB.out k hk
   have hz2:m≤140737488355328:=by rw[hm];exact HL.out k hlt
   have HN:Hid (z+m=movesN (st.take (k+1))):=zhd (by rw[HX.out k hlt,HZ.out,hm]);have hz3:k * 140737488355328≤1000 * 140737488355328:=Nat.mul_le_mul_right _ (by omega);have hz4:z≤140737488355328000:=by omega
   clear hm hz1 hz3;go_wp2;go_roundw
   case rel=>exact ⟨k+1,z+m,by omega,by go_num,by go_num,HN,hb,R⟩
   case measure=>simp[intOf];omega
  ·obtain rfl:k=st.length:=by omega
   have HR:Hid (z=movesN st):=zhd (by rw[HZ.out,HF.out]);go_wp2;go_ret;exact .mk hb (by rw[←HR.out];rfl)
theorem zhZ (w:World) {a b:Nat} (ha:a<4294967296) (hb:b<4294967296):Calls Tryz.prog 178 #[a,b] w (QuietP w (.bool (inB a b))):=by
 obtain ⟨r,hr⟩:=zn (inB a b);rw[←hr];have HR:=zhd hr;have KA:=zhd fun W (p:Nat) (hp:p≤5)=>((Ze W ha hp).mono fun _ _ h=>h.take);have KB:=zhd fun W (p:Nat) (hp:p≤5)=>((Ze W hb hp).mono fun _ _ h=>h.take);clear hr;go_enter Tryz.func178,Tryz.ntmps178;go_wp2;go_loopw [5] (fun i wr=>∃k:Nat,k≤5∧i=.int .i64 k∧QW w wr∧Hid (Alls (fun p=> !a.testBit p||b.testBit p) k)) (fun i _=>5 - (intOf i).toNat)
 case atStart=>exact ⟨0,Nat.zero_le _,rfl,.refl _,zhd (.zero _)⟩
 case round=>
  obtain ⟨k,hk,rfl,hQ,HA⟩:=hrel;by_cases hlt:k<5
  ·have K1:=zhd fun W=>KA.out W k (by omega);have K2:=zhd fun W=>KB.out W k (by omega);have HN:Hid ((!a.testBit k||b.testBit k)=true→Alls (fun p=> !a.testBit p||b.testBit p) (k+1)):=zhd fun h=>HA.out.next h;have HO:Hid ((!a.testBit k||b.testBit k)=false→r=false):=zhd fun h=>by rw[HR.out];exact Q0 h hlt
   obtain ⟨x,hx⟩:=zn (a.testBit k);obtain ⟨y,hy⟩:∃x,x=b.testBit k:=⟨_,rfl⟩;rw[←hx]at K1 HN HO;rw[←hy]at K2 HN HO;clear hx hy;go_wp2_with fail;refine (K1.out _).mono ?_;rintro _ w1 ⟨_,rfl,hq1,rfl⟩;cases x with
   | false=>
    have HN2:=zhd (HN.out rfl);go_wp2;go_roundw
    case rel=>exact ⟨k+1,by omega,by go_num,hQ.trans hq1,HN2⟩
    case measure=>simp[intOf];omega
   | true=>
    go_wp2_with fail;refine (K2.out _).mono ?_;rintro _ w2 ⟨_,rfl,hq2,rfl⟩;have hq:=(hQ.trans hq1).trans hq2;cases y with
    | true=>
     have HN2:=zhd (HN.out rfl);go_wp2;go_roundw
     case rel=>exact ⟨k+1,by omega,by go_num,hq,HN2⟩
     case measure=>simp[intOf];omega
    | false=>
     have HRR:=zhd (HO.out rfl);go_wp2;go_ret;exact .fin (zE HRR.out.symm) hq
  ·obtain rfl:k=5:=by omega
   have HRR:Hid (r=true):=zhd (by rw[HR.out];exact HA.out.done (by omega));go_wp2;go_ret;exact .fin (zE HRR.out.symm) hQ
def grow3 (st:Moves) (m:List Int) (k:Nat):Bool:=inB (nth m 6).toNat (nth (nthL (nthM st (nth m 7).toNat) k) 6).toNat
def grow2 (st:Moves) (s i:Nat):Bool:=allN (grow3 st (nthL (nthM st s) i)) (nthM st (nth (nthL (nthM st s) i) 7).toNat).length
def grow1 (st:Moves) (s:Nat):Bool:=allN (grow2 st s) (nthM st s).length
theorem zb8 (st:Moves):growsB st=allN (grow1 st) st.length:=rfl
theorem zbi {S:Nat→Prop} {w:World} {vs:Value} {st:Moves} (n:Int) (hs:Sl (kSl (kFlat 8)) S w vs st) (hok:MovesOK n st):
  Calls Tryz.prog 159 #[.agg #[n,vs]] w (Post w fun _ r=>r=.bool (growsB st)):=by
 have HS:=zhd hs;have HO:=zhd hok;obtain ⟨sa,sc,rfl,hm⟩:=hs.addr;have Q:=hs.idxS;rw[zb8];obtain ⟨r,hr⟩:=zn (allN (grow1 st) st.length);rw[←hr];have HR:=zhd hr;clear hs hok hr;have ex:=ze w (.cells #[n,.slice sa st.length sc] 27);have R:Row (w.alloc (.cells #[n,.slice sa st.length sc] 27)) w.heap.size 27 [n,.slice sa st.length sc]:=zi w [_,_] _;go_enter Tryz.func159,Tryz.ntmps159;go_wp2;go_loopw [3] (fun i wr=>∃s:Nat,s≤st.length∧i=.int .i64 s∧Hid (Alls (grow1 st) s)∧Below w.heap.size w wr∧Row wr w.heap.size 27 [n,.slice sa st.length sc]) (fun i _=>st.length - (intOf i).toNat)
 case atStart=>exact ⟨0,Nat.zero_le _,rfl,zhd (.zero _),ex,R⟩
 case round=>
  clear ex R;obtain ⟨s,hs,rfl,HA,hb,R⟩:=hrel;have t1:=R.zc 1 rfl;by_cases hlt:s<st.length
  case neg=>
   obtain rfl:s=st.length:=by omega
   have HRR:Hid (r=true):=zhd (by rw[HR.out];exact HA.out.done (Nat.le_refl _));go_wp2;go_ret;exact .mk hb (zE HRR.out.symm)
  have q:=Q.out s hlt;obtain ⟨ln,hln⟩:=zn ((nthM st s).length);have HLN:=zhd hln;have HNX:Hid (Alls (grow2 st s) ln→Alls (grow1 st) (s+1)):=zhd fun h=>HA.out.next (by subst hln;exact h.done (Nat.le_refl _));have HNO:Hid (∀i,i<ln→grow2 st s i=false→r=false):=zhd fun i hi h=>by
   subst hln;rw[HR.out];exact Q0 (Q0 h hi) hlt
  have hlm:ln≤140737488355328:=by rw[hln];exact HS.out.rows_few s hlt
  clear hln;obtain ⟨wo,rfl⟩:∃wo:World,wo=wr:=⟨_,rfl⟩;go_wp2;clear t1 q;go_loopw [4] (fun i wr=>∃i':Nat,i'≤ln∧i=.int .i64 i'∧Hid (Alls (grow2 st s) i')∧Below w.heap.size w wr∧Row wr w.heap.size 27 [n,.slice sa st.length sc]) (fun i _=>ln - (intOf i).toNat)
  case atStart=>exact ⟨0,Nat.zero_le _,rfl,zhd (.zero _),hb,R⟩
  case round=>
   clear hb R;obtain ⟨i,hi,rfl,HA2,hb,R⟩:=hrel;have t1:=R.zc 1 rfl;have tl:=R.lt;have q:=Q.out s hlt;obtain ⟨b,c,cu,hrow⟩:=HS.out.mrow hb hlt;have QM:=hrow.idxM;rw[←HLN.out]at cu QM;by_cases hit:i<ln
   case neg=>
    obtain rfl:i=ln:=by omega
    have HN2:=zhd (HNX.out HA2.out);go_wp2;go_roundw
    case rel=>exact ⟨s+1,by omega,by go_num,HN2,hb,R⟩
    case measure=>simp[intOf];omega
   have qm:=QM.out i hit;have hil:i<(nthM st s).length:=by rw[←HLN.out];exact hit
   have hz:=hrow.nums hil (by decide);have z0:=hz.1;have z1:=hz.2 1 (by decide);have z2:=hz.2 2 (by decide);have z3:=hz.2 3 (by decide);have z4:=hz.2 4 (by decide);have z5:=hz.2 5 (by decide);have z6:=hz.2 6 (by decide);have z7:=hz.2 7 (by decide);have hbk:=zZ hrow.ad.1 (by omega) (i * 8);have hbs:=zZ (HS.out.ad.1) (show 0<st.length by omega) s;have hbs:=Nat.lt_of_lt_of_le hbs hb.size;obtain ⟨hc1,hc2,hc3,hc4⟩:=(HO.out s hlt).2 i hil;obtain ⟨_,_,hc5,hc6⟩:=qH hc1;have HG2:Hid (grow2 st s i=allN (grow3 st (nthL (nthM st s) i)) (nthM st (nth (nthL (nthM st s) i) 7).toNat).length):=zhd rfl;obtain ⟨m,hm⟩:=zn (nthL (nthM st s) i);rw[←hm]at z0 z1 z2 z3 z4 z5 z6 z7 hc3 hc4 hc5 hc6 HG2;obtain ⟨to,hto⟩:∃t:Nat,nth m 7=t:=⟨(nth m 7).toNat,by omega⟩;obtain ⟨fa,hfa⟩:∃t:Nat,nth m 6=t:=⟨(nth m 6).toNat,by omega⟩;have htl:to<st.length:=by omega
   have hfl:fa<32:=by omega
   have HTO:=zhd hto;have HFA:=zhd hfa;rw[hto]at z7 HG2;rw[hfa]at z6;have exb:=ze wr (.cells #[nth m 0,nth m 1,nth m 2,nth m 3,nth m 4,nth m 5,fa,to] 155);have RM:Row (wr.alloc (.cells #[nth m 0,nth m 1,nth m 2,nth m 3,nth m 4,nth m 5,fa,to] 155)) wr.heap.size 155 [nth m 0,nth m 1,nth m 2,nth m 3,nth m 4,nth m 5,fa,to]:=zi wr [_,_,_,_,_,_,_,_] _;have hb2:=za hb exb;have RA:=R.ext exb;obtain ⟨lk,hlk⟩:∃ln,ln=(nthM st to).length:=⟨_,rfl⟩;have HLK:=zhd hlk;rw[Int.toNat_natCast,←hlk]at HG2;obtain ⟨g,hg⟩:=zn wr.heap.size;have hgl:w.heap.size<g:=by rw[hg];exact tl
   have hlkm:lk≤140737488355328:=by rw[hlk];exact HS.out.rows_few to htl
   have HG3:Hid (∀k,k<lk→grow3 st m k=inB fa (nth (nthL (nthM st to) k) 6).toNat):=zhd fun k hk=>by unfold grow3;rw[hto,hfa,Int.toNat_natCast,Int.toNat_natCast]
   have HOT:Hid (∀k,k<lk→∃f:Nat,f<32∧nth (nthL (nthM st to) k) 6=f):=zhd fun k hk=>by
    obtain ⟨_,_,h5,h6⟩:=qH ((HO.out to htl).2 k (by rw[←hlk];exact hk)).1;exact ⟨(nth (nthL (nthM st to) k) 6).toNat,by omega,by omega⟩
   clear hz hrow hm hto hfa hc1 hc2 hc3 hc4 hc5 hc6 hlk R hb;obtain ⟨w0,hw0⟩:=zn (wr.alloc (.cells #[nth m 0,nth m 1,nth m 2,nth m 3,nth m 4,nth m 5,fa,to] 155));have HW0:=zhd hw0;go_wp2;rw[←HW0.out,←hg];rw[←hw0]at hb2 RA;rw[←hw0,←hg]at RM;clear hw0 HW0 exb z0 z1 z2 z3 z4 z5 z6 z7 qm q cu t1 hbk hbs tl hg;clear wr;go_loopw [6] (fun i wr=>∃k:Nat,k≤lk∧i=.int .i64 k∧Hid (Alls (grow3 st m) k)∧Below w.heap.size w wr∧Row wr w.heap.size 27 [n,.slice sa st.length sc]∧Row wr g 155 [nth m 0,nth m 1,nth m 2,nth m 3,nth m 4,nth m 5,fa,to]) (fun i _=>lk - (intOf i).toNat)
   case atStart=>exact ⟨0,Nat.zero_le _,rfl,zhd (.zero _),hb2,RA,RM⟩
   case round=>
    clear hb2 RA RM;obtain ⟨k,hk,rfl,HA3,hb,R,RM⟩:=hrel;have t1:=R.zc 1 rfl;have m6:=RM.zc 6 rfl;have m7:=RM.zc 7 rfl;have q:=Q.out to htl;obtain ⟨b2,c2,cu2,hrow2⟩:=HS.out.mrow hb htl;have QM2:=hrow2.idxM;rw[←HLK.out]at cu2 QM2;by_cases hkt:k<lk
    case neg=>
     obtain rfl:k=lk:=by omega
     have HN2:Hid (Alls (grow2 st s) (i+1)):=zhd (HA2.out.next (by rw[HG2.out];exact HA3.out.done (Nat.le_refl _)));go_wp2;go_roundw
     case rel=>exact ⟨i+1,by omega,by go_num,HN2,hb,R⟩
     case measure=>simp[intOf];omega
    have qm2:=QM2.out k hkt;have hkl:k<(nthM st to).length:=by rw[←HLK.out];exact hkt
    have y6:=(hrow2.nums hkl (by decide)).2 6 (by decide);obtain ⟨fb,hfb,hfe⟩:=HOT.out k hkt;rw[hfe]at y6;have KI:Hid (∀m,Calls Tryz.prog 178 #[fa,fb] (wr.drewN m) (QuietP (wr.drewN m) (.bool (inB fa fb)))):=zhd fun m=>zhZ _ (by omega) (by omega);have HB3:Hid (grow3 st m k=inB fa fb):=zhd (by rw[HG3.out k hkt,hfe,Int.toNat_natCast]);obtain ⟨x,hx⟩:=zn (inB fa fb);rw[←hx]at KI HB3;have w4':(0:Int)≤(k:Int):=by omega
    have w5':(k:Int)<(lk:Int):=by omega
    have w6':(0:Int)≤(to:Int):=by omega
    have w7':(to:Int)<(st.length:Int):=by omega
    clear hrow2 hfe hx;cases x with
    | true=>
     have HN3:=zhd (HA3.out.next HB3.out);go_wp2;go_quiet ((go_at_call 178;exact zG (KI.out _)));go_wp2;go_roundw
     case rel=>exact ⟨k+1,by omega,by go_num,HN3,zv hb _,R,RM⟩
     case measure=>simp[intOf];omega
    | false=>
     have HRR:Hid (r=false):=zhd (HNO.out i hit (by rw[HG2.out];exact Q0 HB3.out hkt));go_wp2;go_quiet ((go_at_call 178;exact zG (KI.out _)));go_wp2;go_ret;exact .mk (zv hb _) (zE HRR.out.symm)
structure AdvR (n:Int) (st:Moves) (r:Int):Prop where
 range:n<1∨5<n→r=2
 many:¬(n<1∨5<n)→st.length<1∨256<st.length∨4096<movesN st→r=5
 stop:¬(n<1∨5<n)→¬(st.length<1∨256<st.length∨4096<movesN st)→∀(x:Int) (j:Nat),Zeros (stateE n st) j→stateE n st j=x→x≠0→j<st.length→r=x
 grow:¬(n<1∨5<n)→¬(st.length<1∨256<st.length∨4096<movesN st)→Zeros (stateE n st) st.length→growsB st=false→r=21
 fine:¬(n<1∨5<n)→¬(st.length<1∨256<st.length∨4096<movesN st)→Zeros (stateE n st) st.length→growsB st=true→r=0
theorem advR (n:Int) (st:Moves):AdvR n st (checkA n st):=by
 refine ⟨fun h=>?_,fun h h2=>?_,fun h h2 x j hz hx h0 hj=>?_,fun h h2 hz hg=>?_,fun h h2 hz hg=>?_⟩
 ·unfold checkA;rw[if_pos h]
 ·unfold checkA;rw[if_neg h,if_pos h2]
 ·unfold checkA;rw[if_neg h,if_neg h2,hz.stop hx h0 hj,if_neg h0]
 ·unfold checkA;rw[if_neg h,if_neg h2,hz.done (Nat.le_refl _),if_pos rfl,hg];rfl
 ·unfold checkA;rw[if_neg h,if_neg h2,hz.done (Nat.le_refl _),if_pos rfl,hg];rfl
theorem zdi {n:Int} {st:Moves} {s:Nat} (h:(nthM st s).length=0):stateE n st s=19:=by unfold stateE;rw[if_pos h]
theorem zdJ {n:Int} {st:Moves} {s i:Nat} {x:Int} (h:(nthM st s).length≠0) (hz:Zeros (moveE n st.length (nthM st s)) i) (hx:moveE n st.length (nthM st s) i=x) (h0:x≠0) (hi:i<(nthM st s).length):stateE n st s=x:=by
 unfold stateE;rw[if_neg h];exact hz.stop hx h0 hi
theorem zgW {n:Int} {st:Moves} {s:Nat} (h:(nthM st s).length≠0) (hz:Zeros (moveE n st.length (nthM st s)) (nthM st s).length):stateE n st s=0:=by
 unfold stateE;rw[if_neg h];exact hz.done (Nat.le_refl _)
theorem xw {n:Int} {st:Moves} (h:checkA n st=0):1≤n∧n≤5∧1≤st.length∧st.length≤256∧movesN st≤4096∧MovesOK n st∧growsB st=true:=by
 unfold checkA at h;by_cases h1:n<1∨5<n
 ·rw[if_pos h1]at h;cases h
 ·rw[if_neg h1]at h;by_cases h2:st.length<1∨256<st.length∨4096<movesN st
  ·rw[if_pos h2]at h;cases h
  ·rw[if_neg h2]at h;by_cases h3:firstE (stateE n st) st.length=0
   ·rw[if_pos h3]at h;cases hg:growsB st with
    | false=>rw[hg]at h;cases h
    | true=>exact ⟨by omega,by omega,by omega,by omega,by omega,movesOK (yJ.1 h3),rfl⟩
   ·rw[if_neg h3]at h;exact absurd h h3
theorem zaM {S:Nat→Prop} {w:World} {vs:Value} {st:Moves} (n:Int) (hs:Sl (kSl (kFlat 8)) S w vs st):
  Calls Tryz.prog 141 #[.agg #[n,vs]] w (Post w fun _ r=>r=.int .i64 (checkA n st)):=by
 have HAR:=zhd (advR n st);obtain ⟨r,hr⟩:=zn (checkA n st);rw[←hr]at HAR ⊢;have HS:=zhd hs;obtain ⟨sa,sc,rfl,hm⟩:=hs.addr;have Q:=hs.idxS;have KM:Hid (∀W,Below w.heap.size w W→st.length≤1000→Calls Tryz.prog 139 #[.agg #[n,.slice sa st.length sc]] W (Post W fun _ r=>r=.int .i64 (movesN st))):=zhd fun W hW hl=>Y9 n (hs.ext hW) hl;have KG:Hid (∀W,Below w.heap.size w W→MovesOK n st→Calls Tryz.prog 159 #[.agg #[n,.slice sa st.length sc]] W (Post W fun _ r=>r=.bool (growsB st))):=zhd fun W hW hok=>zbi n (hs.ext hW) hok;have KV:Hid (∀W,Below w.heap.size w W→∀s,s<st.length→∀i,i<(nthM st s).length→∀b c,Sl (kFlat 8) S W (.slice b (nthM st s).length c) (nthM st s)→Calls Tryz.prog 158 #[.agg #[n,.slice sa st.length sc],.slice b (nthM st s).length c,i] W (Post W fun _ r=>r=.int .i64 (moveE n st.length (nthM st s) i))):=zhd fun W hW s hs' i hi b c hrow=>zc3 n (hs.ext hW) hrow hi;clear hs hr;have ex:=ze w (.cells #[n,.slice sa st.length sc] 27);have R:Row (w.alloc (.cells #[n,.slice sa st.length sc] 27)) w.heap.size 27 [n,.slice sa st.length sc]:=zi w [_,_] _;by_cases g0:n<1
 ·have RR:=zhd (HAR.out.range (.inl g0));go_enter Tryz.func141,Tryz.ntmps141;go_wp2;go_ret;exact .mk ex (zr RR.out.symm)
 by_cases g1:5<n
 ·have RR:=zhd (HAR.out.range (.inr g1));go_enter Tryz.func141,Tryz.ntmps141;go_wp2;go_ret;exact .mk ex (zr RR.out.symm)
 have HN:=zhd (show¬(n<1∨5<n) by omega);by_cases g2:st.length<1
 ·have RR:=zhd (HAR.out.many HN.out (.inl g2));go_enter Tryz.func141,Tryz.ntmps141;go_wp2;go_ret;exact .mk ex (zr RR.out.symm)
 by_cases g3:256<st.length
 ·have RR:=zhd (HAR.out.many HN.out (.inr (.inl g3)));go_enter Tryz.func141,Tryz.ntmps141;go_wp2;go_ret;exact .mk ex (zr RR.out.symm)
 have KM:=zhd (KM.out _ ex (by omega));obtain ⟨mn,hmn⟩:∃x,x=movesN st:=⟨_,rfl⟩;rw[←hmn]at KM;have HMN:=zhd hmn;clear hmn;by_cases g4:4096<mn
 ·have RR:=zhd (HAR.out.many HN.out (.inr (.inr (by rw[←HMN.out];exact g4))));go_enter Tryz.func141,Tryz.ntmps141;go_wp2_with fail;refine KM.out.mono ?_;rintro _ w1 ⟨_,rfl,hb1,rfl⟩;go_wp2;go_ret;exact .mk (za ex hb1) (zr RR.out.symm)
 have HM:=zhd (show¬(st.length<1∨256<st.length∨4096<movesN st) by rw[←HMN.out];omega);go_enter Tryz.func141,Tryz.ntmps141;go_wp2_with fail;refine KM.out.mono ?_;rintro _ w1 ⟨_,rfl,hb1,rfl⟩;have R1:=R.ext hb1;have ex1:=za ex hb1;clear R ex hb1 KM;go_wp2;clear g0 g1 g2 g3 g4;go_loopw [3] (fun i wr=>∃s:Nat,s≤st.length∧i=.int .i64 s∧Hid (Zeros (stateE n st) s)∧Below w.heap.size w wr∧Row wr w.heap.size 27 [n,.slice sa st.length sc]) (fun i _=>st.length - (intOf i).toNat)
 case atStart=>exact ⟨0,Nat.zero_le _,rfl,zhd (.zero _),ex1,R1⟩
 case round=>
  clear ex1 R1;obtain ⟨s,hs,rfl,HZ,hb,R⟩:=hrel;have t0:=R.zc 0 rfl;have t1:=R.zc 1 rfl;by_cases hlt:s<st.length
  case neg=>
   obtain rfl:s=st.length:=by omega
   have KG2:=zhd (KG.out _ hb (movesOK HZ.out));obtain ⟨b,hb'⟩:∃b,b=growsB st:=⟨_,rfl⟩;rw[←hb']at KG2;have HB:=zhd hb'.symm;clear hb';go_wp2_with fail;refine KG2.out.mono ?_;rintro _ w2 ⟨_,rfl,hb2,rfl⟩;have hx2:=za hb hb2;cases b with
   | true=>
    have RR:=zhd (HAR.out.fine HN.out HM.out HZ.out HB.out);go_wp2;go_ret;exact .mk hx2 (zr RR.out.symm)
   | false=>
    have RR:=zhd (HAR.out.grow HN.out HM.out HZ.out HB.out);go_wp2;go_ret;exact .mk hx2 (zr RR.out.symm)
  have q:=Q.out s hlt;obtain ⟨b,c,cu,hrow⟩:=HS.out.mrow hb hlt;have hlm:(nthM st s).length≤140737488355328:=HS.out.rows_few s hlt;have HSD:=zhd fun h=>zdi (n:=n) (st:=st) (s:=s) h;have HSS:=zhd fun (i:Nat) (x:Int) h hz hx h0 hi=>zdJ (n:=n) (st:=st) (s:=s) (i:=i) (x:=x) h hz hx h0 hi;have HSO:=zhd fun h hz=>zgW (n:=n) (st:=st) (s:=s) h hz;have KW:=zhd fun W hW i hi b c hr=>KV.out W hW s hlt i hi b c hr;have HROW:Hid (∀W,Below w.heap.size w W→∃b c,W.cell? (adr sa s)=some (.slice b (nthM st s).length c)∧Sl (kFlat 8) S W (.slice b (nthM st s).length c) (nthM st s)):=zhd fun W hW=>HS.out.mrow hW hlt;obtain ⟨ln,hln⟩:=zn ((nthM st s).length);rw[←hln]at cu hlm HSD HSS HSO KW HROW;clear hln hrow;by_cases hl0:ln=0
  ·have RR:=zhd (HAR.out.stop HN.out HM.out 19 s HZ.out (HSD.out hl0) (by decide) hlt);subst hl0;go_wp2;go_ret;exact .mk hb (zr RR.out.symm)
  have HL0:=zhd hl0;have dl:((ln:Int)==0)=false:=by simp;omega
  clear hl0;obtain ⟨wo,rfl⟩:∃wo:World,wo=wr:=⟨_,rfl⟩;go_wp2;clear t0 t1 q cu dl;go_loopw [4] (fun i wr=>∃i':Nat,i'≤ln∧i=.int .i64 i'∧Hid (Zeros (moveE n st.length (nthM st s)) i')∧Below w.heap.size w wr∧Row wr w.heap.size 27 [n,.slice sa st.length sc]) (fun i _=>ln - (intOf i).toNat)
  case atStart=>exact ⟨0,Nat.zero_le _,rfl,zhd (.zero _),hb,R⟩
  case round=>
   clear hb R;obtain ⟨i,hi,rfl,HZ2,hb,R⟩:=hrel;have t0:=R.zc 0 rfl;have t1:=R.zc 1 rfl;have q:=Q.out s hlt;obtain ⟨b,c,cu,hrow⟩:=HROW.out wr hb;by_cases hit:i<ln
   case neg=>
    obtain rfl:i=ln:=by omega
    have HN2:=zhd (HZ.out.next (HSO.out HL0.out HZ2.out));go_wp2;go_roundw
    case rel=>exact ⟨s+1,by omega,by go_num,HN2,hb,R⟩
    case measure=>simp[intOf];omega
   have w4':(0:Int)≤(s:Int):=by omega
   have w5':(s:Int)<(st.length:Int):=by omega
   have HRW:=zhd hrow;obtain ⟨e,he⟩:=zn (moveE n st.length (nthM st s) i);have KX:=zhd fun W hW hr=>KW.out W hW i hit b c hr;rw[←he]at KX;have HE:=zhd he.symm;clear he hrow;go_wp2;go_still_tail 7,(by kernel_rfl)
   refine Xq fun w2 hq2=>?_;clear t0 t1 q cu w4' w5';have hx2:=za hb hq2.ext;have KY:=zhd (KX.out w2 hx2 (HRW.out.ext hq2.ext));have R2:=R.ext hq2.ext;go_wp2_with fail;refine KY.out.mono ?_;rintro _ w3 ⟨_,rfl,hb3,rfl⟩;have hx3:=za hx2 hb3;have R3:=R2.ext hb3;by_cases h0:e=0
   ·subst h0;have HN3:=zhd (HZ2.out.next HE.out);go_wp2;go_roundw
    case rel=>exact ⟨i+1,by omega,by go_num,HN3,hx3,R3⟩
    case measure=>simp[intOf];omega
   ·have RR:=zhd (HAR.out.stop HN.out HM.out e s HZ.out (HSS.out i e HL0.out HZ2.out HE.out h0 hit) h0 hlt);have d0:(e !=0)=true:=by simp[h0]
    clear h0;go_wp2;go_ret;exact .mk hx3 (zr RR.out.symm)
def fewA (st:Moves):Bool:=decide (st.length≤8)&&decide (movesN st≤40)
theorem zdo {S:Nat→Prop} {w:World} {vs:Value} {st:Moves} (n:Int) (hs:Sl (kSl (kFlat 8)) S w vs st):
  Calls Tryz.prog 114 #[.agg #[n,vs]] w (Post w fun _ r=>r=.bool (fewA st)):=by
 have HS:=zhd hs;obtain ⟨sa,sc,rfl,hm⟩:=hs.addr;have KM:Hid (∀W,Below w.heap.size w W→st.length≤1000→Calls Tryz.prog 139 #[.agg #[n,.slice sa st.length sc]] W (Post W fun _ r=>r=.int .i64 (movesN st))):=zhd fun W hW hl=>Y9 n (hs.ext hW) hl;clear hs;have ex:=ze w (.cells #[n,.slice sa st.length sc] 27);have R:Row (w.alloc (.cells #[n,.slice sa st.length sc] 27)) w.heap.size 27 [n,.slice sa st.length sc]:=zi w [_,_] _;obtain ⟨mn,hmn⟩:∃x,x=movesN st:=⟨_,rfl⟩;rw[←hmn]at KM;have EF:Hid (fewA st=(decide (st.length≤8)&&decide (mn≤40))):=zhd (by rw[hmn];rfl);clear hmn;by_cases h8:st.length≤8
 ·have KM:=zhd (KM.out _ ex (by omega));by_cases h40:mn≤40
  ·have E:Hid (fewA st=true):=zhd (by rw[EF.out,decide_eq_true h8,decide_eq_true h40];rfl);go_enter Tryz.func114,Tryz.ntmps114;go_wp2_with fail;refine KM.out.mono ?_;rintro _ w1 ⟨_,rfl,hb1,rfl⟩;go_wp2;go_ret;exact .mk (za ex hb1) (zE (by rw[E.out];first | exact decide_eq_true (by omega) | simp;omega))
  ·have E:Hid (fewA st=false):=zhd (by rw[EF.out,decide_eq_true h8,decide_eq_false h40];rfl);go_enter Tryz.func114,Tryz.ntmps114;go_wp2_with fail;refine KM.out.mono ?_;rintro _ w1 ⟨_,rfl,hb1,rfl⟩;go_wp2;go_ret;exact .mk (za ex hb1) (zE (by rw[E.out];first | exact decide_eq_false (by omega) | simp;omega))
 ·have E:Hid (fewA st=false):=zhd (by rw[EF.out,decide_eq_false h8];rfl);go_enter Tryz.func114,Tryz.ntmps114;go_wp2;go_ret;exact .mk ex (zE E.out.symm)
end Go.Proofs.YtiabbjolepnjkaaGreat
namespace Go.Proofs.YtiabbjolepnjkaaGreat
open Go.RowKit Go.Shelf
attribute [local go_sem ↓] Go.wp_at_zero Go.wp_at_succ
attribute [local go_sem] Oper.semAt_some
theorem xI {T:Nat→Prop} {A B C:World} (h:Agree T A B) (k:Agree T B C):Agree T A C:=h.trans k
theorem xH {T:Nat→Prop} {w:World} (hT:∀b,T b→b<w.heap.size) (W:World) (l:Nat) (o o':Obj) (hl:w.heap.size≤l) (h:W.heap[l]? =some o) (_:o.isCells=false) (_:o.isWalk=false):Agree T W (W.putObj l o'):=
 .of_grown (grownBy_putObj' W l o') fun b hb e=>by
  have:=hT b hb;cases e;omega
theorem zY {w w':World} (h:Below w.heap.size w w'):KeepsOthers w w':=
 ⟨h.size,fun k o hk _=>(h.block k (Array.getElem?_eq_some_iff.1 hk).1).trans hk⟩
def pairsM (st:Moves):List (Nat×List Int):=(List.range st.length).flatMap fun s=>(nthM st s).map fun m=>(s,m)
def pairsTo (st:Moves) (k:Nat):List (Nat×List Int):=(List.range k).flatMap fun s=>(nthM st s).map fun m=>(s,m)
theorem qR (st:Moves) (k:Nat):pairsTo st (k+1)=pairsTo st k++(nthM st k).map fun m=>(k,m):=by
 unfold pairsTo;rw[List.range_succ,List.flatMap_append,List.flatMap_singleton]
theorem xL (st:Moves):pairsTo st st.length=pairsM st:=rfl
theorem ZG {st:Moves} {k j:Nat} (h:k<st.length):pairsTo st k++((nthM st k).take j).map (fun m=>(k,m))<+:pairsM st:=by
 have h1:pairsTo st (k+1)<+:pairsM st:=by
  rw[←xL];unfold pairsTo;obtain ⟨d,hd⟩:∃d,st.length=(k+1)+d:=⟨st.length - (k+1),by omega⟩;rw[hd,show List.range (k+1+d)=List.range (k+1)++(List.range d).map (k+1+·) from List.range_add ..,List.flatMap_append];exact List.prefix_append _ _
 refine List.IsPrefix.trans ?_ h1;rw[qR];refine (List.prefix_append_right_inj _).2 ?_;rw[List.map_take];exact List.take_prefix _ _
theorem zag {l:List (List Int)} {j k:Nat} (h:j<l.length):(l.take (j+1)).map (fun m=>(k,m))=(l.take j).map (fun m=>(k,m))++[(k,nthL l j)]:=by
 rw[yW h];simp
theorem xE (st:Moves):(pairsM st).length=movesN st:=by
 have:∀k,k≤st.length→(pairsTo st k).length=movesN (st.take k):=by
  intro k;induction k with
  | zero=>intro _;simp[pairsTo,movesN]
  | succ k ih=>
   intro hk;rw[qR,List.length_append,List.length_map,ih (by omega),ZL (by omega)]
 rw[←xL,this _ (Nat.le_refl _),List.take_length]
theorem ZJ {Px:Nat×List Int→Prop} {S T:Nat→Prop} {w:World} {n B:Nat} (hn:1≤n) {N:Int} {sa:Option Addr} {sc:Nat} {st:Moves} (R1:Row w B 27 [N,.slice sa st.length sc]) (hs:Sl (kSl (kFlat 8)) S w (.slice sa st.length sc) st) (hT1:T B) (hTS:∀b,S b→T b) (hTw:∀b,T b→b<w.heap.size) (hPx:∀k,k<st.length→∀j,j<(nthM st k).length→Px (k,nthL (nthM st k) j)):
  SeqStopsK Fence.wide n Tryz.prog 188 #[.pointer (some ⟨B,0,none⟩)] (fun x:{x:Nat×List Int // Px x}=>#[.int .i64 x.1.1,mL x.1.2]) (Agree T) (fun xs=>xs.map (·.1)=pairsM st) (fun pre=>pre.map (·.1)<+:pairsM st) (pairsM st).length w:=by
 intro l J Jx W hW hJ hJx hY h0;have Q:=hs.idxS;have HS:=zhd hs;have hst:=hs.addr;obtain ⟨_,_,_,hm⟩:=hst;have HY:=zhd hY;have H0:=zhd h0;have HJ:=zhd hJ;have R1:=R1.ext hW;have HTS:=zhd hTS;have HTw:=zhd hTw;have HPX0:=zhd hPx;have p1:=R1.zc 1 rfl;have hag:Agree T W W:=.refl _ _;have hWs:=hW.size;have AG:Hid (∀W',Agree T W W'→Sl (kSl (kFlat 8)) S W' (.slice sa st.length sc) st):=zhd fun W' h=>(hs.ext hW).agree (h.mono hTS);clear hs hJ hJx hY h0 hTS hTw hPx;refine callsIn_of_wp Tryz.func188 rfl trivial ?_ rfl;simp only[Tryz.ntmps188,List.size_toArray,List.length_cons,List.length_nil,Nat.reduceAdd,Nat.reduceSub,Array.replicate_succ,Array.replicate_zero,List.push_toArray,List.append_toArray,List.nil_append,List.cons_append];gi_wp2;gi_loopw [3,4,10] (fun _ _ i wr=>∃(k:Nat) (pre:List {x:Nat×List Int // Px x}),k≤st.length∧i=.int .i64 k∧Hid (J pre wr)∧Hid (pre.map (·.1)=pairsTo st k)∧Agree T W wr) (fun _ _ i _=>st.length - (intOf i).toNat)
 case atStart=>exact ⟨0,[],Nat.zero_le _,rfl,H0,zhd rfl,hag⟩
 case round=>
  obtain ⟨k,pre,hk,rfl,HJs,HP,hA⟩:=hrel;obtain ⟨wo,hwo⟩:∃wo:World,wo=wr:=⟨_,rfl⟩;rw[←hwo]at HJs hA ⊢;clear hwo;by_cases hlt:k<st.length
  ·have q:=Q.out k hlt;obtain ⟨b,c,cu,hrow⟩:=(AG.out wo hA).mrow (.refl _ _) hlt;have HFT:=zhd (qR st k);have HFP:=zhd (fun j=>ZG (st:=st) (k:=k) (j:=j) hlt);have HMT:=zhd fun j (h:j<(nthM st k).length)=>zag (k:=k) h;have hrl:(nthM st k).length≤140737488355328:=hrow.few;have HTL:Hid ((nthM st k).take (nthM st k).length=nthM st k):=zhd (List.take_length ..);have HPI:Hid (pre.map (·.1)=pairsTo st k++((nthM st k).take 0).map (fun m=>(k,m))):=zhd (by simpa using HP.out);have HRW:Hid (∀W',Agree T W W'→Sl (kFlat 8) S W' (.slice b (nthM st k).length c) (nthM st k)):=zhd fun W' h=>by
    obtain ⟨b',c',cu',hrow'⟩:=(AG.out W' h).mrow (.refl _ _) hlt;have e1:W'.cell? (adr sa k)=wo.cell? (adr sa k):=by
     have had:=HS.out.ad.1;rw[had.cell ((Agree.of_ext hW).trans (h.mono HTS.out)) hlt,had.cell ((Agree.of_ext hW).trans (hA.mono HTS.out)) hlt]
    rw[cu',cu]at e1;injection e1 with e1;rw[e1]at hrow';exact hrow'
   have QM:=hrow.idxM;have HPJ:=zhd (HPX0.out k hlt);obtain ⟨r,hr⟩:=zn (nthM st k);rw[←hr]at cu HFT HFP HMT hrl HTL HPI HRW QM HPJ;clear hrow hr;gi_wp2;gi_loopw [17] (fun i wi=>∃(j:Nat) (pre:List {x:Nat×List Int // Px x}),j≤r.length∧i=.int .i64 j∧Hid (J pre wi)∧Hid (pre.map (·.1)=pairsTo st k++(r.take j).map (fun m=>(k,m)))∧Agree T W wi) (fun i _=>r.length - (intOf i).toNat)
   case atStart=>exact ⟨0,pre,Nat.zero_le _,rfl,HJs,HPI,hA⟩
   case round=>
    clear HJs HP hA HPI cu;obtain ⟨j,pre,hj,rfl,HJs,HP,hA⟩:=hrel;by_cases hjl:j<r.length
    ·have qr:=QM.out j hjl;have hz:=(HRW.out wr hA).nums hjl (by decide);have z0:=hz.1;have z1:=hz.2 1 (by decide);have z2:=hz.2 2 (by decide);have z3:=hz.2 3 (by decide);have z4:=hz.2 4 (by decide);have z5:=hz.2 5 (by decide);have z6:=hz.2 6 (by decide);have z7:=hz.2 7 (by decide);have hbk:=zZ (HRW.out wr hA).ad.1 (show 0<r.length by omega) (j * 8);have hpl:pre.length<(pairsM st).length:=by
      have h2:=(HFP.out (j+1)).length_le;rw[HMT.out j hjl,←List.append_assoc,←HP.out,List.length_append,List.length_map]at h2;simp at h2;omega
     have hpx:Px (k,nthL r j):=HPJ.out j hjl;obtain ⟨m,hm'⟩:∃m,m=nthL r j:=⟨_,rfl⟩;rw[←hm']at hpx;have HPN:Hid ((pre++[(⟨(k,m),hpx⟩:{x:Nat×List Int // Px x})]).map (·.1)=pairsTo st k++(r.take (j+1)).map (fun m=>(k,m))):=zhd (by rw[HMT.out j hjl,List.map_append,HP.out,List.append_assoc];simp only[List.map_cons,List.map_nil,hm']);have HPX:Hid ((pre++[(⟨(k,m),hpx⟩:{x:Nat×List Int // Px x})]).map (·.1)<+:pairsM st):=zhd (by rw[HPN.out];exact HFP.out (j+1));rw[←hm']at z0 z1 z2 z3 z4 z5 z6 z7;have hA2:Agree T W (wr.alloc (.cells #[nth m 0,nth m 1,nth m 2,nth m 3,nth m 4,nth m 5,nth m 6,nth m 7] 155)):=hA.alloc _;have HJ2:J pre (wr.alloc (.cells #[nth m 0,nth m 1,nth m 2,nth m 3,nth m 4,nth m 5,nth m 6,nth m 7] 155)):=HJ.out pre wr _ none HJs.out (World.grownBy_alloc _ _ _) (fun r e=>by cases e);obtain ⟨fn,tmps,assign,body,hyy,hRnd⟩:=HY.out pre ⟨(k,m),hpx⟩ _ HJ2 hpl;unfold mL at hyy;dsimp only at hyy;clear hpl hm' hz HJ2;gi_wp2;refine hRnd.mono ?_;rintro e W3 (⟨rfl,hJ3,hk3⟩ | ⟨rfl,hJx3⟩)
     ·have HJ3:=zhd hJ3;have hA3:=hA2.trans hk3;clear hJ3 hyy hRnd z0 z1 z2 z3 z4 z5 z6 z7;gi_wp2;go_roundw
      case rel=>exact ⟨j+1,_,by omega,by go_num,HJ3,HPN,hA3⟩
      case measure=>simp[intOf];omega
     ·have HJ3:=zhd hJx3;clear hJx3 hyy hRnd z0 z1 z2 z3 z4 z5 z6 z7;gi_wp2;refine bodyPost_ret (results_none rfl _ _ _) rfl ?_;exact ⟨⟨_,rfl⟩,.inr ⟨_,HPX.out,HJ3.out⟩⟩
    ·obtain rfl:j=r.length:=by omega
     have HPN:Hid (pre.map (·.1)=pairsTo st (k+1)):=zhd (by rw[HFT.out,HP.out,HTL.out]);clear HP;gi_wp2;go_roundw
     case rel=>exact ⟨k+1,pre,by omega,by go_num,HJs,HPN,hA⟩
     case measure=>simp[intOf];omega
  ·obtain rfl:k=st.length:=by omega
   have HPE:Hid (pre.map (·.1)=pairsM st):=zhd HP.out;gi_wp2;go_end0;exact ⟨⟨_,rfl⟩,.inl ⟨pre,HPE.out,HJs.out⟩⟩
theorem ZK (w:World) (n:Int) (v:Value) (hv:v.cells.size=1) {a:Option Addr} {k c:Nat} (e:v=.slice a k c):Calls Tryz.prog 172 #[.agg #[n,v]] w fun e w'=>e=.returned (.func (.func 188) #[] #[.pointer (some ⟨w.heap.size,0,none⟩)])∧w'=w.alloc (.cells #[n,v] 27):=by
 subst e;go_enter Tryz.func172,Tryz.ntmps172;go_wp2;go_ret;exact ⟨rfl,rfl⟩
theorem yF {β:Type} {B g:Nat} {e:TypeId} {xs:β→List Value} (hg:g<B):OwnFrom B (fun (s:β) W=>Row W g e (xs s)):=
 fun s A C row hs hg' hr=>hs.grown hg' (fun e=>by have:=(hr _ e).1;omega)
theorem Yu {β:Type} {B:Nat} {T:Nat→Prop} {w0:World} (hT:∀b,T b→b<B):OwnFrom B (fun (_:β) W=>Agree T w0 W):=
 fun s A C row hs hg' hr=>hs.trans (.of_grown hg' fun b hb e=>by have:=hT b hb;have:=(hr _ e).1;omega)
theorem qh {β:Type} (B:Nat):OwnFrom B (fun (_:β) (_:World)=>False):=fun _ _ _ _ h _ _=>h
theorem Qy {S:Nat→Prop} {w:World} {vs:Value} {st:Moves} (n:Int) (hs:Sl (kSl (kFlat 8)) S w vs st) (hl:st.length≤1000):
  Calls Tryz.prog 170 #[.agg #[n,vs]] w (Post w fun _ r=>r=.int .i64 (if st.length<1∨256<st.length∨4096<movesN st then 5 else 0)):=by
 have hsum:movesN st≤140737488355328000:=by
  have:=Y5 hs.rows_few st.length (Nat.le_refl _);rw[List.take_length]at this;have h2:st.length * 140737488355328≤1000 * 140737488355328:=Nat.mul_le_mul_right _ hl;omega
 obtain ⟨sa,sc,rfl,hm⟩:=hs.addr;have HS:=zhd hs.block;have HLEN:=zhd (xE st);obtain ⟨r,hr⟩:∃r:Int,r=if st.length<1∨256<st.length∨4096<movesN st then 5 else 0:=⟨_,rfl⟩;rw[←hr];have HR:=zhd hr;clear hs hr;have ex:=zh (ze w (.cells #[n,.slice sa st.length sc] 27)) (.cells #[.int .i64 0] 3);have R0:Row ((w.alloc (.cells #[n,.slice sa st.length sc] 27)).alloc (.cells #[.int .i64 0] 3)) w.heap.size 27 [n,.slice sa st.length sc]:=(zi w [_,_] _).alloc _;have RN:Row ((w.alloc (.cells #[n,.slice sa st.length sc] 27)).alloc (.cells #[.int .i64 0] 3)) (w.heap.size+1) 3 [.int .i64 0]:=by
  have:=zi (w.alloc (.cells #[n,.slice sa st.length sc] 27)) [.int .i64 0] 3
  rwa [World.size_alloc]at this
 refine (callsIn_wide (n:=6)).1 ?_;refine callsIn_of_wp_marks Tryz.func170 rfl trivial ?_ rfl;simp only[Tryz.ntmps170,List.size_toArray,List.length_cons,List.length_nil,Nat.reduceAdd,Nat.reduceSub,Array.replicate_succ,Array.replicate_zero,List.push_toArray,List.append_toArray,List.nil_append,List.cons_append];obtain ⟨w2,hw2⟩:=zn ((w.alloc (.cells #[n,.slice sa st.length sc] 27)).alloc (.cells #[.int .i64 0] 3));have c0:=R0.zc 0 rfl;have c1:=R0.zc 1 rfl;rw[←hw2]at ex R0 RN;have KM:=zhd (ZK w2 n (.slice sa st.length sc) rfl rfl);gi_wp2_with fail
 rw[←hw2];clear hw2 c0 c1;refine ⟨trivial,(callsIn_wide.2 KM.out).mono ?_⟩;rintro _ _ ⟨rfl,rfl⟩;have RB:=zi w2 [n,.slice sa st.length sc] 27;have hx3:=zh ex (.cells #[n,.slice sa st.length sc] 27);have R0:=R0.alloc (.cells #[n,.slice sa st.length sc] 27);have RN:=RN.alloc (.cells #[n,.slice sa st.length sc] 27);obtain ⟨B1,hB1⟩:=zn w2.heap.size;obtain ⟨w3,hw3⟩:=zn (w2.alloc (.cells #[n,.slice sa st.length sc] 27));rw[←hB1]at RB ⊢;rw[←hw3]at RB hx3 R0 RN ⊢;have zB:=RB.lt;have zN:=RN.lt;have hB2:w.heap.size+1<B1:=by
  have:=ex.size;have e2:=hB1;have:=RN;rw[hB1];have h9:w.heap.size+1<w2.heap.size:=by
   have hz:=(show w3.heap.size=w2.heap.size+1 by rw[hw3];simp);rcases Nat.lt_or_ge (w.heap.size+1) w2.heap.size with h | h
   ·exact h
   ·have:w.heap.size+1=w2.heap.size:=by omega
    rw[this,hw3]at RN;have hx:=World.alloc_heap_new w2 (.cells #[n,.slice sa st.length sc] 27);unfold Row at RN;rw[hx]at RN;simp at RN
  exact h9
 clear hw3 hB1 KM ex;gi_wp2_with fail
 have HST:=ZJ (Px:=fun _=>True) (T:=fun b=>b<w.heap.size∨b=B1) (n:=5) (by decide) RB (HS.out.ext hx3) (.inr rfl) (fun b hb=>.inl hb.2) (fun b hb=>by have:=hx3.size;rcases hb with h | h<;>omega) (fun _ _ _ _=>trivial);have zw:=hx3.size;apply wpIn_rangeFunc_ownF (n:=6) rfl (by decide) (gf:=188) (lb:=#[.pointer (some ⟨B1,0,none⟩)]) rfl trivial (enters_of Tryz.func188 (by kernel_rfl) rfl)
  HST xI (xH (fun b hb=>by rcases hb with h | h<;>omega)) (Below.refl _ _) (fun _=>rfl)
  (fun (pre:List {x:Nat×List Int // True}) W=>Row W (w.heap.size+1) 3 [.int .i64 (pre.length:Nat)]∧(Row W w.heap.size 27 [n,.slice sa st.length sc]∧Below w.heap.size w W))
  (fun c (pre:List {x:Nat×List Int // True}) W=>False)
  (OwnFrom.and (yF (xs:=fun pre:List {x:Nat×List Int // True}=>[.int .i64 (pre.length:Nat)]) zN) (OwnFrom.and (yF (xs:=fun _=>[.int .i64 n,.slice sa st.length sc]) (by omega)) (ownFrom_below (Nat.le_refl _) zw)))
  (fun c=>qh _) ⟨RN,R0,hx3⟩
 case hassign=>
  intro l x W K hK;gi_wp2;exact hK
 case hbody=>
  rintro l pre ⟨⟨s,m⟩,_⟩ W ⟨P1,P0,hB⟩ hlen;rw[HLEN.out]at hlen;have q1:=P1.zc 0 rfl;have f1:=P1.free 0;have z1:=P1.lt;have HW:Hid (∀u,u=(pre.length:Int)+1→KeepsOthers W (W.setCell ⟨w.heap.size+1,0,none⟩ (.int .i64 u))∧Agree (fun b=>b<w.heap.size∨b=B1) W (W.setCell ⟨w.heap.size+1,0,none⟩ (.int .i64 u))∧(Row (W.setCell ⟨w.heap.size+1,0,none⟩ (.int .i64 u)) (w.heap.size+1) 3 [.int .i64 ((pre++[(⟨(s,m),trivial⟩:{x:Nat×List Int // True})]).length:Nat)]∧(Row (W.setCell ⟨w.heap.size+1,0,none⟩ (.int .i64 u)) w.heap.size 27 [n,.slice sa st.length sc]∧Below w.heap.size w (W.setCell ⟨w.heap.size+1,0,none⟩ (.int .i64 u))))):=zhd fun u hu=>by
   subst hu;refine ⟨.setCell _ _ _,.of_grown (zj _ _ _ _) fun b hb e=>?_,by simpa using P1.set 0 (.int .i64 ((pre.length:Int)+1)),P0.grown (zj _ _ _ _) (by simp),hB.setCell (by simp) _⟩;have:=Option.some.inj e;rcases hb with h | h<;>omega
  obtain ⟨k,hk⟩:=zn pre.length;rw[←hk]at HW q1 hlen;clear P1 P0 hB hk;gi_wp2;exact HW.out _ rfl
 case hstop=>
  rintro D c pre W hD hSp h hK;exact h.elim
 case hdone=>
  rintro D xs W hD hS ⟨P1,P0,hB⟩ hK;rw[show xs.length=movesN st by rw[←HLEN.out,←hS,List.length_map]]at P1;have q1:=P1.zc 0 rfl;have c1:=P0.zc 1 rfl;have hB9:=hB.grown (grownBy_putObj' W D (.deferred none)) hB.size (fun k hk=>by cases hk;omega);obtain ⟨mn,hmn⟩:∃x,x=movesN st:=⟨_,rfl⟩;rw[←hmn]at HR q1 hsum;clear P1 P0 hS hmn;have fin:∀x:Int,r=x→Post w (fun _ q=>q=.int .i64 r) (.returned (.int .i64 x)) (W.putObj D (.deferred none)):=fun x hx=>.mk hB9 (by rw[hx]);have FIN:=zhd fin;clear fin hB9;by_cases g1:st.length<1
  ·have RR:Hid (r=5):=zhd (by rw[HR.out,if_pos (.inl g1)]);gi_wp2;refine ⟨by simp,.inl ⟨_,_,rfl,run_takeDeferred hK,?_⟩⟩;exact ⟨.int .i64 5,by simp[results,Tryz.results170,go_sem],FIN.out _ RR.out⟩
  by_cases g2:256<st.length
  ·have RR:Hid (r=5):=zhd (by rw[HR.out,if_pos (.inr (.inl g2))]);gi_wp2;refine ⟨by simp,.inl ⟨_,_,rfl,run_takeDeferred hK,?_⟩⟩;exact ⟨.int .i64 5,by simp[results,Tryz.results170,go_sem],FIN.out _ RR.out⟩
  by_cases g3:4096<mn
  ·have RR:Hid (r=5):=zhd (by rw[HR.out,if_pos (.inr (.inr g3))]);gi_wp2;refine ⟨by simp,.inl ⟨_,_,rfl,run_takeDeferred hK,?_⟩⟩;exact ⟨.int .i64 5,by simp[results,Tryz.results170,go_sem],FIN.out _ RR.out⟩
  ·have RR:Hid (r=0):=zhd (by rw[HR.out,if_neg (by omega)]);gi_wp2;refine ⟨by simp,.inl ⟨_,_,rfl,run_takeDeferred hK,?_⟩⟩;exact ⟨.int .i64 0,by simp[results,Tryz.results170,go_sem],FIN.out _ RR.out⟩
def rowE (n:Int) (ns:Nat) (l:List (List Int)):Int:=if l.length=0 then 19 else firstE (moveE n ns l) l.length
theorem zad (n:Int) (st:Moves) (s:Nat):stateE n st s=rowE n st.length (nthM st s):=rfl
theorem Q5 {S S':Nat→Prop} {w:World} {vs vl:Value} {st:Moves} {l:List (List Int)} (n:Int) (hs:Sl (kSl (kFlat 8)) S' w vs st) (hv:Sl (kFlat 8) S w vl l):
  Calls Tryz.prog 171 #[.agg #[n,vs],vl] w (Post w fun _ r=>r=.int .i64 (rowE n st.length l)):=by
 have HMR:=zhd fun i=>moveR n st.length l i;have HRE:Hid (l.length=0→rowE n st.length l=19):=zhd fun h=>by unfold rowE;rw[if_pos h]
 have HRS:Hid (l.length≠0→∀i x,Zeros (moveE n st.length l) i→moveE n st.length l i=x→x≠0→i<l.length→rowE n st.length l=x):=zhd fun h i x hz hx h0 hi=>by unfold rowE;rw[if_neg h];exact hz.stop hx h0 hi
 have HRF:Hid (l.length≠0→Zeros (moveE n st.length l) l.length→rowE n st.length l=0):=zhd fun h hz=>by unfold rowE;rw[if_neg h];exact hz.done (Nat.le_refl _)
 obtain ⟨r,hr⟩:=zn (rowE n st.length l);rw[←hr]at HRE HRS HRF ⊢;obtain ⟨sa,sc,rfl,_⟩:=hs.form;obtain ⟨a,cap,rfl,ad,lo,lm⟩:=hv.form;unfold maxLen at lm;have HV:=zhd hv;have HAD:=zhd ad;have Q:=hv.idxM;have ex:=ze w (.cells #[n,.slice sa st.length sc] 27);have RA:Row (w.alloc (.cells #[n,.slice sa st.length sc] 27)) w.heap.size 27 [n,.slice sa st.length sc]:=zi w [_,_] _;clear hr hs hv ad;by_cases h0:l.length=0
 ·have RR:=zhd (HRE.out h0);have d0:((l.length:Int)==0)=true:=by simp[h0]
  clear h0;go_enter Tryz.func171,Tryz.ntmps171;go_wp2;go_ret;exact .mk ex (zr RR.out.symm)
 have d0:((l.length:Int)==0)=false:=by rw[beq_eq_false_iff_ne];omega
 have HL:=zhd h0;clear h0;go_enter Tryz.func171,Tryz.ntmps171;go_wp2;clear d0;go_loopw [5,13] (fun _ i wr=>∃k:Nat,k≤l.length∧i=.int .i64 k∧Below w.heap.size w wr∧Row wr w.heap.size 27 [n,.slice sa st.length sc]∧Hid (Zeros (moveE n st.length l) k)) (fun _ i _=>l.length - (intOf i).toNat)
 case atStart=>exact ⟨0,Nat.zero_le _,rfl,ex,RA,zhd (.zero _)⟩
 case round=>
  clear ex RA;obtain ⟨i,hik,rfl,hb,RA,HZ⟩:=hrel;by_cases hi:i<l.length
  case neg=>
   obtain rfl:i=l.length:=by omega
   have RR:=zhd (HRF.out HL.out HZ.out);go_wp2;go_ret;exact .mk hb (zr RR.out.symm)
  have q:=Q.out i hi;have hz:=(HV.out.ext hb).nums hi (by decide);have z0:=hz.1;have z1:=hz.2 1 (by decide);have z2:=hz.2 2 (by decide);have z3:=hz.2 3 (by decide);have z4:=hz.2 4 (by decide);have z5:=hz.2 5 (by decide);have z6:=hz.2 6 (by decide);have z7:=hz.2 7 (by decide);have hbk:=Nat.lt_of_lt_of_le (zZ HAD.out (by omega) (i * 8)) hb.size;have tl:=RA.lt;have HM:=zhd (HMR.out i);have HST:Hid (∀x,moveE n st.length l i=x→x≠0→r=x):=zhd fun x hx h0=>HRS.out HL.out i x HZ.out hx h0 hi;obtain ⟨m,hm⟩:=zn (nthL l i);have HMM:=zhd hm;rw[←hm]at z0 z1 z2 z3 z4 z5 z6 z7;have KR:Hid (∀W,Calls Tryz.prog 186 #[.agg #[nth m 0,nth m 1,nth m 2,nth m 3,nth m 4,nth m 5,nth m 6]] W (Post W fun _ r=>r=.int .i64 (checkR m))):=zhd fun W=>zaV W m;obtain ⟨e,he⟩:=zn (checkR m);rw[←he]at KR;have HE:Hid (checkR (nthL l i)=e):=zhd (by rw[he,hm]);have exb:=ze wr (.cells #[nth m 0,nth m 1,nth m 2,nth m 3,nth m 4,nth m 5,nth m 6,nth m 7] 155);have RM:Row (wr.alloc (.cells #[nth m 0,nth m 1,nth m 2,nth m 3,nth m 4,nth m 5,nth m 6,nth m 7] 155)) wr.heap.size 155 [nth m 0,nth m 1,nth m 2,nth m 3,nth m 4,nth m 5,nth m 6,nth m 7]:=zi wr [nth m 0,nth m 1,nth m 2,nth m 3,nth m 4,nth m 5,nth m 6,nth m 7] _;have RA1:=RA.ext exb;have hb1:=za hb exb;obtain ⟨g,hg⟩:=zn wr.heap.size;rw[←hg]at RM;clear hm he hz;go_wp2_with fail;refine (KR.out _).mono ?_;rintro _ w1 ⟨_,rfl,hbb,rfl⟩;rw[←hg];have RA2:=RA1.ext hbb;have RM2:=RM.ext hbb;have hx1:=za hb1 hbb;clear z0 z1 z2 z3 z4 z5 z6 z7 q hbk tl KR RA RA1 RM exb hb1 hbb hg hb;by_cases h0:e=0
  case neg=>
   have RR:=zhd (HST.out e (HM.out.bad e HE.out h0) h0);have d0:(e !=0)=true:=by simp[h0]
   clear h0;go_wp2;go_ret;exact .mk hx1 (zr RR.out.symm)
  subst h0;have t0:=RA2.zc 0 rfl;have m0:=RM2.zc 0 rfl;obtain ⟨mn,hmn⟩:∃x,x=nth m 0:=⟨_,rfl⟩;rw[←hmn]at m0;have HMN:Hid (nth (nthL l i) 0=mn):=zhd (by rw[hmn,HMM.out]);clear hmn;by_cases hn:mn=n
  case neg=>
   have RR:=zhd (HST.out 22 (HM.out.mis HE.out (by rw[HMN.out];exact hn)) (by decide));have d0:(mn !=n)=true:=by simp[hn]
   clear hn;go_wp2;go_ret;exact .mk hx1 (zr RR.out.symm)
  have d0:(mn !=n)=false:=by simp[hn]
  have HN:Hid (nth (nthL l i) 0=n):=zhd (by rw[HMN.out,hn]);clear hn;by_cases hi0:0<i
  case pos=>
   obtain ⟨j,hj⟩:=zn (i - 1);have hjl:j<l.length:=by omega
   have q1:=Q.out j hjl;have hz:=(HV.out.ext hx1).nums hjl (by decide);have z0:=hz.1;have z1:=hz.2 1 (by decide);have z2:=hz.2 2 (by decide);have z3:=hz.2 3 (by decide);have z4:=hz.2 4 (by decide);have z5:=hz.2 5 (by decide);have z6:=hz.2 6 (by decide);obtain ⟨m',hm'⟩:∃m,m=nthL l j:=⟨_,rfl⟩;rw[←hm']at z0 z1 z2 z3 z4 z5 z6;have KO:Hid (∀W,Calls Tryz.prog 187 #[.agg #[nth m' 0,nth m' 1,nth m' 2,nth m' 3,nth m' 4,nth m' 5,nth m' 6],.agg #[nth m 0,nth m 1,nth m 2,nth m 3,nth m 4,nth m 5,nth m 6]] W (Post W fun _ r=>r=.int .i64 (lexN m' m 7))):=zhd fun W=>zda W m' m;obtain ⟨c,hc⟩:=zn (lexN m' m 7);rw[←hc]at KO;have w1':IntKind.i64.wrap ((i:Int) - 1)=j:=by rw[IntKind.wrap_i64];omega
   have w2':decide ((0:Int)<(i:Int))=true:=decide_eq_true (by omega);have w3':decide (0<i)=true:=decide_eq_true hi0;have w4':(0:Int)≤(j:Int):=by omega
   have w5':(j:Int)<(l.length:Int):=by omega
   have HUN:Hid (0≤c→r=14):=zhd fun h=>HST.out 14 (HM.out.un HE.out HN.out hi0 j hj (by rw[←hm',←HMM.out,←hc];exact h)) (by decide);have HFI:Hid (c<0→(0<i→∀j,j=i - 1→lexN (nthL l j) (nthL l i) 7<0)):=zhd fun h _ j2 hj2=>by
    subst hj2;rw[←hj,←hm',←HMM.out,←hc];exact h
   clear hc hj hz hm';go_wp2;clear m0;have m0:=RM2.zc 0 rfl;have m1:=RM2.zc 1 rfl;have m2:=RM2.zc 2 rfl;have m3:=RM2.zc 3 rfl;have m4:=RM2.zc 4 rfl;have m5:=RM2.zc 5 rfl;have m6:=RM2.zc 6 rfl;go_still_tail 11,(by kernel_rfl)
   refine Xq fun w2 hq2=>?_;clear q1 z0 z1 z2 z3 z4 z5 z6 m0 m1 m2 m3 m4 m5 m6 t0 w1' w4' w5';go_wp2_with fail;refine (KO.out _).mono ?_;rintro _ w3 ⟨_,rfl,hb3,rfl⟩;have hq3:=za hq2.ext hb3;have hx3:=za hx1 hq3;have RA3:=RA2.ext hq3;have RM3:=RM2.ext hq3;clear KO hb3;by_cases hc0:0≤c
   ·have RR:=zhd (HUN.out hc0);go_wp2;go_ret;exact .mk hx3 (zr RR.out.symm)
   have HF:=zhd (HFI.out (by omega));have t1:=RA3.zc 1 rfl;have m7:=RM3.zc 7 rfl;obtain ⟨to,hto⟩:∃x,x=nth m 7:=⟨_,rfl⟩;rw[←hto]at m7;have HTO:Hid (nth (nthL l i) 7=to):=zhd (by rw[hto,HMM.out]);clear hto;by_cases ht1:to<0
   ·have RR:=zhd (HST.out 2 (HM.out.to HE.out HN.out HF.out (.inl (by rw[HTO.out];exact ht1))) (by decide));go_wp2;go_ret;exact .mk hx3 (zr RR.out.symm)
   by_cases ht2:(st.length:Int)≤to
   ·have RR:=zhd (HST.out 2 (HM.out.to HE.out HN.out HF.out (.inr (by rw[HTO.out];exact ht2))) (by decide));go_wp2;go_ret;exact .mk hx3 (zr RR.out.symm)
   ·have HZ2:=zhd (HZ.out.next (HM.out.fine HE.out HN.out HF.out (by rw[HTO.out];omega)));go_wp2;go_roundw
    case rel=>exact ⟨i+1,by omega,by go_num,hx3,RA3,HZ2⟩
    case measure=>simp[intOf];omega
  case neg=>
   have HF:Hid (0<i→∀j,j=i - 1→lexN (nthL l j) (nthL l i) 7<0):=zhd fun h=>by omega
   have w2':decide ((0:Int)<(i:Int))=false:=decide_eq_false (by omega);have w3':decide (0<i)=false:=decide_eq_false hi0;go_wp2;go_quiet (fail);refine zU fun w3 hq3'=>?_;have hq3:=hq3'.ext;have hx3:=za hx1 hq3;have RA3:=RA2.ext hq3;have RM3:=RM2.ext hq3;clear t0 m0;have t1:=RA3.zc 1 rfl;have m7:=RM3.zc 7 rfl;obtain ⟨to,hto⟩:∃x,x=nth m 7:=⟨_,rfl⟩;rw[←hto]at m7;have HTO:Hid (nth (nthL l i) 7=to):=zhd (by rw[hto,HMM.out]);clear hto;by_cases ht1:to<0
   ·have RR:=zhd (HST.out 2 (HM.out.to HE.out HN.out HF.out (.inl (by rw[HTO.out];exact ht1))) (by decide));go_wp2;go_ret;exact .mk hx3 (zr RR.out.symm)
   by_cases ht2:(st.length:Int)≤to
   ·have RR:=zhd (HST.out 2 (HM.out.to HE.out HN.out HF.out (.inr (by rw[HTO.out];exact ht2))) (by decide));go_wp2;go_ret;exact .mk hx3 (zr RR.out.symm)
   ·have HZ2:=zhd (HZ.out.next (HM.out.fine HE.out HN.out HF.out (by rw[HTO.out];omega)));go_wp2;go_roundw
    case rel=>exact ⟨i+1,by omega,by go_num,hx3,RA3,HZ2⟩
    case measure=>simp[intOf];omega
end Go.Proofs.YtiabbjolepnjkaaGreat
