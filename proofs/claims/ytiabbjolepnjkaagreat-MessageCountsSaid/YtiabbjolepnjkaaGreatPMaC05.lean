/- Part of the proof that the laws answer true for every input. -/
import Derived.Test.YtiabbjolepnjkaaGreatPMaC04
set_option linter.unusedSimpArgs false
set_option linter.unnecessarySimpa false
set_option linter.unusedVariables false
set_option maxRecDepth 100000
set_option maxHeartbeats 40000000
namespace Go.Proofs.YtiabbjolepnjkaaGreat
open Go.RowKit
attribute [local go_sem ↓] Go.wp_at_zero Go.wp_at_succ
theorem Qs {S S3:Nat→Prop} {w:World} {v vcl:Value} {s:SysF} {cl:List Int} {r f t:Nat} (h:SysV S w v s) (hg:GoodS s s.N s.K) (h3:Ints S3 w vcl cl) (hm:s.tab.length≤60000) (hG:Good cl) (hl:cl.length=s.tab.length):
  Calls Tryz.prog 67 #[v,vcl,.agg #[r,f,t]] w (Post w fun _ r'=>r'=.int .i64 (manyN s.tab cl r f t (mN cl))):=by
 have KN:Hid (∀W,Below w.heap.size w W→Calls Tryz.prog 66 #[v,vcl,.agg #[r,f,t]] W (Post W fun w' q=>Ints (fun b=>W.heap.size≤b) w' q (symL s.tab cl r f t (mN cl)))):=zhd fun W hW=>Yz (h.ext hW) hg (h3.ext hW) hm hG hl;have hU:=yw hG hl;have hmm:mN cl≤60000:=by have:=zbe hG;omega
 have HNB:Hid (∀k,k≤mN cl→manyN s.tab cl r f t k≤k):=zhd (yD hg.tab hg.nodup hU);have HST:Hid (∀c,c<mN cl→(manyN s.tab cl r f t (c+1):Int)=max (manyN s.tab cl r f t c:Int) (symV s.tab cl r f t c+1)):=zhd fun c hc=>zd5 hg.tab hg.nodup hU hc;have HSB:Hid (∀c,c<mN cl→ -1≤symV s.tab cl r f t c∧symV s.tab cl r f t c≤60000):=zhd fun c hc=>by
  have h1:=qg (r:=r) (f:=f) (t:=t) hg.tab hg.nodup hU hc;have h2:=yD (r:=r) (f:=f) (t:=t) hg.tab hg.nodup hU (mN cl) (Nat.le_refl _);omega
 have HZ:Hid (manyN s.tab cl r f t 0=0):=zhd Zs;obtain ⟨m,hmx⟩:=zn (mN cl);rw[←hmx]at KN HNB HST HSB hmm ⊢;obtain ⟨ca,cc,sa,sc,ta,tc,xa,xc,rfl,hc,hs,ht,hx⟩:=h.zf;obtain ⟨a3,c3,rfl,_⟩:=h3.form;obtain ⟨ex,R0,R1⟩:=zb2 w [s.p.n,s.p.ins,s.p.outs,.slice ca s.p.cs.length cc,s.p.an,.slice sa s.p.st.length sc,s.p.rounds,s.tn,.slice ta s.tab.length tc,.slice xa s.ex.length xc] [r,f,t] 35 72;clear hc hs ht hx h3 hg hm hG hl hU hmx;obtain ⟨t0,t1,t2,t3,t4,t5,t6,t7,t8,t9⟩:=R0.ten;have l0:=R0.lt;have p0:=R1.zc 0 rfl;have p1:=R1.zc 1 rfl;have p2:=R1.zc 2 rfl;have l1:=R1.lt;go_enter Tryz.func67,Tryz.ntmps67;go_wp2_with fail;refine (KN.out _ ex).mono ?_;rintro _ w1 ⟨_,rfl,hb,hi⟩;replace R0:=R0.ext hb;replace R1:=R1.ext hb;replace ex:=za ex hb;clear hb KN t0 t1 t2 t3 t4 t5 t6 t7 t8 t9 l0 p0 p1 p2 l1;obtain ⟨a5,c5,rfl,_⟩:=hi.form;rw[yB];have HI:=zhd hi;have y1:=Below.refl w1.heap.size w1;have HEX:=zhd ex;clear hi ex R0 R1;go_wp2;go_loopw [7,9] (fun nv iv wr=>∃k nx:Nat,k≤m∧iv=.int .i64 k∧nv=.int .i64 nx∧Hid (nx=manyN s.tab cl r f t k)∧Below w1.heap.size w1 wr) (fun _ iv _=>m - (intOf iv).toNat)
 case atStart=>exact ⟨0,0,Nat.zero_le _,rfl,rfl,zhd HZ.out.symm,y1⟩
 case round=>
  clear y1;obtain ⟨k,nx,hk,rfl,rfl,HNX,y1⟩:=hrel;by_cases hlt:k<m
  case neg=>
   obtain rfl:k=m:=by omega
   have RE:Hid ((nx:Int)=(manyN s.tab cl r f t k:Nat)):=zhd (by rw[HNX.out]);have HE:=zhd (za HEX.out y1);clear HNX y1;go_wp2;go_ret;exact .mk HE.out (zm RE.out)
  have qk:=(HI.out.ext y1).idx (k:=k) (by rw[yB];exact hlt);have ck:=(HI.out.ext y1).cellN (k:=k) (by rw[yB];exact hlt);rw[yB]at qk;rw[zeA _ _ _ _ _ hlt]at ck;have bk:=World.block_lt_of_cell? _ _ ck;have hnx:nx≤60000:=by have:=HNB.out k hk;have:=HNX.out;omega
  have HSTk:=zhd (HST.out k hlt);have hsb:=HSB.out k hlt;obtain ⟨z,hz⟩:=zn (symV s.tab cl r f t k);rw[←hz]at ck HSTk hsb;obtain ⟨z1,hz1⟩:∃z1:Nat,z+1=(z1:Int):=⟨(z+1).toNat,by omega⟩;have hw:wrap64 (z+1)=(z1:Int):=by rw[IntWalk.wrap64_in _ (by omega),hz1]
  have HZ1:=zhd hz1;clear hz hz1;by_cases hc:nx<z1
  ·have d:decide ((nx:Int)<(z1:Int))=true:=decide_eq_true (by omega);have HN2:Hid (z1=manyN s.tab cl r f t (k+1)):=zhd (by have h1:=HSTk.out;have h2:=HNX.out;have h3:=HZ1.out;rw[←h2,h3]at h1;omega);clear HSTk HNX hsb;go_wp2;go_roundw
   case rel=>exact ⟨k+1,z1,by omega,by go_num,by first | rfl | (simp;omega),HN2,y1⟩
   case measure=>simp[intOf];omega
  ·have d:decide ((nx:Int)<(z1:Int))=false:=decide_eq_false (by omega);have HN2:Hid (nx=manyN s.tab cl r f t (k+1)):=zhd (by have h1:=HSTk.out;have h2:=HNX.out;have h3:=HZ1.out;rw[←h2,h3]at h1;omega);clear HSTk HNX hsb;go_wp2;go_roundw
   case rel=>exact ⟨k+1,nx,by omega,by go_num,by first | rfl | (simp;omega),HN2,y1⟩
   case measure=>simp[intOf];omega
structure WidI (n b q:Nat):Prop where
 pw:q=2 ^ b
 lt:∀c,c<b→2 ^ c<n
 bb:b≤16
theorem WidI.zero (n:Nat):WidI n 0 1:=⟨rfl,fun c hc=>by omega,by omega⟩
theorem WidI.done {n b q:Nat} (h:WidI n b q) (hq:n≤q):b=widN n:=zgS (by rw[←h.pw];exact hq) h.lt
theorem WidI.next {n b q:Nat} (h:WidI n b q) (hn:n≤60000) (hq:q<n):WidI n (b+1) (2 * q):=⟨by rw[h.pw,Nat.pow_succ];omega,fun c hc=>by
 by_cases e:c=b
 ·subst e;rw[←h.pw];exact hq
 ·exact h.lt c (by omega),by
 have h1:=Zi hn;apply Decidable.byContradiction;intro h2;have hb:b=16:=by have:=h.bb;omega
 have:q=65536:=by rw[h.pw,hb]
 omega⟩
theorem zcG {w:World} {n:Nat} (hn:n≤60000):
  Calls Tryz.prog 72 #[n] w (Post w fun _ q=>q=.int .i64 (widN n)):=by
 have H0:=zhd (WidI.zero n);have ex:=Below.refl w.heap.size w;go_enter Tryz.func72,Tryz.ntmps72;go_wp2;go_loopw [3,4] (fun bv qv wr=>∃b q:Nat,bv=.int .i64 b∧qv=.int .i64 q∧1≤q∧b≤16∧Hid (WidI n b q)∧Below w.heap.size w wr) (fun _ qv _=>n - (intOf qv).toNat)
 case atStart=>exact ⟨0,1,rfl,rfl,by omega,by omega,H0,ex⟩
 case round=>
  clear ex;obtain ⟨b,q,rfl,rfl,hq,hb,HW,ex⟩:=hrel;by_cases hlt:q<n
  case neg=>
   have RE:Hid ((b:Int)=(widN n:Nat)):=zhd (by rw[←HW.out.done (by omega)]);clear HW;go_wp2;go_ret;exact .mk ex (zm RE.out)
  have HW2:=zhd (HW.out.next hn hlt);have hw1:=zaf (n:=b) (by omega);have hw2:wrap64 (2 * (q:Int))=((2 * q:Nat):Int):=by rw[IntWalk.wrap64_in _ (by omega)];omega
  have hb1:b+1≤16:=HW2.out.bb;clear HW;go_wp2;go_roundw
  case rel=>exact ⟨b+1,2 * q,by first | rfl | go_num,by first | rfl | go_num,by omega,hb1,HW2,ex⟩
  case measure=>simp[intOf];omega
end Go.Proofs.YtiabbjolepnjkaaGreat
