/- Part of the proof that the laws answer true for every input. -/
import Derived.Test.YtiabbjolepnjkaaGreatPMaC05
set_option linter.unusedSimpArgs false
set_option linter.unnecessarySimpa false
set_option linter.unusedVariables false
set_option maxRecDepth 100000
set_option maxHeartbeats 40000000
namespace Go.Proofs.YtiabbjolepnjkaaGreat
open Go.RowKit
attribute [local go_sem ↓] Go.wp_at_zero Go.wp_at_succ
theorem Yb {f:Nat→Nat} {b:Nat} (h:∀k,f k≤b):∀n,sumTo f n≤n * b
 | 0=>by simp[sumTo]
 | n+1=>by
  have h1:=Yb h n;have h2:=h n;rw[Nat.succ_mul];show sumTo f n+f n≤_;omega
section
variable {T:List (List Int)} {cl:List Int} {m N K:Nat}
theorem zd2 (hb:∀k p q,manyN T cl k p q m≤60000) (k p:Nat) {n:Nat} (hn:n≤5):sumTo (bitW T cl m k p) n≤80:=by
 have:=Yb (zeN hb k p) n;have:n * 16≤5 * 16:=Nat.mul_le_mul_right _ hn;omega
theorem zdD (hN:N≤5) (hb:∀k p q,manyN T cl k p q m≤60000) (k:Nat) {n:Nat} (hn:n≤5):sumTo (bitR T cl m N k) n≤400:=by
 have:=Yb (f:=bitR T cl m N k) (b:=80) (fun p=>zd2 hb k p hN) n;have:n * 80≤5 * 80:=Nat.mul_le_mul_right _ hn;omega
theorem zf6 (hN:N≤5) (hb:∀k p q,manyN T cl k p q m≤60000) {n:Nat} (hn:n≤6):sumTo (bitC T cl m N) n≤2400:=by
 have:=Yb (f:=bitC T cl m N) (b:=400) (fun k=>zdD hN hb k hN) n;have:n * 400≤6 * 400:=Nat.mul_le_mul_right _ hn;omega
end
theorem zd6 {n b:Nat} (h:n≤100000) (hb:b≤100):wrap64 ((n:Int)+(b:Int))=((n+b:Nat):Int):=by rw[IntWalk.wrap64_in _ (by omega)];omega
theorem zcI {S S3:Nat→Prop} {w:World} {v vcl:Value} {s:SysF} {cl:List Int} (h:SysV S w v s) (hf:SmallP s.p) (h3:Ints S3 w vcl cl) (hm:s.tab.length≤60000):
  Calls Tryz.prog 34 #[v,vcl] w (Post w fun _ q=>q=.tuple #[bitA s cl,mesE s cl]):=by
 have KM:Hid (∀W,Below w.heap.size w W→Calls Tryz.prog 71 #[v,vcl] W (Post W fun _ r=>r=.int .i64 (mesE s cl))):=zhd fun W hW=>Qe (h.ext hW) hf (h3.ext hW) hm;have KN:Hid (mesE s cl=0→∀k p q:Nat,∀W,Below w.heap.size w W→Calls Tryz.prog 67 #[v,vcl,.agg #[k,p,q]] W (Post W fun _ r=>r=.int .i64 (manyN s.tab cl k p q (mN cl)))):=zhd fun h0 k p q W hW=>by
  obtain ⟨g1,g2,g3,_⟩:=XS h0;exact Qs (h.ext hW) (yF g1 h.moves8) (h3.ext hW) hm g2 g3
 have HGB:Hid (mesE s cl=0→(s.p.rounds=s.K∧s.tn=s.N∧s.K≤6∧s.N≤5)∧∀k p q,manyN s.tab cl k p q (mN cl)≤60000):=zhd fun h0=>by
  obtain ⟨g1,g2,g3,_⟩:=XS h0;have hg:=yF g1 h.moves8;refine ⟨⟨hg.rnd,hg.tn,hg.K6,hg.tab.1⟩,fun k p q=>?_⟩;have h1:=yD (r:=k) (f:=p) (t:=q) hg.tab hg.nodup (yw g2 g3) (mN cl) (Nat.le_refl _);have:=zbe g2;omega
 have HA:Hid ((mesE s cl=0→bitA s cl=bitS s.tab cl (mN cl) s.N s.K)∧(mesE s cl≠0→bitA s cl=0)):=zhd ⟨fun h0=>by unfold bitA;rw[if_pos h0],fun h0=>by unfold bitA;rw[if_neg h0]⟩;obtain ⟨z,hz⟩:=zn (bitA s cl);rw[←hz]at HA ⊢;obtain ⟨e,hee⟩:=zn (mesE s cl);rw[←hee]at KM KN HGB HA ⊢;obtain ⟨K,hK⟩:=zn s.K;obtain ⟨N,hN⟩:=zn s.N;obtain ⟨m,hmx⟩:=zn (mN cl);obtain ⟨T,hT⟩:=zn s.tab;rw[←hK,←hN]at HGB HA;rw[←hmx,←hT]at KN HGB HA;obtain ⟨ca,cc,sa,sc,ta,tc,xa,xc,rfl,hc,hs,ht,hx⟩:=h.zf;obtain ⟨a3,c3,rfl,_⟩:=h3.form;obtain ⟨ex,R0⟩:=zb1 w [s.p.n,s.p.ins,s.p.outs,.slice ca s.p.cs.length cc,s.p.an,.slice sa s.p.st.length sc,s.p.rounds,s.tn,.slice ta s.tab.length tc,.slice xa s.ex.length xc] 35;clear hc hs ht hx h3 hf hm hz hee hK hN hmx hT;obtain ⟨t0,t1,t2,t3,t4,t5,t6,t7,t8,t9⟩:=R0.ten;have l0:=R0.lt;go_enter Tryz.func34,Tryz.ntmps34;go_wp2_with fail;refine (KM.out _ ex).mono ?_;rintro _ w1 ⟨_,rfl,hb,rfl⟩;replace R0:=R0.ext hb;replace ex:=za ex hb;clear hb KM t0 t1 t2 t3 t4 t5 t6 t7 t8 t9 l0;by_cases h0:e=0
 case neg=>
  have RE:=zhd (HA.out.2 h0);have d0:(e !=0)=true:=by simp[h0]
  clear h0 HA KN HGB;go_wp2;go_ret2;exact .mk ex (tup2 RE.out.symm rfl)
 have RE:=zhd (HA.out.1 h0);have HE0:=zhd h0;have KN1:=zhd (KN.out h0);have HB:=zhd (HGB.out h0).2;obtain ⟨hrd,htn,hK6,hN5⟩:=(HGB.out h0).1;have d0:(e !=0)=false:=by simp[h0]
 clear h0 HA KN HGB;rw[hrd,htn]at R0;rw[hrd,htn]at KN1;clear hrd htn;obtain ⟨t0,t1,t2,t3,t4,t5,t6,t7,t8,t9⟩:=R0.ten;have l0:=R0.lt;go_wp2;clear t0 t1 t2 t3 t4 t5 t6 t7 t8 t9 l0 d0;go_loopw [7,8,9,10] (fun sv kv _ _ wr=>∃x k:Nat,k≤K∧sv=.int .i64 x∧kv=.int .i64 k∧Hid (x=sumTo (bitC T cl m N) k)∧Below w.heap.size w wr∧Row wr w.heap.size 35 [s.p.n,s.p.ins,s.p.outs,.slice ca s.p.cs.length cc,s.p.an,.slice sa s.p.st.length sc,K,N,.slice ta s.tab.length tc,.slice xa s.ex.length xc]) (fun _ kv _ _ _=>K - (intOf kv).toNat)
 case atStart=>exact ⟨0,0,Nat.zero_le _,rfl,rfl,zhd rfl,ex,R0⟩
 case round=>
  clear ex R0;obtain ⟨x,k,hk,rfl,rfl,HX,ex,R0⟩:=hrel;obtain ⟨t0,t1,t2,t3,t4,t5,t6,t7,t8,t9⟩:=R0.ten;have l0:=R0.lt;by_cases hlt:k<K
  case neg=>
   obtain rfl:k=K:=by omega
   have RE2:Hid (z=(x:Int)):=zhd (by rw[RE.out,HX.out];rfl);clear HX;go_wp2;go_ret2;exact .mk ex (tup2 RE2.out.symm HE0.out.symm)
  have H00:Hid (x=sumTo (bitC T cl m N) k+sumTo (bitR T cl m N k) 0):=zhd (by rw[HX.out];rfl);have HXN:Hid (∀y,y=sumTo (bitC T cl m N) k+sumTo (bitR T cl m N k) N→y=sumTo (bitC T cl m N) (k+1)):=zhd fun y h=>h;have HC0:=zhd (zf6 hN5 HB.out (show k≤6 by omega));go_wp2;clear t0 t1 t2 t3 t4 t5 t6 t7 t8 t9 l0 HX;go_loopw [7,9,10] (fun sv pv _ wr=>∃x p:Nat,p≤N∧sv=.int .i64 x∧pv=.int .i64 p∧Hid (x=sumTo (bitC T cl m N) k+sumTo (bitR T cl m N k) p)∧Below w.heap.size w wr∧Row wr w.heap.size 35 [s.p.n,s.p.ins,s.p.outs,.slice ca s.p.cs.length cc,s.p.an,.slice sa s.p.st.length sc,K,N,.slice ta s.tab.length tc,.slice xa s.ex.length xc]) (fun _ pv _ _=>N - (intOf pv).toNat)
  case atStart=>exact ⟨x,0,Nat.zero_le _,rfl,rfl,H00,ex,R0⟩
  case round=>
   clear ex R0 H00;obtain ⟨x,p,hp,rfl,rfl,HX,ex,R0⟩:=hrel;obtain ⟨t0,t1,t2,t3,t4,t5,t6,t7,t8,t9⟩:=R0.ten;have l0:=R0.lt;by_cases hlp:p<N
   case neg=>
    obtain rfl:p=N:=by omega
    have HX2:=zhd (HXN.out x HX.out);clear HX;go_wp2;go_roundw
    case rel=>exact ⟨x,k+1,by omega,rfl,by go_num,HX2,ex,R0⟩
    case measure=>simp[intOf];omega
   have H00:Hid (x=sumTo (bitC T cl m N) k+sumTo (bitR T cl m N k) p+sumTo (bitW T cl m k p) 0):=zhd (by rw[HX.out];rfl);have HXP:Hid (∀y,y=sumTo (bitC T cl m N) k+sumTo (bitR T cl m N k) p+sumTo (bitW T cl m k p) N→y=sumTo (bitC T cl m N) k+sumTo (bitR T cl m N k) (p+1)):=zhd fun y h=>by rw[h,Nat.add_assoc];rfl
   have HC1:=zhd (zdD hN5 HB.out k (show p≤5 by omega));go_wp2;clear t0 t1 t2 t3 t4 t5 t6 t7 t8 t9 l0 HX;go_loopw [7,10] (fun sv qv wr=>∃x q:Nat,q≤N∧sv=.int .i64 x∧qv=.int .i64 q∧Hid (x=sumTo (bitC T cl m N) k+sumTo (bitR T cl m N k) p+sumTo (bitW T cl m k p) q)∧Below w.heap.size w wr∧Row wr w.heap.size 35 [s.p.n,s.p.ins,s.p.outs,.slice ca s.p.cs.length cc,s.p.an,.slice sa s.p.st.length sc,K,N,.slice ta s.tab.length tc,.slice xa s.ex.length xc]) (fun _ qv _=>N - (intOf qv).toNat)
   case atStart=>exact ⟨x,0,Nat.zero_le _,rfl,rfl,H00,ex,R0⟩
   case round=>
    clear ex R0 H00;obtain ⟨x,q,hq,rfl,rfl,HX,ex,R0⟩:=hrel;obtain ⟨t0,t1,t2,t3,t4,t5,t6,t7,t8,t9⟩:=R0.ten;have l0:=R0.lt;by_cases hlq:q<N
    case neg=>
     obtain rfl:q=N:=by omega
     have HX2:=zhd (HXP.out x HX.out);clear HX;go_wp2;go_roundw
     case rel=>exact ⟨x,p+1,by omega,rfl,by go_num,HX2,ex,R0⟩
     case measure=>simp[intOf];omega
    have HXQ:Hid (x+bitW T cl m k p q=sumTo (bitC T cl m N) k+sumTo (bitR T cl m N k) p+sumTo (bitW T cl m k p) (q+1)):=zhd (by rw[HX.out,Nat.add_assoc];rfl);have hx5:x≤5000:=by
     have h1:=HC0.out;have h2:=HC1.out;have h3:=zd2 HB.out k p (show q≤5 by omega);have:=HX.out;omega
    by_cases hpq:p=q
    ·have dpq:((p:Int) !=(q:Int))=false:=by simp[hpq]
     have HX2:Hid (x=sumTo (bitC T cl m N) k+sumTo (bitR T cl m N k) p+sumTo (bitW T cl m k p) (q+1)):=zhd (by rw[←HXQ.out];unfold bitW;rw[if_pos hpq];rfl);clear HX HXQ hpq;go_wp2;go_roundw
     case rel=>exact ⟨x,q+1,by omega,rfl,by go_num,HX2,ex,R0⟩
     case measure=>simp[intOf];omega
    have dpq:((p:Int) !=(q:Int))=true:=by rw[bne_iff_ne];omega
    have hb6:=HB.out k p q;have HWD:Hid (bitW T cl m k p q=widN (manyN T cl k p q m)):=zhd (by unfold bitW;rw[if_neg hpq]);have KN2:=zhd (KN1.out k p q);obtain ⟨M,hM⟩:=zn (manyN T cl k p q m);rw[←hM]at hb6 HWD KN2;have hw16:=Zi hb6;have KW:=zhd (fun W=>zcG (w:=W) hb6);obtain ⟨b,hb⟩:=zn (widN M);rw[←hb]at HWD hw16 KW;rw[HWD.out]at HXQ;clear hpq hM hb HX HWD hb6;go_wp2_with fail;refine (KN2.out _ ex).mono ?_;rintro _ w2 ⟨_,rfl,hb,rfl⟩;replace R0:=R0.ext hb;replace ex:=za ex hb;clear hb KN2 t0 t1 t2 t3 t4 t5 t6 t7 t8 t9 l0;go_wp2_with fail;refine (KW.out _).mono ?_;rintro _ w3 ⟨_,rfl,hb,rfl⟩;replace R0:=R0.ext hb;replace ex:=za ex hb;have hwr:=zd6 (n:=x) (b:=b) (by omega) (by omega);clear hb KW;go_wp2;go_roundw
    case rel=>exact ⟨x+b,q+1,by omega,by first | rfl | go_num,by go_num,HXQ,ex,R0⟩
    case measure=>simp[intOf];omega
end Go.Proofs.YtiabbjolepnjkaaGreat
