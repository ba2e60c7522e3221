/- Part of the proof that the laws answer true for every input. -/
import Derived.Test.YtiabbjolepnjkaaGreatPSaA32
set_option linter.unusedSimpArgs false
set_option linter.unnecessarySimpa false
set_option linter.unusedVariables false
set_option maxRecDepth 100000
set_option maxHeartbeats 40000000
namespace Go.Proofs.YtiabbjolepnjkaaGreat
theorem zeC {s:SysF} (hg:GoodS s s.N s.K) (ch:List Int):FitP s.tab (silL s) (quoL s ch):=fun v w hv hw hne hc=>by
 obtain ⟨⟨a,b,_⟩,d⟩:=zgj hg ch v w hv hw hne hc;exact ⟨⟨a,b,by rw[QK hv,QK hw]⟩,d⟩
theorem zf6 {s:SysF} {ch:List Int} (hg:GoodS s s.N s.K) (h0:verE s=0) (hk:checkS (quoL s ch)=0):mesE s (quoL s ch)=0:=by
 unfold mesE chkQ;rw[if_pos h0,if_pos hk,if_pos (ZS s ch),Q6.2 (zeC hg ch)];rfl
theorem zfi {s:SysF} {N K:Nat} (hg:GoodS s N K) {k q:Nat} (hk:k≤K) (hq:q<N):∃u,u<s.tab.length∧prcT s.tab u=q∧rndT s.tab u=k:=by
 have h1:=hg.pok.c1.1;have h2:=zbm hg.pok.mv s.p.rounds.toNat 0 (by have:=hg.pok.s1.1;omega);have h3:0<s.ex.length:=by
  rw[hg.num];exact Nat.mul_pos (by omega) h2
 obtain ⟨c,hx⟩:=hg.ex 0 h3;obtain ⟨u,hu,_,he⟩:=hx.at' k hk q hq;obtain ⟨e0,e1,_⟩:=QR N (nthC s.p.cs c).inn (nthX s.ex 0).word (nthX s.ex 0).vs k q;refine ⟨u,hu,?_,?_⟩
 ·unfold prcT;rw[he,e0];exact Int.toNat_natCast q
 ·unfold rndT;rw[he,e1];exact Int.toNat_natCast k
theorem zel {s:SysF} (hg:GoodS s s.N s.K) {cl:List Int} (hgd:Good cl) (hl:cl.length=s.tab.length) {ch:List Int} (hf:FitP s.tab ch cl) {k q:Nat} (hk:k≤s.K) (hq:q<s.N):∃c,c<mN cl∧sndB s.tab cl k q c=true:=by
 obtain ⟨u,hu,hp,hr⟩:=zfi hg hk hq;obtain ⟨c,hc,he⟩:=zfQ hgd (v:=u) (by omega);refine ⟨c,hc,qB.2 ?_⟩;obtain ⟨a,b,_⟩:=Xi (cl:=cl) (c:=c) (v:=u) (by omega) he;by_cases e:fclN cl c=u
 ·rw[e];exact ⟨hp,hr⟩
 ·obtain ⟨⟨x,y,_⟩,_⟩:=hf (fclN cl c) u (by omega) hu e (by rw[b,he]);exact ⟨x.trans hp,y.trans hr⟩
theorem zge {s:SysF} (hg:GoodS s s.N s.K) {cl:List Int} (hme:mesE s cl=0) (hgd:Good cl) (hl:cl.length=s.tab.length) {ch:List Int} (hf:FitP s.tab ch cl) {k p q:Nat} (hk:k<s.K) (hp:p<s.N) (hq:q<s.N):
  (p=q→plcE s cl k p q=11∧cntP s cl k p q=0)∧(p≠q→plcE s cl k p q=0∧cntP s cl k p q=manyN s.tab cl k p q (mN cl)∧1≤manyN s.tab cl k p q (mN cl)):=by
 have h1:=hg.rnd;have h2:=hg.tn;have e:plcE s cl k p q=if (p:Int)=q then 11 else 0:=by
  unfold plcE;rw[if_pos hme,if_neg (by omega),if_neg (by omega)]
 constructor
 ·intro hpq;rw[if_pos (by omega)]at e;exact ⟨e,by unfold cntP;rw[e];rfl⟩
 ·intro hpq;rw[if_neg (by omega)]at e;obtain ⟨c,hc,sc⟩:=zel hg hgd hl hf (Nat.le_of_lt hk) hp;obtain ⟨_,b,d⟩:=X0 (r:=k) (f:=p) (t:=q) hg.tab hg.nodup (qU hgd hl) hc;have:=d.2 sc;exact ⟨e,by unfold cntP;rw[if_pos e];simp only[Int.toNat_natCast],by omega⟩
end Go.Proofs.YtiabbjolepnjkaaGreat
namespace Go.Proofs.YtiabbjolepnjkaaGreat
open Go.RowKit
attribute [local go_sem ↓] Go.wp_at_zero Go.wp_at_succ
theorem walkMessageSums {S S2':Nat→Prop} {w:World} {vc vs vch:Value} {p:ProbD} {ch:List Int} (hc:Sl kCase S w vc p.cs) (hs:Sl (kSl (kFlat 8)) S w vs p.st) (h2:Ints S2' w vch ch):
  Calls Tryz.prog 14 #[.agg #[p.n,p.ins,p.outs,vc,p.an,vs,p.rounds],.agg #[vch]] w (Post w fun _ r=>r=.bool true):=by
 obtain ⟨ca,cc,rfl,_⟩:=hc.form;obtain ⟨sa,sc,rfl,_⟩:=hs.form;obtain ⟨a2,c2,rfl,_⟩:=h2.form;have KS:Hid (∀W,Below w.heap.size w W→Calls Tryz.prog 41 #[.agg #[p.n,p.ins,p.outs,.slice ca p.cs.length cc,p.an,.slice sa p.st.length sc,p.rounds],.agg #[.slice a2 ch.length c2],.agg #[.int .u8 (0:Nat),.int .u8 (0:Nat),.int .u8 (0:Nat),.int .u8 (0:Nat)]] W (Post W (SceQ ch))):=zhd fun W hW=>QD (hc.ext hW) (hs.ext hW) (h2.ext hW) (by decide) (by decide) (by decide);have ex:=zh (ze w (.cells #[p.n,p.ins,p.outs,.slice ca p.cs.length cc,p.an,.slice sa p.st.length sc,p.rounds] 29)) (.cells #[.slice a2 ch.length c2] 38);have R1:=((zi w [p.n,p.ins,p.outs,.slice ca p.cs.length cc,p.an,.slice sa p.st.length sc,p.rounds] 29).alloc (.cells #[.slice a2 ch.length c2] 38));have RU1:=(zi (w.alloc (.cells #[p.n,p.ins,p.outs,.slice ca p.cs.length cc,p.an,.slice sa p.st.length sc,p.rounds] 29)) [.slice a2 ch.length c2] 38);simp only[World.size_alloc]at RU1;clear hc hs h2;have zR10:=R1.zc 0 rfl;have zR11:=R1.zc 1 rfl;have zR12:=R1.zc 2 rfl;have zR13:=R1.zc 3 rfl;have zR14:=R1.zc 4 rfl;have zR15:=R1.zc 5 rfl;have zR16:=R1.zc 6 rfl;have lR1:=R1.lt;have zRU10:=RU1.zc 0 rfl;have lRU1:=RU1.lt;go_enter Tryz.func14,Tryz.ntmps14;go_wp2_with fail;refine (KS.out _ ex).mono ?_;rintro _ w1 ⟨_,rfl,hb,v,u,gx,gy,gz,b,s,rfl,hsy,hok⟩;replace R1:=R1.ext hb;replace RU1:=RU1.ext hb;replace ex:=zb ex hb;clear hb KS zR10 zR11 zR12 zR13 zR14 zR15 zR16 lR1 zRU10 lRU1;have HSY0:=hsy;obtain ⟨vc,vs,vt,vx,rfl,hc,hs,ht,hx⟩:=hsy;obtain ⟨ca2,cc2,rfl,_⟩:=hc.form;obtain ⟨sa2,sc2,rfl,_⟩:=hs.form;obtain ⟨ta2,tc2,rfl,_⟩:=ht.form;obtain ⟨xa2,xc2,rfl,_⟩:=hx.form2;clear hc hs ht hx R1 RU1;have RS:=(zi w1 [s.p.n,s.p.ins,s.p.outs,.slice ca2 s.p.cs.length cc2,s.p.an,.slice sa2 s.p.st.length sc2,s.p.rounds,s.tn,.slice ta2 s.tab.length tc2,.slice xa2 s.ex.length xc2] 35).alloc (.cells #[gx,gy,gz] 68);have RP:=zi (w1.alloc (.cells #[s.p.n,s.p.ins,s.p.outs,.slice ca2 s.p.cs.length cc2,s.p.an,.slice sa2 s.p.st.length sc2,s.p.rounds,s.tn,.slice ta2 s.tab.length tc2,.slice xa2 s.ex.length xc2] 35)) [gx,gy,gz] 68;have e2:=zh (ze w1 (.cells #[s.p.n,s.p.ins,s.p.outs,.slice ca2 s.p.cs.length cc2,s.p.an,.slice sa2 s.p.st.length sc2,s.p.rounds,s.tn,.slice ta2 s.tab.length tc2,.slice xa2 s.ex.length xc2] 35)) (.cells #[gx,gy,gz] 68);rw[World.size_alloc]at RP;go_upto_region 2 with fail;obtain ⟨w2,hw2⟩:=zn ((w1.alloc (.cells #[s.p.n,s.p.ins,s.p.outs,.slice ca2 s.p.cs.length cc2,s.p.an,.slice sa2 s.p.st.length sc2,s.p.rounds,s.tn,.slice ta2 s.tab.length tc2,.slice xa2 s.ex.length xc2] 35)).alloc (.cells #[gx,gy,gz] 68));rw[←hw2]at RS RP e2 ⊢;have HSY:=zhd (HSY0.ext e2);replace ex:=zb ex e2;obtain ⟨PB,hPB⟩:∃b,b=w1.heap.size+1:=⟨_,rfl⟩;obtain ⟨ST,hST⟩:∃b,b=w1.heap.size:=⟨_,rfl⟩;rw[←hPB]at RP ⊢;rw[←hST]at RS ⊢;clear hw2 hPB hST;cases b with
 | false=>
  clear hok RS RP e2 HSY HSY0;go_wp2_with fail;refine (xY _).mono ?_;rintro _ w99 ⟨_,rfl,hb,rfl⟩;replace ex:=zb ex hb;clear hb;go_wp2;go_ret;exact .mk ex rfl
 | true=>
 obtain ⟨hfq,h0,hL,hk,hx,hy,hz,hyz⟩:=hok rfl;clear hok;have hg:=(yH HSY0 h0).1;obtain ⟨ua,uc,rfl,_⟩:=hL.form;rw[ZS]at hL ⊢;have HL:=zhd (hL.ext e2);have hver:=(Q9 h0).1;have hme:=zf6 (ch:=ch) hg hver hk;have HGS:=zhd hg;have HFQ:=zhd hfq;have HME:=zhd hme;obtain ⟨N,hN⟩:=zn s.N;obtain ⟨K,hK⟩:=zn s.K;have hN5:N≤5:=by rw[hN];exact hg.pok.n1.2
 have hK6:K≤6:=by rw[hK];exact hg.K6
 rw[hg.rnd,hg.tn,←hN,←hK]at RS;have HKN:Hid (K=s.K∧N=s.N∧s.p.rounds=K∧s.tn=N):=zhd ⟨hK,hN,by rw[hK];exact hg.rnd,by rw[hN];exact hg.tn⟩;clear hg hver hme HSY0 hfq hL e2 hN hK;obtain ⟨cl,hcl⟩:=zn (quoL s ch);have HGD:Hid (Good cl):=zhd (by rw[hcl];exact Yz.1 hk);have HLN:Hid (cl.length=s.tab.length):=zhd (by rw[hcl];exact ZS s ch);have HFP:Hid (FitP s.tab (silL s) cl):=zhd (by rw[hcl];exact zeC HGS.out ch);rw[←hcl]at HL HME;have KB:Hid (∀W,Below w2.heap.size w2 W→Calls Tryz.prog 33 #[.agg #[s.p.n,s.p.ins,s.p.outs,.slice ca2 s.p.cs.length cc2,s.p.an,.slice sa2 s.p.st.length sc2,K,N,.slice ta2 s.tab.length tc2,.slice xa2 s.ex.length xc2],.slice ua s.tab.length uc] W (Post W fun _ q=>q=.tuple #[bitA s cl,.int .i64 0])):=zhd fun W hW=>by
  have:=Zo (HSY.out.ext hW) HFQ.out.1.p.few (HL.out.ext hW) HFQ.out.2;rw[HME.out,HKN.out.2.2.1,HKN.out.2.2.2]at this;exact this
 have KN:Hid (∀W,Below w2.heap.size w2 W→∀k p q:Nat,Calls Tryz.prog 31 #[.agg #[s.p.n,s.p.ins,s.p.outs,.slice ca2 s.p.cs.length cc2,s.p.an,.slice sa2 s.p.st.length sc2,K,N,.slice ta2 s.tab.length tc2,.slice xa2 s.ex.length xc2],.slice ua s.tab.length uc,.agg #[k,p,q]] W (Post W fun _ r=>r=.tuple #[cntP s cl k p q,plcE s cl k p q])):=zhd fun W hW k p q=>by
  have:=Qc k p q (HSY.out.ext hW) HFQ.out.1.p.few (HL.out.ext hW) HFQ.out.2;rw[HKN.out.2.2.1,HKN.out.2.2.2]at this;exact this
 obtain ⟨T,hT⟩:=zn s.tab;obtain ⟨m,hm⟩:=zn (mN cl);have HPL:Hid (∀k p q:Nat,k<K→p<N→q<N→(p=q→plcE s cl k p q=11∧cntP s cl k p q=0)∧(p≠q→plcE s cl k p q=0∧cntP s cl k p q=manyN T cl k p q m∧1≤manyN T cl k p q m)):=zhd (by
  rw[HKN.out.1,HKN.out.2.1,hT,hm];exact fun k p q a b c=>zge HGS.out HME.out HGD.out HLN.out HFP.out a b c)
 have HB:Hid (∀k p q,manyN T cl k p q m≤60000):=zhd fun k p q=>by
  have:=zef (r:=k) (f:=p) (t:=q) HGS.out.tab HGS.out.nodup (qU HGD.out HLN.out) (mN cl) (Nat.le_refl _);have h2:sndN s.tab cl k p (mN cl)≤mN cl:=by unfold sndN;refine Nat.le_trans (List.length_filter_le _ _) ?_;simp
  have h3:=zft HGD.out;have h4:=HFQ.out.2;have h5:=HLN.out;rw[hT,hm];omega
 obtain ⟨B,hB⟩:=zn (sumTo (bitC T cl m N) K);have hBA:bitA s cl=(B:Int):=by
  unfold bitA;rw[if_pos HME.out,hB,hT,hm,HKN.out.1,HKN.out.2.1];rfl
 rw[hBA]at KB;have HBB:=zhd hB;have hB24:B≤2400:=by rw[hB];exact zeu hN5 HB.out hK6
 have T0:=Below.refl w2.heap.size w2;clear hcl hT hm hB hBA h0 hk hx hy hz hyz;obtain ⟨d0,d1,d2,d3,d4,d5,d6,d7,d8,d9⟩:=RS.ten;have lS:=RS.lt;go_wp2_with fail;refine (KB.out _ T0).mono ?_;rintro _ w3 ⟨_,rfl,hb,rfl⟩;replace RS:=RS.ext hb;replace ex:=zb ex hb;replace T0:=zb T0 hb;clear hb KB d0 d1 d2 d3 d4 d5 d6 d7 d8 d9 lS RP;obtain ⟨d0,d1,d2,d3,d4,d5,d6,d7,d8,d9⟩:=RS.ten;have lS:=RS.lt;have H0:Hid ((B:Int)=(B:Int) - ((sumTo (bitC T cl m N) 0:Nat):Int)):=zhd (by simp[sumTo]);go_wp2;clear d0 d1 d2 d3 d4 d5 d6 d7 d8 d9 lS;go_loopw [9,11,12,13,14,15,16,40,46,52] (fun sv _ _ _ _ _ _ kv _ _ wr=>∃(z:Int) (k:Nat),k≤K∧sv=.int .i64 z∧kv=.int .i64 k∧Hid (z=(B:Int) - ((sumTo (bitC T cl m N) k:Nat):Int))∧Below w.heap.size w wr∧Below w2.heap.size w2 wr∧Row wr ST 35 [s.p.n,s.p.ins,s.p.outs,.slice ca2 s.p.cs.length cc2,s.p.an,.slice sa2 s.p.st.length sc2,K,N,.slice ta2 s.tab.length tc2,.slice xa2 s.ex.length xc2]) (fun _ _ _ _ _ _ _ kv _ _ _=>K - (intOf kv).toNat)
 case atStart=>exact ⟨B,0,Nat.zero_le _,rfl,rfl,H0,ex,T0,RS⟩
 case round=>
  clear ex RS T0 H0;obtain ⟨z,k,hk,rfl,rfl,HX,ex,T0,RS⟩:=hrel;obtain ⟨d0,d1,d2,d3,d4,d5,d6,d7,d8,d9⟩:=RS.ten;have lS:=RS.lt;by_cases hlt:k<K
  case neg=>
   obtain rfl:k=K:=by omega
   have hz0:z=0:=by rw[HX.out,←HBB.out];omega
   subst hz0;clear HX;go_wp2_with fail;refine (xY _).mono ?_;rintro _ w99 ⟨_,rfl,hb,rfl⟩;replace ex:=zb ex hb;clear hb d0 d1 d2 d3 d4 d5 d6 d7 d8 d9 lS;go_wp2;go_ret;exact .mk ex rfl
  have H00:Hid (z=(B:Int) - ((sumTo (bitC T cl m N) k+sumTo (bitR T cl m N k) 0:Nat):Int)):=zhd (by rw[HX.out];rfl);have HXN:Hid (∀y:Nat,y=sumTo (bitC T cl m N) k+sumTo (bitR T cl m N k) N→y=sumTo (bitC T cl m N) (k+1)):=zhd fun y h=>h;have HC0:=zhd (zeu hN5 HB.out (show k≤6 by omega));go_wp2;clear d0 d1 d2 d3 d4 d5 d6 d7 d8 d9 lS HX;go_loopw [9,12,13,14,15,16,46,52] (fun sv _ _ _ _ _ pv _ wr=>∃(z:Int) (p:Nat),p≤N∧sv=.int .i64 z∧pv=.int .i64 p∧Hid (z=(B:Int) - ((sumTo (bitC T cl m N) k+sumTo (bitR T cl m N k) p:Nat):Int))∧Below w.heap.size w wr∧Below w2.heap.size w2 wr∧Row wr ST 35 [s.p.n,s.p.ins,s.p.outs,.slice ca2 s.p.cs.length cc2,s.p.an,.slice sa2 s.p.st.length sc2,K,N,.slice ta2 s.tab.length tc2,.slice xa2 s.ex.length xc2]) (fun _ _ _ _ _ _ pv _ _=>N - (intOf pv).toNat)
  case atStart=>exact ⟨z,0,Nat.zero_le _,rfl,rfl,H00,ex,T0,RS⟩
  case round=>
   clear ex RS T0 H00;obtain ⟨z,p,hp,rfl,rfl,HX,ex,T0,RS⟩:=hrel;obtain ⟨d0,d1,d2,d3,d4,d5,d6,d7,d8,d9⟩:=RS.ten;have lS:=RS.lt;by_cases hlp:p<N
   case neg=>
    have eN:p=N:=by omega
    have HX2:Hid (z=(B:Int) - ((sumTo (bitC T cl m N) (k+1):Nat):Int)):=zhd (by rw[HX.out,eN,←HXN.out _ rfl]);clear HX eN;go_wp2;go_roundw
    case rel=>exact ⟨z,k+1,by omega,rfl,by go_num,HX2,ex,T0,RS⟩
    case measure=>simp[intOf];omega
   have H00:Hid (z=(B:Int) - ((sumTo (bitC T cl m N) k+sumTo (bitR T cl m N k) p+sumTo (bitW T cl m k p) 0:Nat):Int)):=zhd (by rw[HX.out];rfl);have HXP:Hid (∀y:Nat,y=sumTo (bitC T cl m N) k+sumTo (bitR T cl m N k) p+sumTo (bitW T cl m k p) N→y=sumTo (bitC T cl m N) k+sumTo (bitR T cl m N k) (p+1)):=zhd fun y h=>by rw[h,Nat.add_assoc];rfl
   have HC1:=zhd (zdC hN5 HB.out k (show p≤5 by omega));go_wp2;clear d0 d1 d2 d3 d4 d5 d6 d7 d8 d9 lS HX;go_loopw [9,13,14,15,16,52] (fun sv _ _ _ _ qv wr=>∃(z:Int) (q:Nat),q≤N∧sv=.int .i64 z∧qv=.int .i64 q∧Hid (z=(B:Int) - ((sumTo (bitC T cl m N) k+sumTo (bitR T cl m N k) p+sumTo (bitW T cl m k p) q:Nat):Int))∧Below w.heap.size w wr∧Below w2.heap.size w2 wr∧Row wr ST 35 [s.p.n,s.p.ins,s.p.outs,.slice ca2 s.p.cs.length cc2,s.p.an,.slice sa2 s.p.st.length sc2,K,N,.slice ta2 s.tab.length tc2,.slice xa2 s.ex.length xc2]) (fun _ _ _ _ _ qv _=>N - (intOf qv).toNat)
   case atStart=>exact ⟨z,0,Nat.zero_le _,rfl,rfl,H00,ex,T0,RS⟩
   case round=>
    clear ex RS T0 H00;obtain ⟨z,q,hq,rfl,rfl,HX,ex,T0,RS⟩:=hrel;obtain ⟨d0,d1,d2,d3,d4,d5,d6,d7,d8,d9⟩:=RS.ten;have lS:=RS.lt;by_cases hlq:q<N
    case neg=>
     have eN:q=N:=by omega
     have HX2:Hid (z=(B:Int) - ((sumTo (bitC T cl m N) k+sumTo (bitR T cl m N k) (p+1):Nat):Int)):=zhd (by rw[HX.out,eN,←HXP.out _ rfl]);clear HX eN;go_wp2;go_roundw
     case rel=>exact ⟨z,p+1,by omega,rfl,by go_num,HX2,ex,T0,RS⟩
     case measure=>simp[intOf];omega
    have hz5: -5000≤z∧z≤5000:=by
     have h1:=HC0.out;have h2:=HC1.out;have h3:=zet HB.out k p (show q≤5 by omega);have:=HX.out;omega
    obtain ⟨hz1,hz2⟩:=hz5;have hpl:=HPL.out k p q hlt hlp hlq;have hb6:=HB.out k p q;have KN2:=zhd (fun W hW=>KN.out W hW k p q);have hcase:∃M:Nat,M≤60000∧cntP s cl k p q=(M:Int)∧bitW T cl m k p q=widN M∧(p=q∧plcE s cl k p q=11∨p≠q∧plcE s cl k p q=0∧1≤M):=by
     by_cases hpq:p=q
     ·exact ⟨0,by omega,(hpl.1 hpq).2,by unfold bitW;rw[if_pos hpq];rfl,.inl ⟨hpq,(hpl.1 hpq).1⟩⟩
     ·exact ⟨_,hb6,(hpl.2 hpq).2.1,by unfold bitW;rw[if_neg hpq],.inr ⟨hpq,(hpl.2 hpq).1,(hpl.2 hpq).2.2⟩⟩
    obtain ⟨M,hM6,hcn,hbw,hor⟩:=hcase;rw[hcn]at KN2;have HXQ:Hid (∀y:Nat,y=sumTo (bitC T cl m N) k+sumTo (bitR T cl m N k) p+sumTo (bitW T cl m k p) q+widN M→y=sumTo (bitC T cl m N) k+sumTo (bitR T cl m N k) p+sumTo (bitW T cl m k p) (q+1)):=zhd fun y h=>by rw[h,←hbw,Nat.add_assoc];rfl
    clear hpl hb6 hcn hbw;obtain ⟨er,her⟩:∃e,e=plcE s cl k p q:=⟨_,rfl⟩;rw[←her]at KN2 hor;clear her;go_wp2_with fail;refine (KN2.out _ T0).mono ?_;rintro _ w4 ⟨_,rfl,hb,rfl⟩;replace RS:=RS.ext hb;replace ex:=zb ex hb;replace T0:=zb T0 hb;clear hb KN2 d0 d1 d2 d3 d4 d5 d6 d7 d8 d9 lS;have hd:((p:Int)==(q:Int))=decide (p=q):=by rw[Bool.eq_iff_iff,beq_iff_eq,decide_eq_true_iff];omega
    have hd':((p:Int) !=(q:Int))= !decide (p=q):=by unfold bne;rw[hd]
    rcases hor with ⟨hpq,rfl⟩ | ⟨hpq,rfl,hM1⟩
    all_goals
     first
      | rw[decide_eq_true hpq]at hd hd'
      | rw[decide_eq_false hpq]at hd hd'
     clear hpq;go_upto_region 20 with fail;have HJ0:Hid ((1:Nat)=2 ^ 0∧(0:Nat)≤widN M):=zhd ⟨rfl,Nat.zero_le _⟩;have hwM:=Z9 hM6;go_loopw [9,16] (fun sv pv wr=>∃j pw:Nat,sv=.int .i64 (z - (j:Int))∧pv=.int .i64 pw∧1≤pw∧pw≤120000∧j≤16∧Hid (pw=2 ^ j∧j≤widN M)∧Below w.heap.size w wr∧Below w2.heap.size w2 wr∧Row wr ST 35 [s.p.n,s.p.ins,s.p.outs,.slice ca2 s.p.cs.length cc2,s.p.an,.slice sa2 s.p.st.length sc2,K,N,.slice ta2 s.tab.length tc2,.slice xa2 s.ex.length xc2]) (fun _ pv _=>M - (intOf pv).toNat)
     case atStart=>exact ⟨0,1,by simp,rfl,by omega,by omega,by omega,HJ0,ex,T0,RS⟩
     case round=>
      clear ex RS T0 HJ0;obtain ⟨j,pw,rfl,rfl,hp1,hp2,hj,HJ,ex,T0,RS⟩:=hrel;by_cases hpw:pw<M
      case neg=>
       have ej:j=widN M:=by
        obtain ⟨e1,e2⟩:=HJ.out;rcases Nat.lt_or_eq_of_le e2 with h | h
        ·have:=(Xh M).2 j h;omega
        ·exact h
       have HX2:Hid (z - (j:Int)=(B:Int) - ((sumTo (bitC T cl m N) k+sumTo (bitR T cl m N k) p+sumTo (bitW T cl m k p) (q+1):Nat):Int)):=zhd (by rw[←HXQ.out _ rfl,HX.out,←ej];omega);clear HX HJ ej;go_wp2;go_roundw
       case rel=>exact ⟨_,q+1,by omega,rfl,by go_num,HX2,ex,T0,RS⟩
       case measure=>simp[intOf];omega
      have HJ2:Hid (pw * 2=2 ^ (j+1)∧j+1≤widN M):=zhd (by
       obtain ⟨e1,e2⟩:=HJ.out;refine ⟨by rw[e1,Nat.pow_succ],?_⟩;rcases Nat.lt_or_eq_of_le e2 with h | h
       ·omega
       ·have:=(Xh M).1;rw[←h,←e1]at this;omega)
      have hj2:=HJ2.out.2;clear HX HJ;go_wp2;go_roundw
      case rel=>exact ⟨j+1,pw * 2,by go_num,by go_num,by omega,by omega,by omega,HJ2,ex,T0,RS⟩
      case measure=>simp[intOf];omega
end Go.Proofs.YtiabbjolepnjkaaGreat
